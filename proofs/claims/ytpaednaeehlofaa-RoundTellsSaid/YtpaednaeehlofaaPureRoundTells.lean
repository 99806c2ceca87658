/-
Proved: the Go function RoundTells of package earshotlaw02 returns true for every input, and its arguments read behind the call as before. Conditions: none beyond the given row's.
-/
import Derived.Test.YtpaednaeehlofaaPRoundTellsx5
namespace Go.Proofs.Ytpaednaeehlofaa.Pure
open Go.RowKit Go.Proofs.Ytpaednaeehlofaa.PRoundTells Go.Proofs.YtpaednaeehlofaaW.PrintWords Go.Proofs.YtpaednaeehlofaaW.PrintLast Go.Proofs.YtpaednaeehlofaaW.PrintMore

theorem w64 {x : Int} (h0 : -9223372036854775808 ≤ x) (h1 : x ≤ 9223372036854775807) : wrap64 x = x := by unfold wrap64; omega
theorem w64_def (x : Int) : wrap64 x = (x + 9223372036854775808) % 18446744073709551616 - 9223372036854775808 := by unfold wrap64; omega
theorem w64_range (x : Int) : -9223372036854775808 ≤ wrap64 x ∧ wrap64 x ≤ 9223372036854775807 := by unfold wrap64; omega
theorem iw64 (x : Int) : IntKind.i64.wrap x = wrap64 x := by rw [IntKind.wrap_i64, w64_def]

theorem and_mask (x : Int) (m : Nat) (hm : m ≤ 62) : Go.bits .and .i64 x (2 ^ m - 1) = x % 2 ^ m := by
  have hp : 0 < 2 ^ m := Nat.two_pow_pos m
  have hc : ((2 : Int) ^ m - 1) = ((2 ^ m - 1 : Nat) : Int) := by rw [Int.natCast_sub hp]; simp
  have hlt : (2 : Nat) ^ m ≤ 2 ^ 62 := Nat.pow_le_pow_right (by decide) hm
  have hmod : (2 ^ m - 1) % 2 ^ 64 = 2 ^ m - 1 := Nat.mod_eq_of_lt (by omega)
  have hd : (2 : Int) ^ m ∣ 2 ^ 64 := ⟨2 ^ (64 - m), by rw [← Int.pow_add]; congr 1; omega⟩
  have hx0 : 0 ≤ x % 2 ^ 64 := Int.emod_nonneg _ (by decide)
  rw [hc]
  show IntKind.i64.wrap (((BitVec.ofInt 64 x &&& BitVec.ofInt 64 ((2 ^ m - 1 : Nat) : Int)).toNat : Nat) : Int) = _
  rw [BitVec.toNat_and, BitVec.ofInt_natCast, BitVec.toNat_ofNat, BitVec.toNat_ofInt, hmod, Nat.and_two_pow_sub_one_eq_mod]
  have e : (((x % ((2 ^ 64 : Nat) : Int)).toNat % 2 ^ m : Nat) : Int) = x % 2 ^ m := by
    rw [Int.natCast_emod, Int.toNat_of_nonneg (by simpa using hx0)]
    simp only [Int.natCast_pow, Int.cast_ofNat_Int]
    exact Int.emod_emod_of_dvd _ hd
  have l0 : 0 ≤ x % 2 ^ m := Int.emod_nonneg _ (by exact_mod_cast Nat.ne_of_gt hp)
  have l1 : x % 2 ^ m < 2 ^ m := Int.emod_lt_of_pos _ (by exact_mod_cast hp)
  have l2 : (2 : Int) ^ m ≤ 2 ^ 62 := by exact_mod_cast hlt
  rw [e, iw64, w64] <;> omega

theorem xor_neg (x : Int) (h0 : -9223372036854775808 ≤ x) (h1 : x ≤ 9223372036854775807) : Go.bits .xor .i64 (-1) x = -1 - x := by
  have e : BitVec.ofInt 64 (-1) ^^^ BitVec.ofInt 64 x = ~~~ BitVec.ofInt 64 x := by
    have : BitVec.ofInt 64 (-1) = BitVec.allOnes 64 := by decide
    rw [this]; exact BitVec.allOnes_xor
  show IntKind.i64.wrap (((BitVec.ofInt 64 (-1) ^^^ BitVec.ofInt 64 x).toNat : Nat) : Int) = _
  rw [e, BitVec.toNat_not, BitVec.toNat_ofInt, iw64]
  unfold wrap64
  have : (0:Int) ≤ x % 18446744073709551616 := by omega
  simp only [Nat.reducePow, Int.cast_ofNat_Int]
  omega

theorem or_join (h l : Int) (l0 : 0 ≤ l) (l1 : l < 4294967296) (h0 : -2147483648 ≤ h) (h1 : h < 2147483648) : Go.bits .or .i64 (h * 4294967296) l = h * 4294967296 + l := by
  show IntKind.i64.wrap (((BitVec.ofInt 64 (h * 4294967296) ||| BitVec.ofInt 64 l).toNat : Nat) : Int) = _
  rw [BitVec.toNat_or, BitVec.toNat_ofInt, BitVec.toNat_ofInt, iw64]
  obtain ⟨a, ha⟩ : ∃ a : Nat, (a : Int) = h % 4294967296 := ⟨(h % 4294967296).toNat, by omega⟩
  have e1 : ((h * 4294967296) % ((2 ^ 64 : Nat) : Int)).toNat = 2 ^ 32 * a := by simp only [Nat.reducePow, Int.cast_ofNat_Int]; omega
  have e2 : (l % ((2 ^ 64 : Nat) : Int)).toNat = l.toNat := by simp only [Nat.reducePow, Int.cast_ofNat_Int]; omega
  rw [e1, e2, ← Nat.two_pow_add_eq_or_of_lt (by omega)]
  unfold wrap64
  simp only [Nat.reducePow]
  omega
def inR (x : Int) : Prop := -9223372036854775808 ≤ x ∧ x ≤ 9223372036854775807
instance (x : Int) : Decidable (inR x) := inferInstanceAs (Decidable (_ ∧ _))
theorem wf_inR {x : Int} (h : (Lit.int .i64 x).wf = true) : inR x := by
  simp [Lit.wf, IntKind.min, IntKind.max, IntKind.signed, IntKind.bits] at h
  unfold inR; omega
theorem rd_get {xs : List Int} {i : Nat} (h : i < xs.length) : rd xs (i : Int) = xs[i] := by unfold rd; simp [h]

/-- The lower end of bits. -/
def lowB (b : Int) : Int := -(2 ^ (b.toNat - 1))
theorem lowB_fin : ∀ n : Fin 64, shr .i64 (-9223372036854775808) (wrap64 (64 - ((n.val : Int) + 1))) = lowB ((n.val : Int) + 1) ∧ -9223372036854775808 ≤ lowB ((n.val : Int) + 1) ∧ lowB ((n.val : Int) + 1) ≤ -1 := by decide +kernel
theorem lowB_all {b : Int} (h0 : 1 ≤ b) (h1 : b ≤ 64) : shr .i64 (-9223372036854775808) (wrap64 (64 - b)) = lowB b ∧ -9223372036854775808 ≤ lowB b ∧ lowB b ≤ -1 := by
  have h := lowB_fin ⟨(b - 1).toNat, by omega⟩
  have e : (((b - 1).toNat : Nat) : Int) + 1 = b := by omega
  simp only [e] at h
  exact h
theorem lowB_mono {b c : Int} (h0 : 1 ≤ b) (h : b ≤ c) : lowB c ≤ lowB b := by
  unfold lowB
  have : (2 : Int) ^ (b.toNat - 1) ≤ 2 ^ (c.toNat - 1) := by exact_mod_cast Nat.pow_le_pow_right (by decide) (by omega)
  omega
theorem ends_in {b : Int} (h0 : 1 ≤ b) (h1 : b ≤ 64) : sat_ends.f b = some (lowB b, -1 - lowB b, true) := by
  obtain ⟨e, l, u⟩ := lowB_all h0 h1
  unfold sat_ends.f
  rw [if_neg (by omega), if_neg (by omega), if_pos (by rw [w64] <;> omega), e, xor_neg _ (by omega) (by omega)]
theorem ends_out {b : Int} (h : b < 1 ∨ 64 < b) : sat_ends.f b = some (0, 0, false) := by
  unfold sat_ends.f
  by_cases h0 : b < 1
  · rw [if_pos h0]
  · rw [if_neg h0, if_pos (by omega)]
def clampV (x l h : Int) : Int := if x < l then l else if x > h then h else x
theorem clamp_v (x l h : Int) : sat_Clamp.f x l h = some (clampV x l h) := by
  unfold sat_Clamp.f clampV
  split
  · rfl
  · split <;> rfl
/-- What clamped to the ends of bits is. -/
def satV (x b : Int) : Int := if 1 ≤ b ∧ b ≤ 64 then clampV x (lowB b) (-1 - lowB b) else 0
theorem sat_v (x b : Int) : sat_Sat.f x b = some (satV x b) := by
  unfold sat_Sat.f satV
  by_cases h : 1 ≤ b ∧ b ≤ 64
  · rw [ends_in h.1 h.2, if_pos h]; simp [clamp_v]
  · rw [ends_out (by omega), if_neg h]; simp
theorem clampV_in {x l h : Int} (hl : l ≤ h) : l ≤ clampV x l h ∧ clampV x l h ≤ h := by unfold clampV; split <;> (try split) <;> omega
theorem clampV_id {x l h : Int} (h0 : l ≤ x) (h1 : x ≤ h) : clampV x l h = x := by unfold clampV; split <;> (try split) <;> omega
theorem clampV_mono {x y l h : Int} (hl : l ≤ h) (hxy : x ≤ y) : clampV x l h ≤ clampV y l h := by unfold clampV; split <;> (try split) <;> (try split) <;> (try split) <;> omega
theorem satV_in {x b : Int} (h0 : 1 ≤ b) (h1 : b ≤ 64) : lowB b ≤ satV x b ∧ satV x b ≤ -1 - lowB b := by
  have := lowB_all h0 h1
  unfold satV; rw [if_pos ⟨h0, h1⟩]; exact clampV_in (by omega)

def fitsV (x b : Int) : Bool := decide (1 ≤ b ∧ b ≤ 64 ∧ lowB b ≤ x ∧ x ≤ -1 - lowB b)
theorem fits_v (x b : Int) : sat_Fits.f x b = some (fitsV x b) := by
  unfold sat_Fits.f fitsV
  by_cases h : 1 ≤ b ∧ b ≤ 64
  · rw [ends_in h.1 h.2]
    by_cases h2 : x ≥ lowB b
    · simp [h2, h.1, h.2]
    · simp [h2]
  · rw [ends_out (by omega)]; simp; omega
theorem fitsV_iff {x b : Int} (h0 : 1 ≤ b) (h1 : b ≤ 64) : fitsV x b = true ↔ satV x b = x := by
  have := lowB_all h0 h1
  unfold fitsV satV clampV; rw [if_pos ⟨h0, h1⟩]
  simp only [decide_eq_true_eq]
  split
  · omega
  · split <;> omega

/-- What a sum tells. -/
def sumV (xs : List Int) : Int × Bool := if inR xs.sum then (xs.sum, true) else (0, false)
def hiS (xs : List Int) : Int := (xs.map (· / 4294967296)).sum
def loS (xs : List Int) : Int := (xs.map (· % 4294967296)).sum
theorem hi_lo (xs : List Int) : xs.sum = hiS xs * 4294967296 + loS xs := by
  induction xs with
  | nil => rfl
  | cons x xs ih => simp only [hiS, loS, List.map_cons, List.sum_cons] at ih ⊢; omega
theorem hi_range (xs : List Int) (h : ∀ x ∈ xs, inR x) : -2147483648 * xs.length ≤ hiS xs ∧ hiS xs ≤ 2147483647 * xs.length := by
  induction xs with
  | nil => simp [hiS]
  | cons x xs ih =>
    have hx := h x (List.mem_cons_self ..)
    have := ih (fun y hy => h y (List.mem_cons_of_mem _ hy))
    unfold inR at hx
    simp only [hiS, List.map_cons, List.sum_cons, List.length_cons] at this ⊢
    omega
theorem lo_range (xs : List Int) : 0 ≤ loS xs ∧ loS xs ≤ 4294967295 * xs.length := by
  induction xs with
  | nil => simp [loS]
  | cons x xs ih =>
    simp only [loS, List.map_cons, List.sum_cons, List.length_cons] at ih ⊢
    omega
theorem hi_take (xs : List Int) (i : Nat) (h : i < xs.length) : hiS (xs.take (i + 1)) = hiS (xs.take i) + xs[i] / 4294967296 := by
  unfold hiS; rw [List.take_succ_eq_append_getElem h, List.map_append, List.sum_append]; simp only [List.map_cons, List.map_nil, List.sum_cons, List.sum_nil, Int.add_zero]
theorem lo_take (xs : List Int) (i : Nat) (h : i < xs.length) : loS (xs.take (i + 1)) = loS (xs.take i) + xs[i] % 4294967296 := by
  unfold loS; rw [List.take_succ_eq_append_getElem h, List.map_append, List.sum_append]; simp only [List.map_cons, List.map_nil, List.sum_cons, List.sum_nil, Int.add_zero]
theorem fits32 (x : Int) : fitsV x 32 = decide (-2147483648 ≤ x ∧ x ≤ 2147483647) := by
  unfold fitsV
  have : lowB 32 = -2147483648 := by decide
  rw [this]; simp
theorem sum_loop (xs : List Int) (hr : ∀ x ∈ xs, inR x) (hn : xs.length ≤ 1073741824) : ∀ (d k i : Nat), i + d = xs.length → d < k →
    sat_Sum.l0 k (hiS (xs.take i)) (loS (xs.take i)) xs (xs.length : Int) (i : Int) = some (sumV xs) := by
  intro d
  induction d with
  | zero =>
    intro k i hd hk
    obtain ⟨k, rfl⟩ : ∃ m, k = m + 1 := ⟨k - 1, by omega⟩
    have h1 := hi_range xs hr
    have h2 := lo_range xs
    have h3 := hi_lo xs
    simp only [sat_Sum.l0]
    rw [if_neg (by omega), List.take_of_length_le (by omega), fits_v, fits32]
    have e : wrap64 (hiS xs + loS xs / 4294967296) = hiS xs + loS xs / 4294967296 := by rw [w64] <;> omega
    have em : Go.bits .and .i64 (loS xs) 4294967295 = loS xs % 4294967296 := and_mask (loS xs) 32 (by decide)
    simp only [Option.bind_some, decide_eq_true_eq]
    rw [e, em]
    unfold sumV
    by_cases hc : -2147483648 ≤ hiS xs + loS xs / 4294967296 ∧ hiS xs + loS xs / 4294967296 ≤ 2147483647
    · rw [if_pos hc, w64 (by omega) (by omega), or_join _ _ (by omega) (by omega) (by omega) (by omega), if_pos (show inR xs.sum from by unfold inR; omega)]
      congr 2
      omega
    · rw [if_neg hc, if_neg (show ¬ inR xs.sum from by unfold inR; omega)]
  | succ d ih =>
    intro k i hd hk
    obtain ⟨k, rfl⟩ : ∃ m, k = m + 1 := ⟨k - 1, by omega⟩
    have hi : i < xs.length := by omega
    have h1 := hi_range (xs.take (i + 1)) (fun x hx => hr x (List.mem_of_mem_take hx))
    have h2 := lo_range (xs.take (i + 1))
    have hl : (xs.take (i + 1)).length = i + 1 := by rw [List.length_take]; omega
    rw [hl] at h1 h2
    simp only [sat_Sum.l0]
    rw [if_pos (by omega), if_pos (by omega), if_pos (by omega), rd_get hi]
    have em : Go.bits .and .i64 xs[i] 4294967295 = xs[i] % 4294967296 := and_mask _ 32 (by decide)
    rw [em, ← hi_take xs i hi, ← lo_take xs i hi, w64 (by omega) (by omega), w64 (by omega) (by omega), w64 (by omega) (by omega)]
    exact ih k (i + 1) (by omega) (by omega)
theorem sum_v (xs : List Int) (hr : ∀ x ∈ xs, inR x) (hn : xs.length ≤ 1073741824) (k : Nat) (hk : xs.length < k) : sat_Sum.f k xs = some (sumV xs) := by
  unfold sat_Sum.f
  have := sum_loop xs hr hn xs.length k 0 (by omega) hk
  simpa [hiS, loS] using this

/-- A product, if there is one. -/
def mulV (a b : Int) : Int × Bool := if inR (a * b) then (a * b, true) else (0, false)
theorem mul_v {a b : Int} (ha : inR a) (hb : inR b) (k : Nat) : sat_Mul.f (k + 1) a b = some (mulV a b) := by
  have key : ∀ z : Bool, z = decide (a = 0 ∨ b = 0) → sat_Mul.j0 (k + 1) a b z = some (mulV a b) := by
    intro z hz
    simp only [sat_Mul.j0]
    by_cases h0 : a = 0 ∨ b = 0
    · have hp : a * b = 0 := by rcases h0 with rfl | rfl <;> simp
      subst hz
      rw [if_pos (by simp [h0])]
      unfold mulV; rw [hp, if_pos (by decide)]
    · subst hz
      rw [if_neg (by simp [h0]), if_neg (by omega)]
      have e := Int.tmod_add_mul_tdiv (wrap64 (a * b)) b
      have hm : -(b.natAbs : Int) < Int.tmod (wrap64 (a * b)) b ∧ Int.tmod (wrap64 (a * b)) b < b.natAbs := by
        by_cases hp : 0 < b
        · have h1 := Int.tmod_lt_of_pos (wrap64 (a * b)) hp
          have h2 := Int.lt_tmod_of_pos (wrap64 (a * b)) hp
          omega
        · have h1 := Int.tmod_lt_of_pos (wrap64 (a * b)) (b := -b) (by omega)
          have h2 := Int.lt_tmod_of_pos (wrap64 (a * b)) (b := -b) (by omega)
          rw [Int.tmod_neg] at h1 h2
          omega
      have hw := w64_def (a * b)
      have hr := w64_range (a * b)
      unfold inR at ha hb
      by_cases hin : inR (a * b)
      · have hp : wrap64 (a * b) = a * b := by unfold inR at hin; exact w64 hin.1 hin.2
        have hq : Int.tdiv (a * b) b = a := Int.mul_tdiv_cancel _ (by omega)
        have c1 : ¬ (a = -1 ∧ b = -9223372036854775808) := by rintro ⟨rfl, rfl⟩; exact absurd hin (by decide)
        have c2 : ¬ (b = -1 ∧ a = -9223372036854775808) := by rintro ⟨rfl, rfl⟩; exact absurd hin (by decide)
        rw [hp, hq, w64 ha.1 ha.2, if_pos rfl]
        unfold mulV; rw [if_pos hin]
        repeat' split
        all_goals first | rfl | (exfalso; omega)
      · unfold mulV; rw [if_neg hin]
        split
        · rename_i hq
          by_cases hs : a = -1 ∧ b = -9223372036854775808
          · rw [if_pos hs.1, if_pos hs.2]
          · by_cases hs2 : b = -1 ∧ a = -9223372036854775808
            · obtain ⟨rfl, rfl⟩ := hs2; decide
            · exfalso
              have hq2 : Int.tdiv (wrap64 (a * b)) b = a := by
                have hle := Int.natAbs_tdiv_le_natAbs (wrap64 (a * b)) b
                by_cases ht : Int.tdiv (wrap64 (a * b)) b ≤ 9223372036854775807
                · rw [w64 (by omega) ht] at hq; exact hq
                · have ht2 : Int.tdiv (wrap64 (a * b)) b = 9223372036854775808 := by omega
                  rw [ht2] at hq e
                  have : wrap64 9223372036854775808 = -9223372036854775808 := by rw [w64_def]; decide
                  rw [this] at hq
                  subst hq
                  have hb1 : b = -1 := by omega
                  exact absurd ⟨hb1, rfl⟩ hs2
              rw [hq2] at e
              have ec : b * a = a * b := Int.mul_comm b a
              apply hin
              unfold inR
              omega
        · rfl
  unfold sat_Mul.f
  by_cases h : a = 0
  · rw [if_pos h]; exact key true (by simp [h])
  · rw [if_neg h]; exact key _ (by rw [show decide (a = 0 ∨ b = 0) = decide (b = 0) from by simp [h]]; rfl)
theorem mul_vk {a b : Int} (ha : inR a) (hb : inR b) (k : Nat) (hk : 1 ≤ k) : sat_Mul.f k a b = some (mulV a b) := by
  obtain ⟨k, rfl⟩ : ∃ m, k = m + 1 := ⟨k - 1, by omega⟩
  exact mul_v ha hb k

theorem ediv_bounds {x n : Int} (hn : 1 ≤ n) : (0 ≤ x → 0 ≤ x / n ∧ x / n ≤ x) ∧ (x < 0 → x ≤ x / n ∧ x / n ≤ -1) := by
  constructor
  · intro h
    exact ⟨Int.ediv_nonneg h (by omega), Int.ediv_le_self n h⟩
  · intro h
    constructor
    · refine Int.le_ediv_of_mul_le (by omega) ?_
      have h2 := Int.mul_nonpos_of_nonpos_of_nonneg (show x ≤ 0 by omega) (show 0 ≤ n - 1 by omega)
      rw [Int.mul_sub] at h2
      omega
    · have := Int.ediv_lt_of_lt_mul (a := x) (b := 0) (c := n) (by omega) (by omega)
      omega
theorem parts_in {x n : Int} (hx : inR x) (hn : 1 ≤ n) (hn2 : n ≤ 9223372036854775807) : round_Parts.f x n = some (x / n, x % n) := by
  unfold inR at hx
  have hb := ediv_bounds (x := x) hn
  have e := Int.tmod_add_mul_tdiv x n
  have h1 := Int.tmod_lt_of_pos x (show 0 < n by omega)
  have h2 := Int.lt_tmod_of_pos x (show 0 < n by omega)
  unfold round_Parts.f
  rw [if_neg (by omega), if_neg (by omega)]
  by_cases hr : Int.tmod x n < 0
  · have hu : x / n = Int.tdiv x n - 1 ∧ x % n = Int.tmod x n + n := (Int.ediv_emod_unique (by omega)).mpr ⟨by rw [Int.mul_sub]; omega, by omega, by omega⟩
    have hneg : x < 0 := by
      by_cases h : 0 ≤ x
      · have := Int.tmod_nonneg n h; omega
      · omega
    have := hb.2 hneg
    rw [if_pos hr, w64 (x := Int.tdiv x n) (by omega) (by omega), w64 (by omega) (by omega), w64 (by omega) (by omega), hu.1, hu.2]
  · have hu : x / n = Int.tdiv x n ∧ x % n = Int.tmod x n := (Int.ediv_emod_unique (by omega)).mpr ⟨by omega, by omega, by omega⟩
    rw [if_neg hr, w64 (by omega) (by omega), hu.1, hu.2]
theorem parts_out {x n : Int} (hn : n < 1) : round_Parts.f x n = some (0, 0) := by unfold round_Parts.f; rw [if_pos hn]
/-- Divided, and rounded. -/
def divV (x n : Int) : Int := if n < 1 then 0 else (2 * x + n) / (2 * n)
theorem div_split {x n : Int} (hn : 1 ≤ n) : (2 * x + n) / (2 * n) = x / n + (if n ≤ 2 * (x % n) then 1 else 0) := by
  have e := Int.emod_add_mul_ediv x n
  have h1 := Int.emod_nonneg x (show n ≠ 0 by omega)
  have h2 := Int.emod_lt_of_pos x (show 0 < n by omega)
  have e2 : 2 * x = 2 * (x % n) + 2 * n * (x / n) := by
    have : 2 * n * (x / n) = 2 * (n * (x / n)) := by rw [Int.mul_assoc]
    omega
  split
  · refine ((Int.ediv_emod_unique (r := 2 * (x % n) - n) (by omega)).mpr ⟨?_, by omega, by omega⟩).1
    rw [Int.mul_add]; omega
  · refine ((Int.ediv_emod_unique (r := 2 * (x % n) + n) (by omega)).mpr ⟨?_, by omega, by omega⟩).1
    rw [Int.mul_add]; omega
theorem div_v {x n : Int} (hx : inR x) (hn2 : n ≤ 9223372036854775807) : round_Div.f x n = some (divV x n) := by
  unfold round_Div.f divV
  by_cases hn : n < 1
  · rw [parts_out hn, if_pos hn]; simp only [Option.bind_some]; rw [if_neg (by omega)]
  · have hb := ediv_bounds (x := x) (n := n) (by omega)
    have h1 := Int.emod_nonneg x (show n ≠ 0 by omega)
    have h2 := Int.emod_lt_of_pos x (show 0 < n by omega)
    unfold inR at hx
    rw [parts_in hx (by omega) hn2, if_neg hn, div_split (by omega)]
    simp only [Option.bind_some]
    rw [w64 (x := n - x % n) (by omega) (by omega)]
    by_cases hc : n ≤ 2 * (x % n)
    · rw [if_pos (by omega), if_pos hc]
      have hn3 : 2 ≤ n := by omega
      have : x / n ≤ 4611686018427387904 := by
        have h : x / n < 4611686018427387905 := Int.ediv_lt_of_lt_mul (by omega) (by have := Int.mul_le_mul_of_nonneg_left hn3 (show (0:Int) ≤ 4611686018427387905 by decide); omega)
        omega
      rw [w64 (by omega) (by omega)]
    · rw [if_neg (by omega), if_neg hc]; simp
/-- Divided by 2^k, and rounded. -/
def halfV (x k : Int) : Int := if 0 ≤ k ∧ k ≤ 62 then divV x (2 ^ k.toNat) else 0
theorem shl_one : ∀ n : Fin 63, shl .i64 1 (n.val : Int) = 2 ^ n.val := by decide +kernel
theorem half_v {x k : Int} (hx : inR x) : round_Half.f x k = some (halfV x k) := by
  unfold round_Half.f halfV
  by_cases h0 : k < 0
  · rw [if_pos h0, if_neg (by omega)]
  · by_cases h1 : k > 62
    · rw [if_neg h0, if_pos h1, if_neg (by omega)]
    · obtain ⟨n, rfl⟩ := Int.eq_ofNat_of_zero_le (show 0 ≤ k by omega)
      have := shl_one ⟨n, by omega⟩
      simp only at this
      have hp : (2 : Int) ^ n ≤ 2 ^ 62 := by exact_mod_cast Nat.pow_le_pow_right (by decide) (show n ≤ 62 by omega)
      rw [if_neg h0, if_neg h1, if_pos (by omega), if_pos (by omega), this, div_v hx (by omega)]
      simp
/-- Multiplied, divided, rounded, clamped. -/
def scaleV (x m s : Int) : Int := if 0 ≤ m ∧ m ≤ 32767 ∧ 0 ≤ s ∧ s ≤ 30 then clampV (halfV (x * m) s) (-2147483648) 2147483647 else 0
theorem pow_two_le {s : Int} (h0 : 0 ≤ s) (h1 : s ≤ 30) : 1 ≤ (2 : Int) ^ s.toNat ∧ (2 : Int) ^ s.toNat ≤ 1073741824 := by
  constructor
  · exact_mod_cast Nat.one_le_two_pow
  · have h := Nat.pow_le_pow_right (show 0 < 2 by decide) (show s.toNat ≤ 30 by omega)
    have h2 : (((2 ^ s.toNat : Nat)) : Int) ≤ ((2 ^ 30 : Nat) : Int) := by exact_mod_cast h
    rw [Int.natCast_pow] at h2
    exact h2
theorem scale_v {x m s : Int} (hx : inR x) (hm : inR m) (k : Nat) : round_Scale.f (k + 3) x m s = some (scaleV x m s) := by
  have key : round_Scale.j0 (k + 3) x m s (decide ¬ (0 ≤ m ∧ m ≤ 32767 ∧ 0 ≤ s ∧ s ≤ 30)) = some (scaleV x m s) := by
    rw [show k + 3 = (k + 2) + 1 from rfl, round_Scale.j0]
    unfold scaleV
    by_cases h : 0 ≤ m ∧ m ≤ 32767 ∧ 0 ≤ s ∧ s ≤ 30
    · obtain ⟨p0, p1⟩ := pow_two_le h.2.2.1 h.2.2.2
      rw [if_neg (by rw [decide_eq_true_eq]; exact fun hh => hh h), mul_vk hx hm (k + 2) (by omega), if_pos h]
      unfold mulV
      simp only [Option.bind_some]
      by_cases hin : inR (x * m)
      · rw [if_pos hin, if_pos rfl]
        simp only [round_Scale.j1]
        rw [if_neg (by decide), if_pos trivial, half_v hin]
        simp only [Option.bind_some, sat_v]
        unfold satV
        rw [if_pos (by decide)]
        have : lowB 32 = -2147483648 := by decide
        rw [this]; rfl
      · rw [if_neg hin, if_neg (by decide)]
        simp only [round_Scale.j1]
        unfold halfV divV
        rw [if_pos (show 0 ≤ s ∧ s ≤ 62 by omega), if_neg (show ¬ (2 : Int) ^ s.toNat < 1 by omega)]
        generalize (2 : Int) ^ s.toNat = p at p0 p1
        unfold inR at hin
        by_cases hx0 : x < 0
        · rw [show decide (x < 0) = true from decide_eq_true hx0, if_pos rfl]
          have hneg : x * m ≤ 0 := Int.mul_nonpos_of_nonpos_of_nonneg (by omega) h.1
          have : (2 * (x * m) + p) / (2 * p) < -2147483648 := Int.ediv_lt_of_lt_mul (by omega) (by omega)
          unfold clampV; rw [if_pos this]
        · rw [show decide (x < 0) = false from decide_eq_false hx0, if_neg (by decide), if_neg (by decide)]
          have hpos : 0 ≤ x * m := Int.mul_nonneg (by omega) h.1
          have : 2147483648 ≤ (2 * (x * m) + p) / (2 * p) := Int.le_ediv_of_mul_le (by omega) (by omega)
          unfold clampV; rw [if_neg (by omega), if_pos (by omega)]
    · rw [if_pos (by rw [decide_eq_true_eq]; exact h), if_neg h]
  unfold round_Scale.f
  by_cases h1 : m ≥ 0
  · rw [if_pos h1]
    by_cases h2 : m ≤ 32767
    · rw [if_pos h2]
      by_cases h3 : s ≥ 0
      · rw [if_pos h3]; rw [← key]; congr 1
        by_cases h4 : s ≤ 30 <;> simp [h4] <;> omega
      · rw [if_neg h3, ← key]; congr 1; simp; omega
    · rw [if_neg h2, ← key]; congr 1; simp; omega
  · rw [if_neg h1, ← key]; congr 1; simp; omega
theorem scale_vk {x m s : Int} (hx : inR x) (hm : inR m) (k : Nat) (hk : 3 ≤ k) : round_Scale.f k x m s = some (scaleV x m s) := by
  obtain ⟨k, rfl⟩ : ∃ m, k = m + 3 := ⟨k - 3, by omega⟩
  exact scale_v hx hm k

/-- The mean of numbers. -/
def meanV (xs : List Int) : Int := if inR xs.sum then divV xs.sum xs.length else 0
theorem mean_v (xs : List Int) (hr : ∀ x ∈ xs, inR x) (hn : xs.length ≤ 1073741824) (k : Nat) (hk : xs.length < k) : round_Mean.f k xs = some (meanV xs) := by
  unfold round_Mean.f
  rw [sum_v xs hr hn k hk]
  unfold meanV sumV
  simp only [Option.bind_some]
  by_cases h : inR xs.sum
  · rw [if_pos h, if_pos h, if_pos rfl, div_v h (by omega)]; rfl
  · rw [if_neg h, if_neg h, if_neg (by decide)]

theorem ref_clamp_v (x l h : Int) : earshotref01_Clamp.f x l h = some (clampV x l h) := by
  unfold earshotref01_Clamp.f clampV
  split
  · rfl
  · split <;> rfl
theorem ref_may (b : Int) : earshotref01_May.f b = some (decide (1 ≤ b ∧ b ≤ 64)) := by
  unfold earshotref01_May.f
  by_cases h : b ≥ 1
  · rw [if_pos h]; simp [h]
  · rw [if_neg h]; simp; omega
theorem ref_low_loop (b : Int) (hb : b ≤ 64) : ∀ (d k n : Nat), (n : Int) + 1 + d = b → d < k → earshotref01_Low.l0 k b (-(2 ^ n)) ((n : Int) + 1) = some (lowB b) := by
  intro d
  induction d with
  | zero =>
    intro k n hd hk
    obtain ⟨k, rfl⟩ : ∃ m, k = m + 1 := ⟨k - 1, by omega⟩
    rw [earshotref01_Low.l0, if_neg (by omega)]
    unfold lowB
    rw [show b.toNat - 1 = n from by omega]
  | succ d ih =>
    intro k n hd hk
    obtain ⟨k, rfl⟩ : ∃ m, k = m + 1 := ⟨k - 1, by omega⟩
    have hp : (2 : Int) ^ n ≤ 4611686018427387904 := by
      have h := Nat.pow_le_pow_right (show 0 < 2 by decide) (show n ≤ 62 by omega)
      have h2 : (((2 ^ n : Nat)) : Int) ≤ ((2 ^ 62 : Nat) : Int) := by exact_mod_cast h
      rw [Int.natCast_pow] at h2
      exact h2
    have hq : (0 : Int) < 2 ^ n := Int.pow_pos (by decide)
    rw [earshotref01_Low.l0, if_pos (by omega), w64 (x := (n : Int) + 1 + 1) (by omega) (by omega), w64 (x := -(2 ^ n) * 2) (by omega) (by omega)]
    have := ih k (n + 1) (by omega) (by omega)
    rw [Int.pow_succ] at this
    rw [show -(2 ^ n) * 2 = -((2 : Int) ^ n * 2) from by omega]
    exact this
theorem ref_low {b : Int} (h0 : 1 ≤ b) (h1 : b ≤ 64) (k : Nat) (hk : 64 ≤ k) : earshotref01_Low.f k b = some (lowB b) := by
  have := ref_low_loop b h1 (b - 1).toNat k 0 (by omega) (by omega)
  unfold earshotref01_Low.f
  simpa using this
theorem ref_sat_v (x b : Int) (k : Nat) (hk : 64 ≤ k) : earshotref01_Sat.f k x b = some (satV x b) := by
  unfold earshotref01_Sat.f satV
  rw [ref_may]
  simp only [Option.bind_some]
  by_cases h : 1 ≤ b ∧ b ≤ 64
  · rw [if_pos (decide_eq_true h), if_pos h, ref_low h.1 h.2 k hk]
    have := lowB_all h.1 h.2
    simp only [Option.bind_some, ref_clamp_v]
    rw [w64 (by omega) (by omega)]
  · rw [if_neg (by simpa using h), if_neg h]

theorem ref_mul_v {a b : Int} (ha : inR a) (hb : inR b) (k : Nat) (hk : 2 ≤ k) : earshotref01_Mul.f k a b = some (mulV a b) := by
  have hm := mul_vk ha hb k (by omega)
  rw [← hm]
  obtain ⟨k, rfl⟩ : ∃ m, k = m + 2 := ⟨k - 2, by omega⟩
  unfold earshotref01_Mul.f sat_Mul.f
  have key : ∀ z : Bool, (z = false → a ≠ 0 ∧ b ≠ 0) → earshotref01_Mul.j0 (k + 2) a b z = sat_Mul.j0 (k + 2) a b z := by
    intro z hz
    rw [earshotref01_Mul.j0, sat_Mul.j0]
    cases z with
    | true => rfl
    | false =>
      obtain ⟨h0, h1⟩ := hz rfl
      simp only [Bool.false_eq_true, ↓reduceIte]
      rw [if_neg h1]
      have hj : ∀ z : Bool, earshotref01_Mul.j1 (k + 1) a b z = if z = true then some (0, false) else if wrap64 (Int.tdiv (wrap64 (a * b)) b) = a then some (wrap64 (a * b), true) else some (0, false) := by
        intro z; rw [earshotref01_Mul.j1, if_neg h1]
      simp only [hj]
      by_cases c1 : a = -1
      · by_cases c2 : b = -9223372036854775808
        · simp [c1, c2]
        · by_cases c3 : b = -1
          · simp [c1, c3]
          · simp [c1, c2, c3]
      · by_cases c3 : b = -1
        · by_cases c4 : a = -9223372036854775808
          · simp [c3, c4]
          · simp [c1, c3, c4]
        · simp [c1, c3]
  by_cases h : a = 0
  · rw [if_pos h, if_pos h]; exact key true (fun h => by cases h)
  · rw [if_neg h, if_neg h]; exact key _ (fun hz => ⟨h, by simpa using hz⟩)

theorem w64_sub (x y : Int) : wrap64 (x - wrap64 y) = wrap64 (x - y) := by unfold wrap64; omega
theorem ref_quot {x n : Int} (hx : inR x) (hn : 1 ≤ n) (hn2 : n ≤ 9223372036854775807) : earshotref02_Quot.f x n = some (x / n) := by
  have hp := parts_in hx hn hn2
  unfold round_Parts.f at hp
  rw [if_neg (by omega), if_neg (by omega)] at hp
  unfold earshotref02_Quot.f
  rw [if_neg (by omega)]
  by_cases h : Int.tmod x n < 0
  · rw [if_pos h] at hp ⊢; simp only [Option.some.injEq, Prod.mk.injEq] at hp; rw [hp.1]
  · rw [if_neg h] at hp ⊢; simp only [Option.some.injEq, Prod.mk.injEq] at hp; rw [hp.1]
theorem ref_rest {x n : Int} (hx : inR x) (hn : 1 ≤ n) (hn2 : n ≤ 9223372036854775807) : earshotref02_Rest.f x n = some (x % n) := by
  unfold earshotref02_Rest.f
  rw [ref_quot hx hn hn2]
  simp only [Option.bind_some]
  have e := Int.emod_add_mul_ediv x n
  have h1 := Int.emod_nonneg x (show n ≠ 0 by omega)
  have h2 := Int.emod_lt_of_pos x (show 0 < n by omega)
  rw [w64_sub, show x - x / n * n = x % n from by rw [Int.mul_comm]; omega, w64 (by omega) (by omega)]
theorem ref_div {x n : Int} (hx : inR x) (hn2 : n ≤ 9223372036854775807) : earshotref02_Div.f x n = some (divV x n) := by
  rw [← div_v hx hn2]
  unfold earshotref02_Div.f round_Div.f
  by_cases hn : n < 1
  · rw [if_pos hn, parts_out hn]; simp only [Option.bind_some]; rw [if_neg (by omega)]
  · rw [if_neg hn, ref_quot hx (by omega) hn2, ref_rest hx (by omega) hn2, parts_in hx (by omega) hn2]
    simp only [Option.bind_some]
    by_cases hc : x % n ≥ wrap64 (n - x % n)
    · rw [if_pos hc, if_pos ⟨by omega, hc⟩]
    · rw [if_neg hc, if_neg (fun h => hc h.2)]
theorem ref_pow_loop (s : Int) (hs : s ≤ 62) : ∀ (d k n : Nat), (n : Int) + d = s → d < k → earshotref02_power.l0 k s (2 ^ n) (n : Int) = some (2 ^ s.toNat) := by
  intro d
  induction d with
  | zero =>
    intro k n hd hk
    obtain ⟨k, rfl⟩ : ∃ m, k = m + 1 := ⟨k - 1, by omega⟩
    rw [earshotref02_power.l0, if_neg (by omega), show s.toNat = n from by omega]
  | succ d ih =>
    intro k n hd hk
    obtain ⟨k, rfl⟩ : ∃ m, k = m + 1 := ⟨k - 1, by omega⟩
    have hp : (2 : Int) ^ n ≤ 2305843009213693952 := by
      have h := Nat.pow_le_pow_right (show 0 < 2 by decide) (show n ≤ 61 by omega)
      have h2 : (((2 ^ n : Nat)) : Int) ≤ ((2 ^ 61 : Nat) : Int) := by exact_mod_cast h
      rw [Int.natCast_pow] at h2
      exact h2
    have hq : (0 : Int) < 2 ^ n := Int.pow_pos (by decide)
    rw [earshotref02_power.l0, if_pos (by omega), w64 (x := (n : Int) + 1) (by omega) (by omega), w64 (x := 2 ^ n * 2) (by omega) (by omega), ← Int.pow_succ]
    exact ih k (n + 1) (by omega) (by omega)
theorem ref_half {x s : Int} (hx : inR x) (k : Nat) (hk : 64 ≤ k) : earshotref02_Half.f k x s = some (halfV x s) := by
  obtain ⟨k, rfl⟩ : ∃ m, k = m + 1 := ⟨k - 1, by omega⟩
  unfold earshotref02_Half.f halfV
  by_cases h0 : s < 0
  · rw [if_pos h0, earshotref02_Half.j0, if_pos rfl, if_neg (by omega)]
  · rw [if_neg h0, earshotref02_Half.j0]
    by_cases h1 : s > 62
    · rw [if_pos (decide_eq_true h1), if_neg (by omega)]
    · rw [if_neg (by simpa using h1), if_pos (by omega)]
      have hl := ref_pow_loop s (by omega) s.toNat k 0 (by omega) (by omega)
      have hp : earshotref02_power.f k s = some (2 ^ s.toNat) := by unfold earshotref02_power.f; simpa using hl
      rw [hp]
      simp only [Option.bind_some]
      have h2 : (2 : Int) ^ s.toNat ≤ 4611686018427387904 := by
        have h := Nat.pow_le_pow_right (show 0 < 2 by decide) (show s.toNat ≤ 62 by omega)
        have h2 : (((2 ^ s.toNat : Nat)) : Int) ≤ ((2 ^ 62 : Nat) : Int) := by exact_mod_cast h
        rw [Int.natCast_pow] at h2
        exact h2
      rw [ref_div hx (by omega)]; rfl

theorem ref_scale {x m s : Int} (hx : inR x) (hm : inR m) (k : Nat) (hk : 70 ≤ k) : earshotref02_Scale.f k x m s = some (scaleV x m s) := by
  have hs := scale_vk hx hm k (by omega) (s := s)
  obtain ⟨k, rfl⟩ : ∃ m, k = m + 2 := ⟨k - 2, by omega⟩
  have key : ∀ z : Bool, z = decide ¬ (0 ≤ m ∧ m ≤ 32767 ∧ 0 ≤ s ∧ s ≤ 30) → earshotref02_Scale.j0 (k + 2) x m s z = round_Scale.j0 (k + 2) x m s z := by
    intro z hz
    rw [earshotref02_Scale.j0, round_Scale.j0]
    cases z with
    | true => rfl
    | false =>
      have h : 0 ≤ m ∧ m ≤ 32767 ∧ 0 ≤ s ∧ s ≤ 30 := by simpa using hz
      rw [if_neg (by decide), if_neg (by decide), ref_mul_v hx hm (k + 1) (by omega), mul_vk hx hm (k + 1) (by omega)]
      simp only [Option.bind_some]
      have hin : ∀ z : Bool, inR (mulV x m).1 → earshotref02_Scale.j1 (k + 1) s z (mulV x m).1 (mulV x m).2 = round_Scale.j1 (k + 1) s (mulV x m).1 (mulV x m).2 z := by
        intro z hr
        rw [earshotref02_Scale.j1, round_Scale.j1, ref_half hr k (by omega), half_v hr]
        simp only [Option.bind_some, sat_v]
        rw [ref_sat_v _ _ k (by omega)]
        simp only [Option.bind_some]
      have hr : inR (mulV x m).1 := by unfold mulV; split
                                       · assumption
                                       · decide
      rw [hin _ hr, hin _ hr]
  rw [← hs]
  unfold earshotref02_Scale.f round_Scale.f
  by_cases h1 : m ≥ 0
  · rw [if_neg (by omega), if_pos h1]
    by_cases h2 : m ≤ 32767
    · rw [if_neg (by omega), if_pos h2]
      by_cases h3 : s ≥ 0
      · rw [if_neg (by omega), if_pos h3]
        have e : decide (s > 30) = (!(decide (s ≤ 30))) := by by_cases h4 : s ≤ 30 <;> simp [h4] <;> omega
        rw [e]; exact key _ (by by_cases h4 : s ≤ 30 <;> simp [h1, h2, h3, h4])
      · rw [if_pos (by omega), if_neg h3]; exact key _ (by simp; omega)
    · rw [if_pos (by omega), if_neg h2]; exact key _ (by simp; omega)
  · rw [if_pos (by omega), if_neg h1]; exact key _ (by simp; omega)

theorem ref_sum_loop (xs : List Int) (hr : ∀ x ∈ xs, inR x) (hn : xs.length ≤ 1073741824) : ∀ (d k i : Nat), i + d = xs.length → d < k →
    earshotref01_Sum.l0 k xs (hiS (xs.take i)) (loS (xs.take i)) (i : Int) = some (sumV xs) := by
  intro d
  induction d with
  | zero =>
    intro k i hd hk
    obtain ⟨k, rfl⟩ : ∃ m, k = m + 1 := ⟨k - 1, by omega⟩
    have h1 := hi_range xs hr
    have h2 := lo_range xs
    have h3 := hi_lo xs
    rw [earshotref01_Sum.l0, if_neg (by omega), List.take_of_length_le (by omega)]
    have e : wrap64 (hiS xs + loS xs / 4294967296) = hiS xs + loS xs / 4294967296 := by rw [w64] <;> omega
    have em : Go.bits .and .i64 (loS xs) 4294967295 = loS xs % 4294967296 := and_mask (loS xs) 32 (by decide)
    rw [e, em]
    unfold sumV
    by_cases hc : hiS xs + loS xs / 4294967296 < -2147483648
    · rw [if_pos hc, if_neg (show ¬ inR xs.sum from by unfold inR; omega)]
    · rw [if_neg hc]
      by_cases hd : hiS xs + loS xs / 4294967296 > 2147483647
      · rw [if_pos hd, if_neg (show ¬ inR xs.sum from by unfold inR; omega)]
      · rw [if_neg hd, if_pos (show inR xs.sum from by unfold inR; omega), w64 (x := (hiS xs + loS xs / 4294967296) * 4294967296) (by omega) (by omega), w64 (by omega) (by omega)]
        congr 2; omega
  | succ d ih =>
    intro k i hd hk
    obtain ⟨k, rfl⟩ : ∃ m, k = m + 1 := ⟨k - 1, by omega⟩
    have hi : i < xs.length := by omega
    have h1 := hi_range (xs.take (i + 1)) (fun x hx => hr x (List.mem_of_mem_take hx))
    have h2 := lo_range (xs.take (i + 1))
    have hl : (xs.take (i + 1)).length = i + 1 := by rw [List.length_take]; omega
    rw [hl] at h1 h2
    rw [earshotref01_Sum.l0, if_pos (by omega), if_pos (by omega), rd_get hi]
    have em : Go.bits .and .i64 xs[i] 4294967295 = xs[i] % 4294967296 := and_mask _ 32 (by decide)
    rw [em, ← hi_take xs i hi, ← lo_take xs i hi, w64 (by omega) (by omega), w64 (by omega) (by omega), w64 (by omega) (by omega)]
    exact ih k (i + 1) (by omega) (by omega)
theorem ref_sum_v (xs : List Int) (hr : ∀ x ∈ xs, inR x) (hn : xs.length ≤ 1073741824) (k : Nat) (hk : xs.length < k) : earshotref01_Sum.f k xs = some (sumV xs) := by
  unfold earshotref01_Sum.f
  have := ref_sum_loop xs hr hn xs.length k 0 (by omega) hk
  simpa [hiS, loS] using this

theorem ref_mean_v (xs : List Int) (hr : ∀ x ∈ xs, inR x) (hn : xs.length ≤ 1073741824) (k : Nat) (hk : xs.length < k) : earshotref02_Mean.f k xs = some (meanV xs) := by
  unfold earshotref02_Mean.f
  rw [ref_sum_v xs hr hn k hk]
  unfold meanV sumV
  simp only [Option.bind_some]
  by_cases h : inR xs.sum
  · rw [if_pos h, if_pos h, if_pos rfl]
    by_cases h0 : (xs.length : Int) = 0
    · rw [if_pos h0]; unfold divV; rw [if_pos (by omega)]
    · rw [if_neg h0, ref_div h (by omega)]; rfl
  · rw [if_neg h, if_neg h, if_neg (by decide)]

theorem awake_true : earshotlaw02_awake.f 4 = some true := by decide +kernel
theorem awake_ge (k : Nat) (h : 4 ≤ k) : earshotlaw02_awake.f k = some true := by
  induction k with
  | zero => omega
  | succ k ih =>
    by_cases e : k + 1 = 4
    · rw [e]; exact awake_true
    · exact earshotlaw02_awake.mono k _ (ih (by omega))

theorem few_v (l : List Int) : earshotlaw02_few.f l = some (l.take 40) := by
  unfold earshotlaw02_few.f
  by_cases h : (l.length : Int) > 40
  · rw [if_pos h, if_pos (by omega)]
  · rw [if_neg h, List.take_of_length_le (by omega)]
theorem tells_v {x n s : Int} (hx : inR x) (hn : inR n) (k : Nat) (hk : 70 ≤ k) : earshotlaw02_tells.f k x n s = some true := by
  have hn2 := hn
  unfold inR at hn2
  unfold earshotlaw02_tells.f
  by_cases h : n < 1
  · rw [parts_out h, div_v hx (by omega), half_v hx, ref_half hx k (by omega)]
    simp only [Option.bind_some]
    rw [if_pos h, if_pos trivial, if_pos trivial, if_pos (show divV x n = 0 by unfold divV; rw [if_pos h])]
    simp
  · rw [parts_in hx (by omega) (by omega), ref_quot hx (by omega) (by omega), ref_rest hx (by omega) (by omega), div_v hx (by omega), ref_div hx (by omega), half_v hx, ref_half hx k (by omega), scale_vk hx hn k (by omega), ref_scale hx hn k hk]
    simp only [Option.bind_some]
    rw [if_neg h, if_pos trivial, if_pos trivial, if_pos trivial, if_pos trivial]
    simp
theorem RoundTells : earshotlaw02_RoundTells.Pure := by
  intro x n s l hx hn hs _ _ hw
  have hx := wf_inR hx
  have hn := wf_inR hn
  have hs := wf_inR hs
  refine ⟨100, ?_⟩
  have e1 : Go.bits .and .i64 n 4095 = n % 4096 := and_mask n 12 (by decide)
  have e2 : Go.bits .and .i64 s 63 = s % 64 := and_mask s 6 (by decide)
  have e3 : Go.bits .and .i64 n 65535 = n % 65536 := and_mask n 16 (by decide)
  have e4 : Go.bits .and .i64 s 31 = s % 32 := and_mask s 5 (by decide)
  have e5 : Go.bits .and .i64 n 32767 = n % 32768 := and_mask n 15 (by decide)
  have r1 : inR (n % 4096) := by unfold inR; omega
  have r3 : inR (n % 65536) := by unfold inR; omega
  have r5 : inR (n % 32768) := by unfold inR; omega
  have r6 : inR (x / 1048576) := by unfold inR at hx ⊢; omega
  have hr : ∀ x ∈ l.take 40, inR x := fun x hx => wf_inR (hw x (List.mem_of_mem_take hx))
  have hlen : (l.take 40).length ≤ 40 := by rw [List.length_take]; omega
  unfold earshotlaw02_RoundTells.f
  rw [awake_ge 100 (by decide), e1, e2, e3, e4, e5, tells_v hx hn 100 (by decide), tells_v hx r1 100 (by decide), scale_vk hx r3 100 (by decide), ref_scale hx r3 100 (by decide), scale_vk r6 r5 100 (by decide), ref_scale r6 r5 100 (by decide), few_v]
  simp only [Option.bind_some]
  rw [if_pos trivial, if_pos trivial, if_pos trivial, if_pos trivial, if_pos trivial, mean_v _ hr (by omega) 100 (by omega), ref_mean_v _ hr (by omega) 100 (by omega)]
  simp

end Go.Proofs.Ytpaednaeehlofaa.Pure
