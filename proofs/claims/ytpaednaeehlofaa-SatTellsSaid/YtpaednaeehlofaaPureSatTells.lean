/-
Proved: the Go function SatTells of package earshotlaw01 returns true for every input, and its arguments read behind the call as before. Conditions: none beyond the given row's.
-/
import Derived.Test.YtpaednaeehlofaaPSatTellsx3
namespace Go.Proofs.Ytpaednaeehlofaa.Pure
open Go.RowKit Go.Proofs.Ytpaednaeehlofaa.PSatTells Go.Proofs.YtpaednaeehlofaaW.PrintWords Go.Proofs.YtpaednaeehlofaaW.PrintLast Go.Proofs.YtpaednaeehlofaaW.PrintMore

theorem w64 {x : Int} (h0 : -9223372036854775808 ≤ x) (h1 : x ≤ 9223372036854775807) : wrap64 x = x := by unfold wrap64; omega
theorem w64_def (x : Int) : wrap64 x = (x + 9223372036854775808) % 18446744073709551616 - 9223372036854775808 := by unfold wrap64; omega
theorem w64_range (x : Int) : -9223372036854775808 ≤ wrap64 x ∧ wrap64 x ≤ 9223372036854775807 := by unfold wrap64; omega
theorem iw64 (x : Int) : IntKind.i64.wrap x = wrap64 x := by rw [IntKind.wrap_i64, w64_def]

theorem and_mask (x : Int) (m : Nat) (hm : m ≤ 62) : Go.bits .and .i64 x (2 ^ m - 1) = x % 2 ^ m := by
  have hp : 0 < 2 ^ m := Nat.two_pow_pos m
  have hc : ((2 : Int) ^ m - 1) = ((2 ^ m - 1 : Nat) : Int) := by rw [Int.natCast_sub hp]; simp
  have hlt : (2 : Nat) ^ m ≤ 2 ^ 62 := Nat.pow_le_pow_right (by decide) hm
  have hmod : (2 ^ m - 1) % 2 ^ 64 = 2 ^ m - 1 := Nat.mod_eq_of_lt (by omega)
  have hd : (2 : Int) ^ m ∣ 2 ^ 64 := ⟨2 ^ (64 - m), by rw [← Int.pow_add]; congr 1; omega⟩
  have hx0 : 0 ≤ x % 2 ^ 64 := Int.emod_nonneg _ (by decide)
  rw [hc]
  show IntKind.i64.wrap (((BitVec.ofInt 64 x &&& BitVec.ofInt 64 ((2 ^ m - 1 : Nat) : Int)).toNat : Nat) : Int) = _
  rw [BitVec.toNat_and, BitVec.ofInt_natCast, BitVec.toNat_ofNat, BitVec.toNat_ofInt, hmod, Nat.and_two_pow_sub_one_eq_mod]
  have e : (((x % ((2 ^ 64 : Nat) : Int)).toNat % 2 ^ m : Nat) : Int) = x % 2 ^ m := by
    rw [Int.natCast_emod, Int.toNat_of_nonneg (by simpa using hx0)]
    simp only [Int.natCast_pow, Int.cast_ofNat_Int]
    exact Int.emod_emod_of_dvd _ hd
  have l0 : 0 ≤ x % 2 ^ m := Int.emod_nonneg _ (by exact_mod_cast Nat.ne_of_gt hp)
  have l1 : x % 2 ^ m < 2 ^ m := Int.emod_lt_of_pos _ (by exact_mod_cast hp)
  have l2 : (2 : Int) ^ m ≤ 2 ^ 62 := by exact_mod_cast hlt
  rw [e, iw64, w64] <;> omega

theorem xor_neg (x : Int) (h0 : -9223372036854775808 ≤ x) (h1 : x ≤ 9223372036854775807) : Go.bits .xor .i64 (-1) x = -1 - x := by
  have e : BitVec.ofInt 64 (-1) ^^^ BitVec.ofInt 64 x = ~~~ BitVec.ofInt 64 x := by
    have : BitVec.ofInt 64 (-1) = BitVec.allOnes 64 := by decide
    rw [this]; exact BitVec.allOnes_xor
  show IntKind.i64.wrap (((BitVec.ofInt 64 (-1) ^^^ BitVec.ofInt 64 x).toNat : Nat) : Int) = _
  rw [e, BitVec.toNat_not, BitVec.toNat_ofInt, iw64]
  unfold wrap64
  have : (0:Int) ≤ x % 18446744073709551616 := by omega
  simp only [Nat.reducePow, Int.cast_ofNat_Int]
  omega

theorem or_join (h l : Int) (l0 : 0 ≤ l) (l1 : l < 4294967296) (h0 : -2147483648 ≤ h) (h1 : h < 2147483648) : Go.bits .or .i64 (h * 4294967296) l = h * 4294967296 + l := by
  show IntKind.i64.wrap (((BitVec.ofInt 64 (h * 4294967296) ||| BitVec.ofInt 64 l).toNat : Nat) : Int) = _
  rw [BitVec.toNat_or, BitVec.toNat_ofInt, BitVec.toNat_ofInt, iw64]
  obtain ⟨a, ha⟩ : ∃ a : Nat, (a : Int) = h % 4294967296 := ⟨(h % 4294967296).toNat, by omega⟩
  have e1 : ((h * 4294967296) % ((2 ^ 64 : Nat) : Int)).toNat = 2 ^ 32 * a := by simp only [Nat.reducePow, Int.cast_ofNat_Int]; omega
  have e2 : (l % ((2 ^ 64 : Nat) : Int)).toNat = l.toNat := by simp only [Nat.reducePow, Int.cast_ofNat_Int]; omega
  rw [e1, e2, ← Nat.two_pow_add_eq_or_of_lt (by omega)]
  unfold wrap64
  simp only [Nat.reducePow]
  omega
def inR (x : Int) : Prop := -9223372036854775808 ≤ x ∧ x ≤ 9223372036854775807
instance (x : Int) : Decidable (inR x) := inferInstanceAs (Decidable (_ ∧ _))
theorem wf_inR {x : Int} (h : (Lit.int .i64 x).wf = true) : inR x := by
  simp [Lit.wf, IntKind.min, IntKind.max, IntKind.signed, IntKind.bits] at h
  unfold inR; omega
theorem rd_get {xs : List Int} {i : Nat} (h : i < xs.length) : rd xs (i : Int) = xs[i] := by unfold rd; simp [h]

/-- The lower end of bits. -/
def lowB (b : Int) : Int := -(2 ^ (b.toNat - 1))
theorem lowB_fin : ∀ n : Fin 64, shr .i64 (-9223372036854775808) (wrap64 (64 - ((n.val : Int) + 1))) = lowB ((n.val : Int) + 1) ∧ -9223372036854775808 ≤ lowB ((n.val : Int) + 1) ∧ lowB ((n.val : Int) + 1) ≤ -1 := by decide +kernel
theorem lowB_all {b : Int} (h0 : 1 ≤ b) (h1 : b ≤ 64) : shr .i64 (-9223372036854775808) (wrap64 (64 - b)) = lowB b ∧ -9223372036854775808 ≤ lowB b ∧ lowB b ≤ -1 := by
  have h := lowB_fin ⟨(b - 1).toNat, by omega⟩
  have e : (((b - 1).toNat : Nat) : Int) + 1 = b := by omega
  simp only [e] at h
  exact h
theorem lowB_mono {b c : Int} (h0 : 1 ≤ b) (h : b ≤ c) : lowB c ≤ lowB b := by
  unfold lowB
  have : (2 : Int) ^ (b.toNat - 1) ≤ 2 ^ (c.toNat - 1) := by exact_mod_cast Nat.pow_le_pow_right (by decide) (by omega)
  omega
theorem ends_in {b : Int} (h0 : 1 ≤ b) (h1 : b ≤ 64) : sat_ends.f b = some (lowB b, -1 - lowB b, true) := by
  obtain ⟨e, l, u⟩ := lowB_all h0 h1
  unfold sat_ends.f
  rw [if_neg (by omega), if_neg (by omega), if_pos (by rw [w64] <;> omega), e, xor_neg _ (by omega) (by omega)]
theorem ends_out {b : Int} (h : b < 1 ∨ 64 < b) : sat_ends.f b = some (0, 0, false) := by
  unfold sat_ends.f
  by_cases h0 : b < 1
  · rw [if_pos h0]
  · rw [if_neg h0, if_pos (by omega)]
def clampV (x l h : Int) : Int := if x < l then l else if x > h then h else x
theorem clamp_v (x l h : Int) : sat_Clamp.f x l h = some (clampV x l h) := by
  unfold sat_Clamp.f clampV
  split
  · rfl
  · split <;> rfl
/-- What clamped to the ends of bits is. -/
def satV (x b : Int) : Int := if 1 ≤ b ∧ b ≤ 64 then clampV x (lowB b) (-1 - lowB b) else 0
theorem sat_v (x b : Int) : sat_Sat.f x b = some (satV x b) := by
  unfold sat_Sat.f satV
  by_cases h : 1 ≤ b ∧ b ≤ 64
  · rw [ends_in h.1 h.2, if_pos h]; simp [clamp_v]
  · rw [ends_out (by omega), if_neg h]; simp
theorem clampV_in {x l h : Int} (hl : l ≤ h) : l ≤ clampV x l h ∧ clampV x l h ≤ h := by unfold clampV; split <;> (try split) <;> omega
theorem clampV_id {x l h : Int} (h0 : l ≤ x) (h1 : x ≤ h) : clampV x l h = x := by unfold clampV; split <;> (try split) <;> omega
theorem clampV_mono {x y l h : Int} (hl : l ≤ h) (hxy : x ≤ y) : clampV x l h ≤ clampV y l h := by unfold clampV; split <;> (try split) <;> (try split) <;> (try split) <;> omega
theorem satV_in {x b : Int} (h0 : 1 ≤ b) (h1 : b ≤ 64) : lowB b ≤ satV x b ∧ satV x b ≤ -1 - lowB b := by
  have := lowB_all h0 h1
  unfold satV; rw [if_pos ⟨h0, h1⟩]; exact clampV_in (by omega)

def fitsV (x b : Int) : Bool := decide (1 ≤ b ∧ b ≤ 64 ∧ lowB b ≤ x ∧ x ≤ -1 - lowB b)
theorem fits_v (x b : Int) : sat_Fits.f x b = some (fitsV x b) := by
  unfold sat_Fits.f fitsV
  by_cases h : 1 ≤ b ∧ b ≤ 64
  · rw [ends_in h.1 h.2]
    by_cases h2 : x ≥ lowB b
    · simp [h2, h.1, h.2]
    · simp [h2]
  · rw [ends_out (by omega)]; simp; omega
theorem fitsV_iff {x b : Int} (h0 : 1 ≤ b) (h1 : b ≤ 64) : fitsV x b = true ↔ satV x b = x := by
  have := lowB_all h0 h1
  unfold fitsV satV clampV; rw [if_pos ⟨h0, h1⟩]
  simp only [decide_eq_true_eq]
  split
  · omega
  · split <;> omega

/-- What a sum tells. -/
def sumV (xs : List Int) : Int × Bool := if inR xs.sum then (xs.sum, true) else (0, false)
def hiS (xs : List Int) : Int := (xs.map (· / 4294967296)).sum
def loS (xs : List Int) : Int := (xs.map (· % 4294967296)).sum
theorem hi_lo (xs : List Int) : xs.sum = hiS xs * 4294967296 + loS xs := by
  induction xs with
  | nil => rfl
  | cons x xs ih => simp only [hiS, loS, List.map_cons, List.sum_cons] at ih ⊢; omega
theorem hi_range (xs : List Int) (h : ∀ x ∈ xs, inR x) : -2147483648 * xs.length ≤ hiS xs ∧ hiS xs ≤ 2147483647 * xs.length := by
  induction xs with
  | nil => simp [hiS]
  | cons x xs ih =>
    have hx := h x (List.mem_cons_self ..)
    have := ih (fun y hy => h y (List.mem_cons_of_mem _ hy))
    unfold inR at hx
    simp only [hiS, List.map_cons, List.sum_cons, List.length_cons] at this ⊢
    omega
theorem lo_range (xs : List Int) : 0 ≤ loS xs ∧ loS xs ≤ 4294967295 * xs.length := by
  induction xs with
  | nil => simp [loS]
  | cons x xs ih =>
    simp only [loS, List.map_cons, List.sum_cons, List.length_cons] at ih ⊢
    omega
theorem hi_take (xs : List Int) (i : Nat) (h : i < xs.length) : hiS (xs.take (i + 1)) = hiS (xs.take i) + xs[i] / 4294967296 := by
  unfold hiS; rw [List.take_succ_eq_append_getElem h, List.map_append, List.sum_append]; simp only [List.map_cons, List.map_nil, List.sum_cons, List.sum_nil, Int.add_zero]
theorem lo_take (xs : List Int) (i : Nat) (h : i < xs.length) : loS (xs.take (i + 1)) = loS (xs.take i) + xs[i] % 4294967296 := by
  unfold loS; rw [List.take_succ_eq_append_getElem h, List.map_append, List.sum_append]; simp only [List.map_cons, List.map_nil, List.sum_cons, List.sum_nil, Int.add_zero]
theorem fits32 (x : Int) : fitsV x 32 = decide (-2147483648 ≤ x ∧ x ≤ 2147483647) := by
  unfold fitsV
  have : lowB 32 = -2147483648 := by decide
  rw [this]; simp
theorem sum_loop (xs : List Int) (hr : ∀ x ∈ xs, inR x) (hn : xs.length ≤ 1073741824) : ∀ (d k i : Nat), i + d = xs.length → d < k →
    sat_Sum.l0 k (hiS (xs.take i)) (loS (xs.take i)) xs (xs.length : Int) (i : Int) = some (sumV xs) := by
  intro d
  induction d with
  | zero =>
    intro k i hd hk
    obtain ⟨k, rfl⟩ : ∃ m, k = m + 1 := ⟨k - 1, by omega⟩
    have h1 := hi_range xs hr
    have h2 := lo_range xs
    have h3 := hi_lo xs
    simp only [sat_Sum.l0]
    rw [if_neg (by omega), List.take_of_length_le (by omega), fits_v, fits32]
    have e : wrap64 (hiS xs + loS xs / 4294967296) = hiS xs + loS xs / 4294967296 := by rw [w64] <;> omega
    have em : Go.bits .and .i64 (loS xs) 4294967295 = loS xs % 4294967296 := and_mask (loS xs) 32 (by decide)
    simp only [Option.bind_some, decide_eq_true_eq]
    rw [e, em]
    unfold sumV
    by_cases hc : -2147483648 ≤ hiS xs + loS xs / 4294967296 ∧ hiS xs + loS xs / 4294967296 ≤ 2147483647
    · rw [if_pos hc, w64 (by omega) (by omega), or_join _ _ (by omega) (by omega) (by omega) (by omega), if_pos (show inR xs.sum from by unfold inR; omega)]
      congr 2
      omega
    · rw [if_neg hc, if_neg (show ¬ inR xs.sum from by unfold inR; omega)]
  | succ d ih =>
    intro k i hd hk
    obtain ⟨k, rfl⟩ : ∃ m, k = m + 1 := ⟨k - 1, by omega⟩
    have hi : i < xs.length := by omega
    have h1 := hi_range (xs.take (i + 1)) (fun x hx => hr x (List.mem_of_mem_take hx))
    have h2 := lo_range (xs.take (i + 1))
    have hl : (xs.take (i + 1)).length = i + 1 := by rw [List.length_take]; omega
    rw [hl] at h1 h2
    simp only [sat_Sum.l0]
    rw [if_pos (by omega), if_pos (by omega), if_pos (by omega), rd_get hi]
    have em : Go.bits .and .i64 xs[i] 4294967295 = xs[i] % 4294967296 := and_mask _ 32 (by decide)
    rw [em, ← hi_take xs i hi, ← lo_take xs i hi, w64 (by omega) (by omega), w64 (by omega) (by omega), w64 (by omega) (by omega)]
    exact ih k (i + 1) (by omega) (by omega)
theorem sum_v (xs : List Int) (hr : ∀ x ∈ xs, inR x) (hn : xs.length ≤ 1073741824) (k : Nat) (hk : xs.length < k) : sat_Sum.f k xs = some (sumV xs) := by
  unfold sat_Sum.f
  have := sum_loop xs hr hn xs.length k 0 (by omega) hk
  simpa [hiS, loS] using this

/-- A product, if there is one. -/
def mulV (a b : Int) : Int × Bool := if inR (a * b) then (a * b, true) else (0, false)
theorem mul_v {a b : Int} (ha : inR a) (hb : inR b) (k : Nat) : sat_Mul.f (k + 1) a b = some (mulV a b) := by
  have key : ∀ z : Bool, z = decide (a = 0 ∨ b = 0) → sat_Mul.j0 (k + 1) a b z = some (mulV a b) := by
    intro z hz
    simp only [sat_Mul.j0]
    by_cases h0 : a = 0 ∨ b = 0
    · have hp : a * b = 0 := by rcases h0 with rfl | rfl <;> simp
      subst hz
      rw [if_pos (by simp [h0])]
      unfold mulV; rw [hp, if_pos (by decide)]
    · subst hz
      rw [if_neg (by simp [h0]), if_neg (by omega)]
      have e := Int.tmod_add_mul_tdiv (wrap64 (a * b)) b
      have hm : -(b.natAbs : Int) < Int.tmod (wrap64 (a * b)) b ∧ Int.tmod (wrap64 (a * b)) b < b.natAbs := by
        by_cases hp : 0 < b
        · have h1 := Int.tmod_lt_of_pos (wrap64 (a * b)) hp
          have h2 := Int.lt_tmod_of_pos (wrap64 (a * b)) hp
          omega
        · have h1 := Int.tmod_lt_of_pos (wrap64 (a * b)) (b := -b) (by omega)
          have h2 := Int.lt_tmod_of_pos (wrap64 (a * b)) (b := -b) (by omega)
          rw [Int.tmod_neg] at h1 h2
          omega
      have hw := w64_def (a * b)
      have hr := w64_range (a * b)
      unfold inR at ha hb
      by_cases hin : inR (a * b)
      · have hp : wrap64 (a * b) = a * b := by unfold inR at hin; exact w64 hin.1 hin.2
        have hq : Int.tdiv (a * b) b = a := Int.mul_tdiv_cancel _ (by omega)
        have c1 : ¬ (a = -1 ∧ b = -9223372036854775808) := by rintro ⟨rfl, rfl⟩; exact absurd hin (by decide)
        have c2 : ¬ (b = -1 ∧ a = -9223372036854775808) := by rintro ⟨rfl, rfl⟩; exact absurd hin (by decide)
        rw [hp, hq, w64 ha.1 ha.2, if_pos rfl]
        unfold mulV; rw [if_pos hin]
        repeat' split
        all_goals first | rfl | (exfalso; omega)
      · unfold mulV; rw [if_neg hin]
        split
        · rename_i hq
          by_cases hs : a = -1 ∧ b = -9223372036854775808
          · rw [if_pos hs.1, if_pos hs.2]
          · by_cases hs2 : b = -1 ∧ a = -9223372036854775808
            · obtain ⟨rfl, rfl⟩ := hs2; decide
            · exfalso
              have hq2 : Int.tdiv (wrap64 (a * b)) b = a := by
                have hle := Int.natAbs_tdiv_le_natAbs (wrap64 (a * b)) b
                by_cases ht : Int.tdiv (wrap64 (a * b)) b ≤ 9223372036854775807
                · rw [w64 (by omega) ht] at hq; exact hq
                · have ht2 : Int.tdiv (wrap64 (a * b)) b = 9223372036854775808 := by omega
                  rw [ht2] at hq e
                  have : wrap64 9223372036854775808 = -9223372036854775808 := by rw [w64_def]; decide
                  rw [this] at hq
                  subst hq
                  have hb1 : b = -1 := by omega
                  exact absurd ⟨hb1, rfl⟩ hs2
              rw [hq2] at e
              have ec : b * a = a * b := Int.mul_comm b a
              apply hin
              unfold inR
              omega
        · rfl
  unfold sat_Mul.f
  by_cases h : a = 0
  · rw [if_pos h]; exact key true (by simp [h])
  · rw [if_neg h]; exact key _ (by rw [show decide (a = 0 ∨ b = 0) = decide (b = 0) from by simp [h]]; rfl)
theorem mul_vk {a b : Int} (ha : inR a) (hb : inR b) (k : Nat) (hk : 1 ≤ k) : sat_Mul.f k a b = some (mulV a b) := by
  obtain ⟨k, rfl⟩ : ∃ m, k = m + 1 := ⟨k - 1, by omega⟩
  exact mul_v ha hb k

theorem ref_clamp_v (x l h : Int) : earshotref01_Clamp.f x l h = some (clampV x l h) := by
  unfold earshotref01_Clamp.f clampV
  split
  · rfl
  · split <;> rfl
theorem ref_may (b : Int) : earshotref01_May.f b = some (decide (1 ≤ b ∧ b ≤ 64)) := by
  unfold earshotref01_May.f
  by_cases h : b ≥ 1
  · rw [if_pos h]; simp [h]
  · rw [if_neg h]; simp; omega
theorem ref_low_loop (b : Int) (hb : b ≤ 64) : ∀ (d k n : Nat), (n : Int) + 1 + d = b → d < k → earshotref01_Low.l0 k b (-(2 ^ n)) ((n : Int) + 1) = some (lowB b) := by
  intro d
  induction d with
  | zero =>
    intro k n hd hk
    obtain ⟨k, rfl⟩ : ∃ m, k = m + 1 := ⟨k - 1, by omega⟩
    rw [earshotref01_Low.l0, if_neg (by omega)]
    unfold lowB
    rw [show b.toNat - 1 = n from by omega]
  | succ d ih =>
    intro k n hd hk
    obtain ⟨k, rfl⟩ : ∃ m, k = m + 1 := ⟨k - 1, by omega⟩
    have hp : (2 : Int) ^ n ≤ 4611686018427387904 := by
      have h := Nat.pow_le_pow_right (show 0 < 2 by decide) (show n ≤ 62 by omega)
      have h2 : (((2 ^ n : Nat)) : Int) ≤ ((2 ^ 62 : Nat) : Int) := by exact_mod_cast h
      rw [Int.natCast_pow] at h2
      exact h2
    have hq : (0 : Int) < 2 ^ n := Int.pow_pos (by decide)
    rw [earshotref01_Low.l0, if_pos (by omega), w64 (x := (n : Int) + 1 + 1) (by omega) (by omega), w64 (x := -(2 ^ n) * 2) (by omega) (by omega)]
    have := ih k (n + 1) (by omega) (by omega)
    rw [Int.pow_succ] at this
    rw [show -(2 ^ n) * 2 = -((2 : Int) ^ n * 2) from by omega]
    exact this
theorem ref_low {b : Int} (h0 : 1 ≤ b) (h1 : b ≤ 64) (k : Nat) (hk : 64 ≤ k) : earshotref01_Low.f k b = some (lowB b) := by
  have := ref_low_loop b h1 (b - 1).toNat k 0 (by omega) (by omega)
  unfold earshotref01_Low.f
  simpa using this
theorem ref_sat_v (x b : Int) (k : Nat) (hk : 64 ≤ k) : earshotref01_Sat.f k x b = some (satV x b) := by
  unfold earshotref01_Sat.f satV
  rw [ref_may]
  simp only [Option.bind_some]
  by_cases h : 1 ≤ b ∧ b ≤ 64
  · rw [if_pos (decide_eq_true h), if_pos h, ref_low h.1 h.2 k hk]
    have := lowB_all h.1 h.2
    simp only [Option.bind_some, ref_clamp_v]
    rw [w64 (by omega) (by omega)]
  · rw [if_neg (by simpa using h), if_neg h]

theorem ref_mul_v {a b : Int} (ha : inR a) (hb : inR b) (k : Nat) (hk : 2 ≤ k) : earshotref01_Mul.f k a b = some (mulV a b) := by
  have hm := mul_vk ha hb k (by omega)
  rw [← hm]
  obtain ⟨k, rfl⟩ : ∃ m, k = m + 2 := ⟨k - 2, by omega⟩
  unfold earshotref01_Mul.f sat_Mul.f
  have key : ∀ z : Bool, (z = false → a ≠ 0 ∧ b ≠ 0) → earshotref01_Mul.j0 (k + 2) a b z = sat_Mul.j0 (k + 2) a b z := by
    intro z hz
    rw [earshotref01_Mul.j0, sat_Mul.j0]
    cases z with
    | true => rfl
    | false =>
      obtain ⟨h0, h1⟩ := hz rfl
      simp only [Bool.false_eq_true, ↓reduceIte]
      rw [if_neg h1]
      have hj : ∀ z : Bool, earshotref01_Mul.j1 (k + 1) a b z = if z = true then some (0, false) else if wrap64 (Int.tdiv (wrap64 (a * b)) b) = a then some (wrap64 (a * b), true) else some (0, false) := by
        intro z; rw [earshotref01_Mul.j1, if_neg h1]
      simp only [hj]
      by_cases c1 : a = -1
      · by_cases c2 : b = -9223372036854775808
        · simp [c1, c2]
        · by_cases c3 : b = -1
          · simp [c1, c3]
          · simp [c1, c2, c3]
      · by_cases c3 : b = -1
        · by_cases c4 : a = -9223372036854775808
          · simp [c3, c4]
          · simp [c1, c3, c4]
        · simp [c1, c3]
  by_cases h : a = 0
  · rw [if_pos h, if_pos h]; exact key true (fun h => by cases h)
  · rw [if_neg h, if_neg h]; exact key _ (fun hz => ⟨h, by simpa using hz⟩)

theorem ref_sum_loop (xs : List Int) (hr : ∀ x ∈ xs, inR x) (hn : xs.length ≤ 1073741824) : ∀ (d k i : Nat), i + d = xs.length → d < k →
    earshotref01_Sum.l0 k xs (hiS (xs.take i)) (loS (xs.take i)) (i : Int) = some (sumV xs) := by
  intro d
  induction d with
  | zero =>
    intro k i hd hk
    obtain ⟨k, rfl⟩ : ∃ m, k = m + 1 := ⟨k - 1, by omega⟩
    have h1 := hi_range xs hr
    have h2 := lo_range xs
    have h3 := hi_lo xs
    rw [earshotref01_Sum.l0, if_neg (by omega), List.take_of_length_le (by omega)]
    have e : wrap64 (hiS xs + loS xs / 4294967296) = hiS xs + loS xs / 4294967296 := by rw [w64] <;> omega
    have em : Go.bits .and .i64 (loS xs) 4294967295 = loS xs % 4294967296 := and_mask (loS xs) 32 (by decide)
    rw [e, em]
    unfold sumV
    by_cases hc : hiS xs + loS xs / 4294967296 < -2147483648
    · rw [if_pos hc, if_neg (show ¬ inR xs.sum from by unfold inR; omega)]
    · rw [if_neg hc]
      by_cases hd : hiS xs + loS xs / 4294967296 > 2147483647
      · rw [if_pos hd, if_neg (show ¬ inR xs.sum from by unfold inR; omega)]
      · rw [if_neg hd, if_pos (show inR xs.sum from by unfold inR; omega), w64 (x := (hiS xs + loS xs / 4294967296) * 4294967296) (by omega) (by omega), w64 (by omega) (by omega)]
        congr 2; omega
  | succ d ih =>
    intro k i hd hk
    obtain ⟨k, rfl⟩ : ∃ m, k = m + 1 := ⟨k - 1, by omega⟩
    have hi : i < xs.length := by omega
    have h1 := hi_range (xs.take (i + 1)) (fun x hx => hr x (List.mem_of_mem_take hx))
    have h2 := lo_range (xs.take (i + 1))
    have hl : (xs.take (i + 1)).length = i + 1 := by rw [List.length_take]; omega
    rw [hl] at h1 h2
    rw [earshotref01_Sum.l0, if_pos (by omega), if_pos (by omega), rd_get hi]
    have em : Go.bits .and .i64 xs[i] 4294967295 = xs[i] % 4294967296 := and_mask _ 32 (by decide)
    rw [em, ← hi_take xs i hi, ← lo_take xs i hi, w64 (by omega) (by omega), w64 (by omega) (by omega), w64 (by omega) (by omega)]
    exact ih k (i + 1) (by omega) (by omega)
theorem ref_sum_v (xs : List Int) (hr : ∀ x ∈ xs, inR x) (hn : xs.length ≤ 1073741824) (k : Nat) (hk : xs.length < k) : earshotref01_Sum.f k xs = some (sumV xs) := by
  unfold earshotref01_Sum.f
  have := ref_sum_loop xs hr hn xs.length k 0 (by omega) hk
  simpa [hiS, loS] using this

theorem awake_true : earshotlaw01_awake.f 4 = some true := by decide +kernel
theorem awake_ge (k : Nat) (h : 4 ≤ k) : earshotlaw01_awake.f k = some true := by
  induction k with
  | zero => omega
  | succ k ih =>
    by_cases e : k + 1 = 4
    · rw [e]; exact awake_true
    · exact earshotlaw01_awake.mono k _ (ih (by omega))

theorem few_v (l : List Int) : earshotlaw01_few.f l = some (l.take 40) := by
  unfold earshotlaw01_few.f
  by_cases h : (l.length : Int) > 40
  · rw [if_pos h, if_pos (by omega)]
  · rw [if_neg h, List.take_of_length_le (by omega)]
/-- What is added, one by one. -/
def addL (b : Int) : List Int → Int → Int
  | [], n => n
  | x :: xs, n => addL b xs (satV (sat_Add.plus n x) b)
theorem add_go (b : Int) : ∀ (xs : List Int) (n : Int), sat_Add.go b xs n = some (addL b xs n)
  | [], n => rfl
  | x :: xs, n => by rw [sat_Add.go, sat_v]; exact add_go b xs _
theorem add_v (b : Int) (xs : List Int) (h : xs.length < 4611686018427387904) : sat_Add.f b xs = some (addL b xs 0) := by
  unfold sat_Add.f; rw [if_pos h, add_go]
theorem ref_plus (a b : Int) (k : Nat) : earshotref01_plus.f (k + 1) a b = some (sat_Add.plus a b) := by
  have hp : sat_Add.plus a b = if 0 < b ∧ wrap64 (9223372036854775807 - b) < a then 9223372036854775807 else if b < 0 ∧ a < wrap64 (-9223372036854775808 - b) then -9223372036854775808 else wrap64 (a + b) := rfl
  rw [hp]
  clear hp
  generalize hu : wrap64 (9223372036854775807 - b) = u
  generalize hv : wrap64 (-9223372036854775808 - b) = v
  generalize hw : wrap64 (a + b) = w
  unfold earshotref01_plus.f
  rw [hu]
  have hj : ∀ z : Bool, earshotref01_plus.j0 (k + 1) a b z = if z = true then some 9223372036854775807 else if b < 0 then (if a < v then some (-9223372036854775808) else some w) else some w := by
    intro z; rw [earshotref01_plus.j0, hv, hw]
  simp only [hj]
  by_cases h0 : b > 0
  · clear hu hv hw
    by_cases h1 : a > u
    · simp [h0, h1]
    · have h2 : ¬ b < 0 := by omega
      simp [h0, h1, h2]
  · by_cases h2 : b < 0
    · by_cases h3 : a < v <;> simp [h0, h2, h3]
    · simp [h0, h2]
theorem ref_add_loop (b : Int) (xs : List Int) (hn : xs.length ≤ 40) : ∀ (d k i : Nat) (n : Int), i + d = xs.length → d + 66 < k → earshotref01_Add.l0 k b xs n (i : Int) = some (addL b (xs.drop i) n) := by
  intro d
  induction d with
  | zero =>
    intro k i n hd hk
    obtain ⟨k, rfl⟩ : ∃ m, k = m + 1 := ⟨k - 1, by omega⟩
    rw [earshotref01_Add.l0, if_neg (by omega), List.drop_of_length_le (by omega)]; rfl
  | succ d ih =>
    intro k i n hd hk
    obtain ⟨k, rfl⟩ : ∃ m, k = m + 2 := ⟨k - 2, by omega⟩
    have hi : i < xs.length := by omega
    rw [earshotref01_Add.l0, if_pos (by omega), if_pos (by omega), rd_get hi, ref_plus, Option.bind_some, ref_sat_v _ _ (k + 1) (by omega), Option.bind_some, List.drop_eq_getElem_cons hi, addL]
    rw [w64 (by omega) (by omega)]
    have h := ih (k + 1) (i + 1) (satV (sat_Add.plus n xs[i]) b) (by omega) (by omega)
    rw [show (((i + 1 : Nat)) : Int) = (i : Int) + 1 from rfl] at h
    exact h
theorem ref_add (b : Int) (xs : List Int) (hn : xs.length ≤ 40) (k : Nat) (hk : 120 ≤ k) : earshotref01_Add.f k b xs = some (addL b xs 0) := by
  have := ref_add_loop b xs hn xs.length k 0 0 (by omega) (by omega)
  rw [List.drop_zero, show ((0 : Nat) : Int) = (0 : Int) from rfl] at this
  unfold earshotref01_Add.f
  exact this
theorem ref_fits (x b : Int) (k : Nat) (hk : 64 ≤ k) : earshotref01_Fits.f k x b = some (fitsV x b) := by
  unfold earshotref01_Fits.f
  rw [ref_may, ref_sat_v x b k hk]
  simp only [Option.bind_some]
  by_cases h : 1 ≤ b ∧ b ≤ 64
  · rw [if_pos (decide_eq_true h)]
    have := fitsV_iff (x := x) h.1 h.2
    cases hf : fitsV x b
    · rw [hf] at this; simp at this; simpa using this
    · rw [hf] at this; simp at this; simpa using this
  · rw [if_neg (by simpa using h)]
    unfold fitsV; simp; omega
theorem tells_v (x b : Int) (xs : List Int) (hn : xs.length ≤ 40) (k : Nat) (hk : 120 ≤ k) : earshotlaw01_tells.f k x b xs = some true := by
  unfold earshotlaw01_tells.f
  rw [fits_v, ref_fits x b k (by omega), sat_v, ref_sat_v x b k (by omega), add_v b xs (by omega), ref_add b xs hn k hk]
  simp
theorem SatTells : earshotlaw01_SatTells.Pure := by
  intro x y z bits l hx hy _ _ _ _ hw
  have hx := wf_inR hx
  have hy := wf_inR hy
  have hr : ∀ x ∈ l.take 40, inR x := fun x hx => wf_inR (hw x (List.mem_of_mem_take hx))
  have hlen : (l.take 40).length ≤ 40 := by rw [List.length_take]; omega
  refine ⟨150, ?_⟩
  unfold earshotlaw01_SatTells.f
  rw [awake_ge 150 (by decide), few_v]
  simp only [Option.bind_some]
  generalize l.take 40 = xs at hr hlen
  rw [sum_v xs hr (by omega) 150 (by omega), ref_sum_v xs hr (by omega) 150 (by omega), mul_vk hx hy 150 (by decide), ref_mul_v hx hy 150 (by decide), clamp_v, ref_clamp_v, tells_v _ _ xs hlen 150 (by decide), tells_v _ _ xs hlen 150 (by decide)]
  simp

end Go.Proofs.Ytpaednaeehlofaa.Pure
