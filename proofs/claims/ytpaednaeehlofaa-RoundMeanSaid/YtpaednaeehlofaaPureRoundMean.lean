/-
Proved: the Go function RoundMean of package earshotlaw02 returns true for every input, and its arguments read behind the call as before. Conditions: none beyond the given row's.
-/
import Derived.Test.YtpaednaeehlofaaPRoundMeanx3
namespace Go.Proofs.Ytpaednaeehlofaa.Pure
open Go.RowKit Go.Proofs.Ytpaednaeehlofaa.PRoundMean Go.Proofs.YtpaednaeehlofaaW.PrintWords Go.Proofs.YtpaednaeehlofaaW.PrintLast Go.Proofs.YtpaednaeehlofaaW.PrintMore

theorem w64 {x : Int} (h0 : -9223372036854775808 ≤ x) (h1 : x ≤ 9223372036854775807) : wrap64 x = x := by unfold wrap64; omega
theorem w64_def (x : Int) : wrap64 x = (x + 9223372036854775808) % 18446744073709551616 - 9223372036854775808 := by unfold wrap64; omega
theorem w64_range (x : Int) : -9223372036854775808 ≤ wrap64 x ∧ wrap64 x ≤ 9223372036854775807 := by unfold wrap64; omega
theorem iw64 (x : Int) : IntKind.i64.wrap x = wrap64 x := by rw [IntKind.wrap_i64, w64_def]

theorem and_mask (x : Int) (m : Nat) (hm : m ≤ 62) : Go.bits .and .i64 x (2 ^ m - 1) = x % 2 ^ m := by
  have hp : 0 < 2 ^ m := Nat.two_pow_pos m
  have hc : ((2 : Int) ^ m - 1) = ((2 ^ m - 1 : Nat) : Int) := by rw [Int.natCast_sub hp]; simp
  have hlt : (2 : Nat) ^ m ≤ 2 ^ 62 := Nat.pow_le_pow_right (by decide) hm
  have hmod : (2 ^ m - 1) % 2 ^ 64 = 2 ^ m - 1 := Nat.mod_eq_of_lt (by omega)
  have hd : (2 : Int) ^ m ∣ 2 ^ 64 := ⟨2 ^ (64 - m), by rw [← Int.pow_add]; congr 1; omega⟩
  have hx0 : 0 ≤ x % 2 ^ 64 := Int.emod_nonneg _ (by decide)
  rw [hc]
  show IntKind.i64.wrap (((BitVec.ofInt 64 x &&& BitVec.ofInt 64 ((2 ^ m - 1 : Nat) : Int)).toNat : Nat) : Int) = _
  rw [BitVec.toNat_and, BitVec.ofInt_natCast, BitVec.toNat_ofNat, BitVec.toNat_ofInt, hmod, Nat.and_two_pow_sub_one_eq_mod]
  have e : (((x % ((2 ^ 64 : Nat) : Int)).toNat % 2 ^ m : Nat) : Int) = x % 2 ^ m := by
    rw [Int.natCast_emod, Int.toNat_of_nonneg (by simpa using hx0)]
    simp only [Int.natCast_pow, Int.cast_ofNat_Int]
    exact Int.emod_emod_of_dvd _ hd
  have l0 : 0 ≤ x % 2 ^ m := Int.emod_nonneg _ (by exact_mod_cast Nat.ne_of_gt hp)
  have l1 : x % 2 ^ m < 2 ^ m := Int.emod_lt_of_pos _ (by exact_mod_cast hp)
  have l2 : (2 : Int) ^ m ≤ 2 ^ 62 := by exact_mod_cast hlt
  rw [e, iw64, w64] <;> omega

theorem xor_neg (x : Int) (h0 : -9223372036854775808 ≤ x) (h1 : x ≤ 9223372036854775807) : Go.bits .xor .i64 (-1) x = -1 - x := by
  have e : BitVec.ofInt 64 (-1) ^^^ BitVec.ofInt 64 x = ~~~ BitVec.ofInt 64 x := by
    have : BitVec.ofInt 64 (-1) = BitVec.allOnes 64 := by decide
    rw [this]; exact BitVec.allOnes_xor
  show IntKind.i64.wrap (((BitVec.ofInt 64 (-1) ^^^ BitVec.ofInt 64 x).toNat : Nat) : Int) = _
  rw [e, BitVec.toNat_not, BitVec.toNat_ofInt, iw64]
  unfold wrap64
  have : (0:Int) ≤ x % 18446744073709551616 := by omega
  simp only [Nat.reducePow, Int.cast_ofNat_Int]
  omega

theorem or_join (h l : Int) (l0 : 0 ≤ l) (l1 : l < 4294967296) (h0 : -2147483648 ≤ h) (h1 : h < 2147483648) : Go.bits .or .i64 (h * 4294967296) l = h * 4294967296 + l := by
  show IntKind.i64.wrap (((BitVec.ofInt 64 (h * 4294967296) ||| BitVec.ofInt 64 l).toNat : Nat) : Int) = _
  rw [BitVec.toNat_or, BitVec.toNat_ofInt, BitVec.toNat_ofInt, iw64]
  obtain ⟨a, ha⟩ : ∃ a : Nat, (a : Int) = h % 4294967296 := ⟨(h % 4294967296).toNat, by omega⟩
  have e1 : ((h * 4294967296) % ((2 ^ 64 : Nat) : Int)).toNat = 2 ^ 32 * a := by simp only [Nat.reducePow, Int.cast_ofNat_Int]; omega
  have e2 : (l % ((2 ^ 64 : Nat) : Int)).toNat = l.toNat := by simp only [Nat.reducePow, Int.cast_ofNat_Int]; omega
  rw [e1, e2, ← Nat.two_pow_add_eq_or_of_lt (by omega)]
  unfold wrap64
  simp only [Nat.reducePow]
  omega

/-- The lower end of bits. -/
def lowB (b : Int) : Int := -(2 ^ (b.toNat - 1))
theorem lowB_fin : ∀ n : Fin 64, shr .i64 (-9223372036854775808) (wrap64 (64 - ((n.val : Int) + 1))) = lowB ((n.val : Int) + 1) ∧ -9223372036854775808 ≤ lowB ((n.val : Int) + 1) ∧ lowB ((n.val : Int) + 1) ≤ -1 := by decide +kernel
theorem lowB_all {b : Int} (h0 : 1 ≤ b) (h1 : b ≤ 64) : shr .i64 (-9223372036854775808) (wrap64 (64 - b)) = lowB b ∧ -9223372036854775808 ≤ lowB b ∧ lowB b ≤ -1 := by
  have h := lowB_fin ⟨(b - 1).toNat, by omega⟩
  have e : (((b - 1).toNat : Nat) : Int) + 1 = b := by omega
  simp only [e] at h
  exact h
theorem lowB_mono {b c : Int} (h0 : 1 ≤ b) (h : b ≤ c) : lowB c ≤ lowB b := by
  unfold lowB
  have : (2 : Int) ^ (b.toNat - 1) ≤ 2 ^ (c.toNat - 1) := by exact_mod_cast Nat.pow_le_pow_right (by decide) (by omega)
  omega
theorem ends_in {b : Int} (h0 : 1 ≤ b) (h1 : b ≤ 64) : sat_ends.f b = some (lowB b, -1 - lowB b, true) := by
  obtain ⟨e, l, u⟩ := lowB_all h0 h1
  unfold sat_ends.f
  rw [if_neg (by omega), if_neg (by omega), if_pos (by rw [w64] <;> omega), e, xor_neg _ (by omega) (by omega)]
theorem ends_out {b : Int} (h : b < 1 ∨ 64 < b) : sat_ends.f b = some (0, 0, false) := by
  unfold sat_ends.f
  by_cases h0 : b < 1
  · rw [if_pos h0]
  · rw [if_neg h0, if_pos (by omega)]
def clampV (x l h : Int) : Int := if x < l then l else if x > h then h else x
theorem clamp_v (x l h : Int) : sat_Clamp.f x l h = some (clampV x l h) := by
  unfold sat_Clamp.f clampV
  split
  · rfl
  · split <;> rfl
/-- What clamped to the ends of bits is. -/
def satV (x b : Int) : Int := if 1 ≤ b ∧ b ≤ 64 then clampV x (lowB b) (-1 - lowB b) else 0
theorem sat_v (x b : Int) : sat_Sat.f x b = some (satV x b) := by
  unfold sat_Sat.f satV
  by_cases h : 1 ≤ b ∧ b ≤ 64
  · rw [ends_in h.1 h.2, if_pos h]; simp [clamp_v]
  · rw [ends_out (by omega), if_neg h]; simp
def fitsV (x b : Int) : Bool := decide (1 ≤ b ∧ b ≤ 64 ∧ lowB b ≤ x ∧ x ≤ -1 - lowB b)
theorem fits_v (x b : Int) : sat_Fits.f x b = some (fitsV x b) := by
  unfold sat_Fits.f fitsV
  by_cases h : 1 ≤ b ∧ b ≤ 64
  · rw [ends_in h.1 h.2]
    by_cases h2 : x ≥ lowB b
    · simp [h2, h.1, h.2]
    · simp [h2]
  · rw [ends_out (by omega)]; simp; omega
theorem clampV_in {x l h : Int} (hl : l ≤ h) : l ≤ clampV x l h ∧ clampV x l h ≤ h := by unfold clampV; split <;> (try split) <;> omega
theorem clampV_id {x l h : Int} (h0 : l ≤ x) (h1 : x ≤ h) : clampV x l h = x := by unfold clampV; split <;> (try split) <;> omega
theorem clampV_mono {x y l h : Int} (hl : l ≤ h) (hxy : x ≤ y) : clampV x l h ≤ clampV y l h := by unfold clampV; split <;> (try split) <;> (try split) <;> (try split) <;> omega
theorem satV_in {x b : Int} (h0 : 1 ≤ b) (h1 : b ≤ 64) : lowB b ≤ satV x b ∧ satV x b ≤ -1 - lowB b := by
  have := lowB_all h0 h1
  unfold satV; rw [if_pos ⟨h0, h1⟩]; exact clampV_in (by omega)
theorem fitsV_iff {x b : Int} (h0 : 1 ≤ b) (h1 : b ≤ 64) : fitsV x b = true ↔ satV x b = x := by
  have := lowB_all h0 h1
  unfold fitsV satV clampV; rw [if_pos ⟨h0, h1⟩]
  simp only [decide_eq_true_eq]
  split
  · omega
  · split <;> omega

def inR (x : Int) : Prop := -9223372036854775808 ≤ x ∧ x ≤ 9223372036854775807
instance (x : Int) : Decidable (inR x) := inferInstanceAs (Decidable (_ ∧ _))
/-- What a sum tells. -/
def sumV (xs : List Int) : Int × Bool := if inR xs.sum then (xs.sum, true) else (0, false)
def hiS (xs : List Int) : Int := (xs.map (· / 4294967296)).sum
def loS (xs : List Int) : Int := (xs.map (· % 4294967296)).sum
theorem hi_lo (xs : List Int) : xs.sum = hiS xs * 4294967296 + loS xs := by
  induction xs with
  | nil => rfl
  | cons x xs ih => simp only [hiS, loS, List.map_cons, List.sum_cons] at ih ⊢; omega
theorem hi_range (xs : List Int) (h : ∀ x ∈ xs, inR x) : -2147483648 * xs.length ≤ hiS xs ∧ hiS xs ≤ 2147483647 * xs.length := by
  induction xs with
  | nil => simp [hiS]
  | cons x xs ih =>
    have hx := h x (List.mem_cons_self ..)
    have := ih (fun y hy => h y (List.mem_cons_of_mem _ hy))
    unfold inR at hx
    simp only [hiS, List.map_cons, List.sum_cons, List.length_cons] at this ⊢
    omega
theorem lo_range (xs : List Int) : 0 ≤ loS xs ∧ loS xs ≤ 4294967295 * xs.length := by
  induction xs with
  | nil => simp [loS]
  | cons x xs ih =>
    simp only [loS, List.map_cons, List.sum_cons, List.length_cons] at ih ⊢
    omega
theorem rd_get {xs : List Int} {i : Nat} (h : i < xs.length) : rd xs (i : Int) = xs[i] := by unfold rd; simp [h]
theorem hi_take (xs : List Int) (i : Nat) (h : i < xs.length) : hiS (xs.take (i + 1)) = hiS (xs.take i) + xs[i] / 4294967296 := by
  unfold hiS; rw [List.take_succ_eq_append_getElem h, List.map_append, List.sum_append]; simp only [List.map_cons, List.map_nil, List.sum_cons, List.sum_nil, Int.add_zero]
theorem lo_take (xs : List Int) (i : Nat) (h : i < xs.length) : loS (xs.take (i + 1)) = loS (xs.take i) + xs[i] % 4294967296 := by
  unfold loS; rw [List.take_succ_eq_append_getElem h, List.map_append, List.sum_append]; simp only [List.map_cons, List.map_nil, List.sum_cons, List.sum_nil, Int.add_zero]
theorem fits32 (x : Int) : fitsV x 32 = decide (-2147483648 ≤ x ∧ x ≤ 2147483647) := by
  unfold fitsV
  have : lowB 32 = -2147483648 := by decide
  rw [this]; simp
theorem sum_loop (xs : List Int) (hr : ∀ x ∈ xs, inR x) (hn : xs.length ≤ 1073741824) : ∀ (d k i : Nat), i + d = xs.length → d < k →
    sat_Sum.l0 k (hiS (xs.take i)) (loS (xs.take i)) xs (xs.length : Int) (i : Int) = some (sumV xs) := by
  intro d
  induction d with
  | zero =>
    intro k i hd hk
    obtain ⟨k, rfl⟩ : ∃ m, k = m + 1 := ⟨k - 1, by omega⟩
    have h1 := hi_range xs hr
    have h2 := lo_range xs
    have h3 := hi_lo xs
    simp only [sat_Sum.l0]
    rw [if_neg (by omega), List.take_of_length_le (by omega), fits_v, fits32]
    have e : wrap64 (hiS xs + loS xs / 4294967296) = hiS xs + loS xs / 4294967296 := by rw [w64] <;> omega
    have em : Go.bits .and .i64 (loS xs) 4294967295 = loS xs % 4294967296 := and_mask (loS xs) 32 (by decide)
    simp only [Option.bind_some, decide_eq_true_eq]
    rw [e, em]
    unfold sumV
    by_cases hc : -2147483648 ≤ hiS xs + loS xs / 4294967296 ∧ hiS xs + loS xs / 4294967296 ≤ 2147483647
    · rw [if_pos hc, w64 (by omega) (by omega), or_join _ _ (by omega) (by omega) (by omega) (by omega), if_pos (show inR xs.sum from by unfold inR; omega)]
      congr 2
      omega
    · rw [if_neg hc, if_neg (show ¬ inR xs.sum from by unfold inR; omega)]
  | succ d ih =>
    intro k i hd hk
    obtain ⟨k, rfl⟩ : ∃ m, k = m + 1 := ⟨k - 1, by omega⟩
    have hi : i < xs.length := by omega
    have h1 := hi_range (xs.take (i + 1)) (fun x hx => hr x (List.mem_of_mem_take hx))
    have h2 := lo_range (xs.take (i + 1))
    have hl : (xs.take (i + 1)).length = i + 1 := by rw [List.length_take]; omega
    rw [hl] at h1 h2
    simp only [sat_Sum.l0]
    rw [if_pos (by omega), if_pos (by omega), if_pos (by omega), rd_get hi]
    have em : Go.bits .and .i64 xs[i] 4294967295 = xs[i] % 4294967296 := and_mask _ 32 (by decide)
    rw [em, ← hi_take xs i hi, ← lo_take xs i hi, w64 (by omega) (by omega), w64 (by omega) (by omega), w64 (by omega) (by omega)]
    exact ih k (i + 1) (by omega) (by omega)
theorem sum_v (xs : List Int) (hr : ∀ x ∈ xs, inR x) (hn : xs.length ≤ 1073741824) (k : Nat) (hk : xs.length < k) : sat_Sum.f k xs = some (sumV xs) := by
  unfold sat_Sum.f
  have := sum_loop xs hr hn xs.length k 0 (by omega) hk
  simpa [hiS, loS] using this
theorem wf_inR {x : Int} (h : (Lit.int .i64 x).wf = true) : inR x := by
  simp [Lit.wf, IntKind.min, IntKind.max, IntKind.signed, IntKind.bits] at h
  unfold inR; omega

theorem ediv_bounds {x n : Int} (hn : 1 ≤ n) : (0 ≤ x → 0 ≤ x / n ∧ x / n ≤ x) ∧ (x < 0 → x ≤ x / n ∧ x / n ≤ -1) := by
  constructor
  · intro h
    exact ⟨Int.ediv_nonneg h (by omega), Int.ediv_le_self n h⟩
  · intro h
    constructor
    · refine Int.le_ediv_of_mul_le (by omega) ?_
      have h2 := Int.mul_nonpos_of_nonpos_of_nonneg (show x ≤ 0 by omega) (show 0 ≤ n - 1 by omega)
      rw [Int.mul_sub] at h2
      omega
    · have := Int.ediv_lt_of_lt_mul (a := x) (b := 0) (c := n) (by omega) (by omega)
      omega
theorem parts_in {x n : Int} (hx : inR x) (hn : 1 ≤ n) (hn2 : n ≤ 9223372036854775807) : round_Parts.f x n = some (x / n, x % n) := by
  unfold inR at hx
  have hb := ediv_bounds (x := x) hn
  have e := Int.tmod_add_mul_tdiv x n
  have h1 := Int.tmod_lt_of_pos x (show 0 < n by omega)
  have h2 := Int.lt_tmod_of_pos x (show 0 < n by omega)
  unfold round_Parts.f
  rw [if_neg (by omega), if_neg (by omega)]
  by_cases hr : Int.tmod x n < 0
  · have hu : x / n = Int.tdiv x n - 1 ∧ x % n = Int.tmod x n + n := (Int.ediv_emod_unique (by omega)).mpr ⟨by rw [Int.mul_sub]; omega, by omega, by omega⟩
    have hneg : x < 0 := by
      by_cases h : 0 ≤ x
      · have := Int.tmod_nonneg n h; omega
      · omega
    have := hb.2 hneg
    rw [if_pos hr, w64 (x := Int.tdiv x n) (by omega) (by omega), w64 (by omega) (by omega), w64 (by omega) (by omega), hu.1, hu.2]
  · have hu : x / n = Int.tdiv x n ∧ x % n = Int.tmod x n := (Int.ediv_emod_unique (by omega)).mpr ⟨by omega, by omega, by omega⟩
    rw [if_neg hr, w64 (by omega) (by omega), hu.1, hu.2]
theorem parts_out {x n : Int} (hn : n < 1) : round_Parts.f x n = some (0, 0) := by unfold round_Parts.f; rw [if_pos hn]
/-- Divided, and rounded. -/
def divV (x n : Int) : Int := if n < 1 then 0 else (2 * x + n) / (2 * n)
theorem div_split {x n : Int} (hn : 1 ≤ n) : (2 * x + n) / (2 * n) = x / n + (if n ≤ 2 * (x % n) then 1 else 0) := by
  have e := Int.emod_add_mul_ediv x n
  have h1 := Int.emod_nonneg x (show n ≠ 0 by omega)
  have h2 := Int.emod_lt_of_pos x (show 0 < n by omega)
  have e2 : 2 * x = 2 * (x % n) + 2 * n * (x / n) := by
    have : 2 * n * (x / n) = 2 * (n * (x / n)) := by rw [Int.mul_assoc]
    omega
  split
  · refine ((Int.ediv_emod_unique (r := 2 * (x % n) - n) (by omega)).mpr ⟨?_, by omega, by omega⟩).1
    rw [Int.mul_add]; omega
  · refine ((Int.ediv_emod_unique (r := 2 * (x % n) + n) (by omega)).mpr ⟨?_, by omega, by omega⟩).1
    rw [Int.mul_add]; omega
theorem div_v {x n : Int} (hx : inR x) (hn2 : n ≤ 9223372036854775807) : round_Div.f x n = some (divV x n) := by
  unfold round_Div.f divV
  by_cases hn : n < 1
  · rw [parts_out hn, if_pos hn]; simp only [Option.bind_some]; rw [if_neg (by omega)]
  · have hb := ediv_bounds (x := x) (n := n) (by omega)
    have h1 := Int.emod_nonneg x (show n ≠ 0 by omega)
    have h2 := Int.emod_lt_of_pos x (show 0 < n by omega)
    unfold inR at hx
    rw [parts_in hx (by omega) hn2, if_neg hn, div_split (by omega)]
    simp only [Option.bind_some]
    rw [w64 (x := n - x % n) (by omega) (by omega)]
    by_cases hc : n ≤ 2 * (x % n)
    · rw [if_pos (by omega), if_pos hc]
      have hn3 : 2 ≤ n := by omega
      have : x / n ≤ 4611686018427387904 := by
        have h : x / n < 4611686018427387905 := Int.ediv_lt_of_lt_mul (by omega) (by have := Int.mul_le_mul_of_nonneg_left hn3 (show (0:Int) ≤ 4611686018427387905 by decide); omega)
        omega
      rw [w64 (by omega) (by omega)]
    · rw [if_neg (by omega), if_neg hc]; simp
/-- Divided by 2^k, and rounded. -/
def halfV (x k : Int) : Int := if 0 ≤ k ∧ k ≤ 62 then divV x (2 ^ k.toNat) else 0
theorem shl_one : ∀ n : Fin 63, shl .i64 1 (n.val : Int) = 2 ^ n.val := by decide +kernel
theorem half_v {x k : Int} (hx : inR x) : round_Half.f x k = some (halfV x k) := by
  unfold round_Half.f halfV
  by_cases h0 : k < 0
  · rw [if_pos h0, if_neg (by omega)]
  · by_cases h1 : k > 62
    · rw [if_neg h0, if_pos h1, if_neg (by omega)]
    · obtain ⟨n, rfl⟩ := Int.eq_ofNat_of_zero_le (show 0 ≤ k by omega)
      have := shl_one ⟨n, by omega⟩
      simp only at this
      have hp : (2 : Int) ^ n ≤ 2 ^ 62 := by exact_mod_cast Nat.pow_le_pow_right (by decide) (show n ≤ 62 by omega)
      rw [if_neg h0, if_neg h1, if_pos (by omega), if_pos (by omega), this, div_v hx (by omega)]
      simp
/-- A product, if there is one. -/
def mulV (a b : Int) : Int × Bool := if inR (a * b) then (a * b, true) else (0, false)
theorem mul_v {a b : Int} (ha : inR a) (hb : inR b) (k : Nat) : sat_Mul.f (k + 1) a b = some (mulV a b) := by
  have key : ∀ z : Bool, z = decide (a = 0 ∨ b = 0) → sat_Mul.j0 (k + 1) a b z = some (mulV a b) := by
    intro z hz
    simp only [sat_Mul.j0]
    by_cases h0 : a = 0 ∨ b = 0
    · have hp : a * b = 0 := by rcases h0 with rfl | rfl <;> simp
      subst hz
      rw [if_pos (by simp [h0])]
      unfold mulV; rw [hp, if_pos (by decide)]
    · subst hz
      rw [if_neg (by simp [h0]), if_neg (by omega)]
      have e := Int.tmod_add_mul_tdiv (wrap64 (a * b)) b
      have hm : -(b.natAbs : Int) < Int.tmod (wrap64 (a * b)) b ∧ Int.tmod (wrap64 (a * b)) b < b.natAbs := by
        by_cases hp : 0 < b
        · have h1 := Int.tmod_lt_of_pos (wrap64 (a * b)) hp
          have h2 := Int.lt_tmod_of_pos (wrap64 (a * b)) hp
          omega
        · have h1 := Int.tmod_lt_of_pos (wrap64 (a * b)) (b := -b) (by omega)
          have h2 := Int.lt_tmod_of_pos (wrap64 (a * b)) (b := -b) (by omega)
          rw [Int.tmod_neg] at h1 h2
          omega
      have hw := w64_def (a * b)
      have hr := w64_range (a * b)
      unfold inR at ha hb
      by_cases hin : inR (a * b)
      · have hp : wrap64 (a * b) = a * b := by unfold inR at hin; exact w64 hin.1 hin.2
        have hq : Int.tdiv (a * b) b = a := Int.mul_tdiv_cancel _ (by omega)
        have c1 : ¬ (a = -1 ∧ b = -9223372036854775808) := by rintro ⟨rfl, rfl⟩; exact absurd hin (by decide)
        have c2 : ¬ (b = -1 ∧ a = -9223372036854775808) := by rintro ⟨rfl, rfl⟩; exact absurd hin (by decide)
        rw [hp, hq, w64 ha.1 ha.2, if_pos rfl]
        unfold mulV; rw [if_pos hin]
        repeat' split
        all_goals first | rfl | (exfalso; omega)
      · unfold mulV; rw [if_neg hin]
        split
        · rename_i hq
          by_cases hs : a = -1 ∧ b = -9223372036854775808
          · rw [if_pos hs.1, if_pos hs.2]
          · by_cases hs2 : b = -1 ∧ a = -9223372036854775808
            · obtain ⟨rfl, rfl⟩ := hs2; decide
            · exfalso
              have hq2 : Int.tdiv (wrap64 (a * b)) b = a := by
                have hle := Int.natAbs_tdiv_le_natAbs (wrap64 (a * b)) b
                by_cases ht : Int.tdiv (wrap64 (a * b)) b ≤ 9223372036854775807
                · rw [w64 (by omega) ht] at hq; exact hq
                · have ht2 : Int.tdiv (wrap64 (a * b)) b = 9223372036854775808 := by omega
                  rw [ht2] at hq e
                  have : wrap64 9223372036854775808 = -9223372036854775808 := by rw [w64_def]; decide
                  rw [this] at hq
                  subst hq
                  have hb1 : b = -1 := by omega
                  exact absurd ⟨hb1, rfl⟩ hs2
              rw [hq2] at e
              have ec : b * a = a * b := Int.mul_comm b a
              apply hin
              unfold inR
              omega
        · rfl
  unfold sat_Mul.f
  by_cases h : a = 0
  · rw [if_pos h]; exact key true (by simp [h])
  · rw [if_neg h]; exact key _ (by rw [show decide (a = 0 ∨ b = 0) = decide (b = 0) from by simp [h]]; rfl)
theorem mul_vk {a b : Int} (ha : inR a) (hb : inR b) (k : Nat) (hk : 1 ≤ k) : sat_Mul.f k a b = some (mulV a b) := by
  obtain ⟨k, rfl⟩ : ∃ m, k = m + 1 := ⟨k - 1, by omega⟩
  exact mul_v ha hb k
/-- Multiplied, divided, rounded, clamped. -/
def scaleV (x m s : Int) : Int := if 0 ≤ m ∧ m ≤ 32767 ∧ 0 ≤ s ∧ s ≤ 30 then clampV (halfV (x * m) s) (-2147483648) 2147483647 else 0
theorem pow_two_le {s : Int} (h0 : 0 ≤ s) (h1 : s ≤ 30) : 1 ≤ (2 : Int) ^ s.toNat ∧ (2 : Int) ^ s.toNat ≤ 1073741824 := by
  constructor
  · exact_mod_cast Nat.one_le_two_pow
  · have h := Nat.pow_le_pow_right (show 0 < 2 by decide) (show s.toNat ≤ 30 by omega)
    have h2 : (((2 ^ s.toNat : Nat)) : Int) ≤ ((2 ^ 30 : Nat) : Int) := by exact_mod_cast h
    rw [Int.natCast_pow] at h2
    exact h2
theorem scale_v {x m s : Int} (hx : inR x) (hm : inR m) (k : Nat) : round_Scale.f (k + 3) x m s = some (scaleV x m s) := by
  have key : round_Scale.j0 (k + 3) x m s (decide ¬ (0 ≤ m ∧ m ≤ 32767 ∧ 0 ≤ s ∧ s ≤ 30)) = some (scaleV x m s) := by
    rw [show k + 3 = (k + 2) + 1 from rfl, round_Scale.j0]
    unfold scaleV
    by_cases h : 0 ≤ m ∧ m ≤ 32767 ∧ 0 ≤ s ∧ s ≤ 30
    · obtain ⟨p0, p1⟩ := pow_two_le h.2.2.1 h.2.2.2
      rw [if_neg (by rw [decide_eq_true_eq]; exact fun hh => hh h), mul_vk hx hm (k + 2) (by omega), if_pos h]
      unfold mulV
      simp only [Option.bind_some]
      by_cases hin : inR (x * m)
      · rw [if_pos hin, if_pos rfl]
        simp only [round_Scale.j1]
        rw [if_neg (by decide), if_pos trivial, half_v hin]
        simp only [Option.bind_some, sat_v]
        unfold satV
        rw [if_pos (by decide)]
        have : lowB 32 = -2147483648 := by decide
        rw [this]; rfl
      · rw [if_neg hin, if_neg (by decide)]
        simp only [round_Scale.j1]
        unfold halfV divV
        rw [if_pos (show 0 ≤ s ∧ s ≤ 62 by omega), if_neg (show ¬ (2 : Int) ^ s.toNat < 1 by omega)]
        generalize (2 : Int) ^ s.toNat = p at p0 p1
        unfold inR at hin
        by_cases hx0 : x < 0
        · rw [show decide (x < 0) = true from decide_eq_true hx0, if_pos rfl]
          have hneg : x * m ≤ 0 := Int.mul_nonpos_of_nonpos_of_nonneg (by omega) h.1
          have : (2 * (x * m) + p) / (2 * p) < -2147483648 := Int.ediv_lt_of_lt_mul (by omega) (by omega)
          unfold clampV; rw [if_pos this]
        · rw [show decide (x < 0) = false from decide_eq_false hx0, if_neg (by decide), if_neg (by decide)]
          have hpos : 0 ≤ x * m := Int.mul_nonneg (by omega) h.1
          have : 2147483648 ≤ (2 * (x * m) + p) / (2 * p) := Int.le_ediv_of_mul_le (by omega) (by omega)
          unfold clampV; rw [if_neg (by omega), if_pos (by omega)]
    · rw [if_pos (by rw [decide_eq_true_eq]; exact h), if_neg h]
  unfold round_Scale.f
  by_cases h1 : m ≥ 0
  · rw [if_pos h1]
    by_cases h2 : m ≤ 32767
    · rw [if_pos h2]
      by_cases h3 : s ≥ 0
      · rw [if_pos h3]; rw [← key]; congr 1
        by_cases h4 : s ≤ 30 <;> simp [h4] <;> omega
      · rw [if_neg h3, ← key]; congr 1; simp; omega
    · rw [if_neg h2, ← key]; congr 1; simp; omega
  · rw [if_neg h1, ← key]; congr 1; simp; omega
theorem scale_vk {x m s : Int} (hx : inR x) (hm : inR m) (k : Nat) (hk : 3 ≤ k) : round_Scale.f k x m s = some (scaleV x m s) := by
  obtain ⟨k, rfl⟩ : ∃ m, k = m + 3 := ⟨k - 3, by omega⟩
  exact scale_v hx hm k

/-- The mean of numbers. -/
def meanV (xs : List Int) : Int := if inR xs.sum then divV xs.sum xs.length else 0
theorem mean_v (xs : List Int) (hr : ∀ x ∈ xs, inR x) (hn : xs.length ≤ 1073741824) (k : Nat) (hk : xs.length < k) : round_Mean.f k xs = some (meanV xs) := by
  unfold round_Mean.f
  rw [sum_v xs hr hn k hk]
  unfold meanV sumV
  simp only [Option.bind_some]
  by_cases h : inR xs.sum
  · rw [if_pos h, if_pos h, if_pos rfl, div_v h (by omega)]; rfl
  · rw [if_neg h, if_neg h, if_neg (by decide)]
theorem divV_mono {x y n : Int} (hn : 1 ≤ n) (h : x ≤ y) : divV x n ≤ divV y n := by
  unfold divV; rw [if_neg (by omega), if_neg (by omega)]
  exact Int.ediv_le_ediv (by omega) (by omega)
theorem divV_mul (x n : Int) (hn : 1 ≤ n) : divV (x * n) n = x := by
  unfold divV; rw [if_neg (by omega)]
  refine ((Int.ediv_emod_unique (r := n) (by omega)).mpr ⟨?_, by omega, by omega⟩).1
  rw [Int.mul_assoc, Int.mul_comm n x]; omega
/-- What is rounded is off by half at most. -/
theorem divV_off (x n : Int) (hn : 1 ≤ n) : -n ≤ 2 * (x - divV x n * n) ∧ 2 * (x - divV x n * n) < n := by
  unfold divV; rw [if_neg (by omega)]
  have e := Int.emod_add_mul_ediv (2 * x + n) (2 * n)
  have h1 := Int.emod_nonneg (2 * x + n) (show 2 * n ≠ 0 by omega)
  have h2 := Int.emod_lt_of_pos (2 * x + n) (show 0 < 2 * n by omega)
  have e2 : 2 * n * ((2 * x + n) / (2 * n)) = 2 * ((2 * x + n) / (2 * n) * n) := by rw [Int.mul_assoc, Int.mul_comm n]
  omega

theorem awake_true : earshotlaw02_awake.f 4 = some true := by decide +kernel
theorem awake_ge (k : Nat) (h : 4 ≤ k) : earshotlaw02_awake.f k = some true := by
  induction k with
  | zero => omega
  | succ k ih =>
    by_cases e : k + 1 = 4
    · rw [e]; exact awake_true
    · exact earshotlaw02_awake.mono k _ (ih (by omega))

theorem sum_lo (l : List Int) (a : Int) (h : ∀ x ∈ l, a ≤ x) : a * l.length ≤ l.sum := by
  induction l with
  | nil => simp
  | cons x l ih =>
    have := ih (fun y hy => h y (List.mem_cons_of_mem _ hy))
    have hx := h x (List.mem_cons_self ..)
    simp only [List.length_cons, List.sum_cons, Int.natCast_add, Int.mul_add, Int.cast_ofNat_Int]
    omega
theorem sum_hi (l : List Int) (a : Int) (h : ∀ x ∈ l, x ≤ a) : l.sum ≤ a * l.length := by
  induction l with
  | nil => simp
  | cons x l ih =>
    have := ih (fun y hy => h y (List.mem_cons_of_mem _ hy))
    have hx := h x (List.mem_cons_self ..)
    simp only [List.length_cons, List.sum_cons, Int.natCast_add, Int.mul_add, Int.cast_ofNat_Int]
    omega
def in57 (x : Int) : Prop := -72057594037927936 ≤ x ∧ x ≤ 72057594037927935
theorem in57_R {x : Int} (h : in57 x) : inR x := by unfold in57 at h; unfold inR; omega
theorem sum57 (l : List Int) (h : ∀ x ∈ l, in57 x) (hn : l.length ≤ 41) : inR l.sum := by
  have h1 := sum_lo l (-72057594037927936) (fun x hx => (h x hx).1)
  have h2 := sum_hi l 72057594037927935 (fun x hx => (h x hx).2)
  unfold inR; omega
theorem mean57 (l : List Int) (h : ∀ x ∈ l, in57 x) (hn : l.length ≤ 41) : meanV l = divV l.sum l.length := by unfold meanV; rw [if_pos (sum57 l h hn)]
theorem mean_same (v : Int) (c : Nat) (hc : 1 ≤ c) (hc2 : c ≤ 41) (hv : in57 v) : meanV (List.replicate c v) = v := by
  rw [mean57 _ (fun x hx => by rw [List.eq_of_mem_replicate hx]; exact hv) (by rw [List.length_replicate]; exact hc2), List.length_replicate]
  have : (List.replicate c v).sum = v * c := by
    clear hc hc2
    induction c with
    | zero => simp
    | succ c ih => rw [List.replicate_succ, List.sum_cons, ih]; simp only [Int.natCast_add, Int.mul_add, Int.cast_ofNat_Int]; omega
  rw [this]; exact divV_mul v c (by omega)
theorem mean_more (l : List Int) (h : ∀ x ∈ l, in57 x) (hn : l.length ≤ 40) (h1 : 1 ≤ l.length) (hm : in57 (meanV l)) : meanV (l ++ [meanV l]) = meanV l := by
  have e := mean57 l h (by omega)
  have ho := divV_off l.sum l.length (by omega)
  rw [← e] at ho
  have hl : (l ++ [meanV l]).length = l.length + 1 := by simp
  rw [mean57 (l ++ [meanV l]) (fun x hx => by rcases List.mem_append.mp hx with hx | hx; exact h x hx; simp at hx; rw [hx]; exact hm) (by omega), hl, List.sum_append]
  generalize meanV l = m at ho
  unfold divV
  rw [if_neg (by omega)]
  refine ((Int.ediv_emod_unique (r := 2 * (l.sum - m * l.length) + ((l.length : Int) + 1)) (by omega)).mpr ⟨?_, by omega, by omega⟩).1
  have e3 : 2 * ((l.length + 1 : Nat) : Int) * m = 2 * (m * l.length) + 2 * m := by
    rw [Int.natCast_add, Int.mul_assoc, Int.add_mul, Int.mul_comm (l.length : Int) m]; omega
  rw [e3]; simp; omega
theorem mean_between (l : List Int) (h : ∀ x ∈ l, in57 x) (hn : l.length ≤ 40) (h1 : 1 ≤ l.length) (a b : Int) (ha : ∀ x ∈ l, a ≤ x) (hb : ∀ x ∈ l, x ≤ b) : a ≤ meanV l ∧ meanV l ≤ b := by
  rw [mean57 l h (by omega)]
  constructor
  · rw [← divV_mul a l.length (by omega)]; exact divV_mono (by omega) (sum_lo l a ha)
  · have := divV_mono (n := (l.length : Int)) (by omega) (sum_hi l b hb)
    rwa [divV_mul b l.length (by omega)] at this
theorem l3_loop (x1 : Int) (L : List Int) (h57 : ∀ x ∈ L, in57 x) (hn : L.length ≤ 40) (h1 : 1 ≤ L.length) (c : Nat) (hc : 1 ≤ c) (hc2 : c ≤ 40) (hv : in57 (x1 / 128)) :
    ∀ (d k i : Nat) (lo hi : Int), i + d = L.length → d + 60 < k → (∀ (j : Nat) (hj : j < L.length), j < i → lo ≤ L[j] ∧ L[j] ≤ hi) →
    earshotlaw02_RoundMean.l3 k x1 true L L.reverse (List.replicate c (x1 / 128)) (meanV L) lo hi (i : Int) = some true := by
  have hR : ∀ x ∈ L, inR x := fun x hx => in57_R (h57 x hx)
  intro d
  induction d with
  | zero =>
    intro k i lo hi hd hk hb
    obtain ⟨k, rfl⟩ : ∃ m, k = m + 1 := ⟨k - 1, by omega⟩
    have ha : ∀ x ∈ L, lo ≤ x ∧ x ≤ hi := by
      intro x hx
      obtain ⟨j, hj, rfl⟩ := List.getElem_of_mem hx
      exact hb j hj (by omega)
    have hbt := mean_between L h57 hn h1 lo hi (fun x hx => (ha x hx).1) (fun x hx => (ha x hx).2)
    have hm57 : in57 (meanV L) := mean_between L h57 hn h1 _ _ (fun x hx => (h57 x hx).1) (fun x hx => (h57 x hx).2)
    simp only [earshotlaw02_RoundMean.l3]
    rw [if_neg (by omega)]
    simp only [Option.bind_some, List.nil_append, List.length_nil, Nat.zero_add]
    rw [if_pos (by omega), if_pos (by omega)]
    rw [mean_v (L ++ [meanV L]) (fun x hx => by rcases List.mem_append.mp hx with hx | hx; exact hR x hx; simp at hx; rw [hx]; exact in57_R hm57) (by simp; omega) k (by simp; omega)]
    rw [mean_v L.reverse (fun x hx => hR x (List.mem_reverse.mp hx)) (by simp; omega) k (by simp; omega)]
    rw [mean_v (List.replicate c (x1 / 128)) (fun x hx => by rw [List.eq_of_mem_replicate hx]; exact in57_R hv) (by simp; omega) k (by simp; omega)]
    have hrev : meanV L.reverse = meanV L := by unfold meanV; rw [List.sum_reverse, List.length_reverse]
    rw [hrev, mean_more L h57 hn h1 hm57, mean_same _ c hc (by omega) hv]
    unfold in57 at hm57
    simp only [Option.bind_some, if_true]
    rw [if_pos hbt.1, if_pos hbt.2, w64 (by omega) (by omega), w64 (by omega) (by omega), if_pos (by omega)]
    simp; omega
  | succ d ih =>
    intro k i lo hi hd hk hb
    obtain ⟨k, rfl⟩ : ∃ m, k = m + 1 := ⟨k - 1, by omega⟩
    have hi' : i < L.length := by omega
    simp only [earshotlaw02_RoundMean.l3]
    rw [if_pos (by omega), if_pos (by omega), rd_get hi', w64 (by omega) (by omega)]
    refine ih k (i + 1) _ _ (by omega) (by omega) ?_
    intro j hj hji
    unfold mn mx
    by_cases e : j = i
    · subst e; constructor <;> split <;> omega
    · have := hb j hj (by omega)
      constructor <;> split <;> omega
theorem l2_loop (x1 x2 : Int) (L : List Int) (h57 : ∀ x ∈ L, in57 x) (hn : L.length ≤ 40) (hv : in57 (x1 / 128)) (c : Nat) (hc : c < 40) (hx2 : Int.tmod (wrap64 ((Int.tmod x2 40) + 40)) 40 = c) :
    ∀ (d k i : Nat), i + d = c + 1 → d + 150 < k → earshotlaw02_RoundMean.l2 k x1 x2 true L L.reverse (List.replicate i (x1 / 128)) (i : Int) = some true := by
  have hR : ∀ x ∈ L, inR x := fun x hx => in57_R (h57 x hx)
  intro d
  induction d with
  | zero =>
    intro k i hd hk
    obtain ⟨k, rfl⟩ : ∃ m, k = m + 1 := ⟨k - 1, by omega⟩
    simp only [earshotlaw02_RoundMean.l2]
    rw [hx2, if_neg (by omega), mean_v L hR (by omega) k (by omega)]
    simp only [Option.bind_some, if_true]
    by_cases h0 : (L.length : Int) = 0
    · rw [if_pos h0]
      have hL : L = [] := List.eq_nil_of_length_eq_zero (by omega)
      subst hL
      rw [if_pos (by decide)]
      rw [mean_v (List.replicate i (x1 / 128)) (fun x hx => by rw [List.eq_of_mem_replicate hx]; exact in57_R hv) (by simp; omega) k (by simp; omega)]
      rw [mean_same _ i (by omega) (by omega) hv]; simp
    · rw [if_neg h0, if_pos (by omega)]
      exact l3_loop x1 L h57 hn (by omega) i (by omega) (by omega) hv L.length k 0 _ _ (by omega) (by omega) (fun j hj h => by omega)
  | succ d ih =>
    intro k i hd hk
    obtain ⟨k, rfl⟩ : ∃ m, k = m + 1 := ⟨k - 1, by omega⟩
    simp only [earshotlaw02_RoundMean.l2]
    rw [hx2, if_pos (by omega), if_pos (by rw [List.length_replicate]; omega), w64 (by omega) (by omega), ← List.replicate_succ']
    exact ih k (i + 1) (by omega) (by omega)
theorem l1_loop (x1 x2 : Int) (L : List Int) (h57 : ∀ x ∈ L, in57 x) (hn : L.length ≤ 40) (hv : in57 (x1 / 128)) (c : Nat) (hc : c < 40) (hx2 : Int.tmod (wrap64 ((Int.tmod x2 40) + 40)) 40 = c) :
    ∀ (i k : Nat), i ≤ L.length → i + 230 < k → earshotlaw02_RoundMean.l1 k x1 x2 true L (L.drop i).reverse ((i : Int) - 1) = some true := by
  intro i
  induction i with
  | zero =>
    intro k hi hk
    obtain ⟨k, rfl⟩ : ∃ m, k = m + 1 := ⟨k - 1, by omega⟩
    simp only [earshotlaw02_RoundMean.l1]
    rw [if_neg (by omega)]
    exact l2_loop x1 x2 L h57 hn hv c hc hx2 (c + 1) k 0 (by omega) (by omega)
  | succ i ih =>
    intro k hi hk
    obtain ⟨k, rfl⟩ : ∃ m, k = m + 1 := ⟨k - 1, by omega⟩
    have hlt : i < L.length := by omega
    have e1 : ((i + 1 : Nat) : Int) - 1 = (i : Int) := by omega
    simp only [earshotlaw02_RoundMean.l1]
    rw [e1, if_pos (by omega), if_pos (by omega), if_pos (by omega), rd_get hlt, if_pos (by simp; omega), w64 (by omega) (by omega)]
    have e : (L.drop (i + 1)).reverse ++ [L[i]] = (L.drop i).reverse := by
      rw [List.drop_eq_getElem_cons hlt, List.reverse_cons]
    rw [e]
    exact ih k (by omega) (by omega)
theorem l0_loop (xs : List Int) (hr : ∀ x ∈ xs, inR x) (_hlen : xs.length ≤ 17592186043904) (x1 x2 : Int) (hv : in57 (x1 / 128)) (c : Nat) (hc : c < 40) (hx2 : Int.tmod (wrap64 ((Int.tmod x2 40) + 40)) 40 = c) :
    ∀ (d k i : Nat), i + d = 40 → d + 300 < k → i ≤ xs.length → earshotlaw02_RoundMean.l0 k xs x1 x2 true ((xs.take i).map (· / 128)) (i : Int) = some true := by
  have key : ∀ (k i : Nat), 290 < k → i ≤ 40 → i ≤ xs.length → earshotlaw02_RoundMean.j1 k x1 x2 true ((xs.take i).map (· / 128)) [] = some true := by
    intro k i hk hi hi2
    obtain ⟨k, rfl⟩ : ∃ m, k = m + 1 := ⟨k - 1, by omega⟩
    have hl : ((xs.take i).map (· / 128)).length = i := by rw [List.length_map, List.length_take]; omega
    have h57 : ∀ x ∈ (xs.take i).map (· / 128), in57 x := by
      intro x hx
      obtain ⟨y, hy, rfl⟩ := List.mem_map.mp hx
      have := hr y (List.mem_of_mem_take hy)
      unfold inR at this; unfold in57; omega
    simp only [earshotlaw02_RoundMean.j1]
    rw [w64 (by omega) (by omega)]
    have := l1_loop x1 x2 ((xs.take i).map (· / 128)) h57 (by rw [hl]; exact hi) hv c hc hx2 ((xs.take i).map (· / 128)).length k (Nat.le_refl _) (by rw [hl]; omega)
    rw [List.drop_length] at this
    exact this
  intro d
  induction d with
  | zero =>
    intro k i hd hk hi
    obtain ⟨k, rfl⟩ : ∃ m, k = m + 1 := ⟨k - 1, by omega⟩
    simp only [earshotlaw02_RoundMean.l0]
    by_cases h : (i : Int) < xs.length
    · rw [if_pos h, if_neg (by omega)]; exact key k i (by omega) (by omega) hi
    · rw [if_neg h]; exact key k i (by omega) (by omega) hi
  | succ d ih =>
    intro k i hd hk hi
    obtain ⟨k, rfl⟩ : ∃ m, k = m + 1 := ⟨k - 1, by omega⟩
    simp only [earshotlaw02_RoundMean.l0]
    by_cases h : (i : Int) < xs.length
    · have hlt : i < xs.length := by omega
      rw [if_pos h, if_pos (by omega), if_pos (by omega), rd_get hlt, if_pos (by rw [List.length_map, List.length_take]; omega), w64 (by omega) (by omega)]
      have e : (xs.take i).map (· / 128) ++ [xs[i] / 128] = (xs.take (i + 1)).map (· / 128) := by
        rw [List.take_succ_eq_append_getElem hlt, List.map_append]; rfl
      rw [e]
      exact ih k (i + 1) (by omega) (by omega) (by omega)
    · rw [if_neg h]; exact key k i (by omega) (by omega) hi
theorem RoundMean : earshotlaw02_RoundMean.Pure := by
  intro xs x1 x2 hm hy hw h1 h2
  refine ⟨400, ?_⟩
  unfold earshotlaw02_RoundMean.f
  rw [awake_ge 400 (by decide)]
  simp only [Option.bind_some]
  have h1 := wf_inR h1
  have h2 := wf_inR h2
  unfold inR at h1 h2
  have b1 := Int.tmod_lt_of_pos x2 (show (0 : Int) < 40 by decide)
  have b2 := Int.lt_tmod_of_pos x2 (show (0 : Int) < 40 by decide)
  have b3 := Int.tmod_lt_of_pos (wrap64 (Int.tmod x2 40 + 40)) (show (0 : Int) < 40 by decide)
  have b4 : 0 ≤ Int.tmod (wrap64 (Int.tmod x2 40 + 40)) 40 := by
    rw [w64 (by omega) (by omega)]; exact Int.tmod_nonneg _ (by omega)
  obtain ⟨c, hc⟩ := Int.eq_ofNat_of_zero_le b4
  refine l0_loop xs (fun x hx => wf_inR (hw x hx)) ?_ x1 x2 (by unfold in57; omega) c (by omega) hc 40 400 0 (by omega) (by omega) (by omega)
  omega

end Go.Proofs.Ytpaednaeehlofaa.Pure
