/-
Proved: the Go function SatSum of package earshotlaw01 returns true for every input, and its arguments read behind the call as before. Conditions: none beyond the given row's.
-/
import Derived.Test.YtpaednaeehlofaaPSatSumx2
namespace Go.Proofs.Ytpaednaeehlofaa.Pure
open Go.RowKit Go.Proofs.Ytpaednaeehlofaa.PSatSum Go.Proofs.YtpaednaeehlofaaW.PrintWords Go.Proofs.YtpaednaeehlofaaW.PrintLast Go.Proofs.YtpaednaeehlofaaW.PrintMore

theorem w64 {x : Int} (h0 : -9223372036854775808 ≤ x) (h1 : x ≤ 9223372036854775807) : wrap64 x = x := by unfold wrap64; omega
theorem w64_def (x : Int) : wrap64 x = (x + 9223372036854775808) % 18446744073709551616 - 9223372036854775808 := by unfold wrap64; omega
theorem w64_range (x : Int) : -9223372036854775808 ≤ wrap64 x ∧ wrap64 x ≤ 9223372036854775807 := by unfold wrap64; omega
theorem iw64 (x : Int) : IntKind.i64.wrap x = wrap64 x := by rw [IntKind.wrap_i64, w64_def]

theorem and_mask (x : Int) (m : Nat) (hm : m ≤ 62) : Go.bits .and .i64 x (2 ^ m - 1) = x % 2 ^ m := by
  have hp : 0 < 2 ^ m := Nat.two_pow_pos m
  have hc : ((2 : Int) ^ m - 1) = ((2 ^ m - 1 : Nat) : Int) := by rw [Int.natCast_sub hp]; simp
  have hlt : (2 : Nat) ^ m ≤ 2 ^ 62 := Nat.pow_le_pow_right (by decide) hm
  have hmod : (2 ^ m - 1) % 2 ^ 64 = 2 ^ m - 1 := Nat.mod_eq_of_lt (by omega)
  have hd : (2 : Int) ^ m ∣ 2 ^ 64 := ⟨2 ^ (64 - m), by rw [← Int.pow_add]; congr 1; omega⟩
  have hx0 : 0 ≤ x % 2 ^ 64 := Int.emod_nonneg _ (by decide)
  rw [hc]
  show IntKind.i64.wrap (((BitVec.ofInt 64 x &&& BitVec.ofInt 64 ((2 ^ m - 1 : Nat) : Int)).toNat : Nat) : Int) = _
  rw [BitVec.toNat_and, BitVec.ofInt_natCast, BitVec.toNat_ofNat, BitVec.toNat_ofInt, hmod, Nat.and_two_pow_sub_one_eq_mod]
  have e : (((x % ((2 ^ 64 : Nat) : Int)).toNat % 2 ^ m : Nat) : Int) = x % 2 ^ m := by
    rw [Int.natCast_emod, Int.toNat_of_nonneg (by simpa using hx0)]
    simp only [Int.natCast_pow, Int.cast_ofNat_Int]
    exact Int.emod_emod_of_dvd _ hd
  have l0 : 0 ≤ x % 2 ^ m := Int.emod_nonneg _ (by exact_mod_cast Nat.ne_of_gt hp)
  have l1 : x % 2 ^ m < 2 ^ m := Int.emod_lt_of_pos _ (by exact_mod_cast hp)
  have l2 : (2 : Int) ^ m ≤ 2 ^ 62 := by exact_mod_cast hlt
  rw [e, iw64, w64] <;> omega

theorem xor_neg (x : Int) (h0 : -9223372036854775808 ≤ x) (h1 : x ≤ 9223372036854775807) : Go.bits .xor .i64 (-1) x = -1 - x := by
  have e : BitVec.ofInt 64 (-1) ^^^ BitVec.ofInt 64 x = ~~~ BitVec.ofInt 64 x := by
    have : BitVec.ofInt 64 (-1) = BitVec.allOnes 64 := by decide
    rw [this]; exact BitVec.allOnes_xor
  show IntKind.i64.wrap (((BitVec.ofInt 64 (-1) ^^^ BitVec.ofInt 64 x).toNat : Nat) : Int) = _
  rw [e, BitVec.toNat_not, BitVec.toNat_ofInt, iw64]
  unfold wrap64
  have : (0:Int) ≤ x % 18446744073709551616 := by omega
  simp only [Nat.reducePow, Int.cast_ofNat_Int]
  omega

theorem or_join (h l : Int) (l0 : 0 ≤ l) (l1 : l < 4294967296) (h0 : -2147483648 ≤ h) (h1 : h < 2147483648) : Go.bits .or .i64 (h * 4294967296) l = h * 4294967296 + l := by
  show IntKind.i64.wrap (((BitVec.ofInt 64 (h * 4294967296) ||| BitVec.ofInt 64 l).toNat : Nat) : Int) = _
  rw [BitVec.toNat_or, BitVec.toNat_ofInt, BitVec.toNat_ofInt, iw64]
  obtain ⟨a, ha⟩ : ∃ a : Nat, (a : Int) = h % 4294967296 := ⟨(h % 4294967296).toNat, by omega⟩
  have e1 : ((h * 4294967296) % ((2 ^ 64 : Nat) : Int)).toNat = 2 ^ 32 * a := by simp only [Nat.reducePow, Int.cast_ofNat_Int]; omega
  have e2 : (l % ((2 ^ 64 : Nat) : Int)).toNat = l.toNat := by simp only [Nat.reducePow, Int.cast_ofNat_Int]; omega
  rw [e1, e2, ← Nat.two_pow_add_eq_or_of_lt (by omega)]
  unfold wrap64
  simp only [Nat.reducePow]
  omega

/-- The lower end of bits. -/
def lowB (b : Int) : Int := -(2 ^ (b.toNat - 1))
theorem lowB_fin : ∀ n : Fin 64, shr .i64 (-9223372036854775808) (wrap64 (64 - ((n.val : Int) + 1))) = lowB ((n.val : Int) + 1) ∧ -9223372036854775808 ≤ lowB ((n.val : Int) + 1) ∧ lowB ((n.val : Int) + 1) ≤ -1 := by decide +kernel
theorem lowB_all {b : Int} (h0 : 1 ≤ b) (h1 : b ≤ 64) : shr .i64 (-9223372036854775808) (wrap64 (64 - b)) = lowB b ∧ -9223372036854775808 ≤ lowB b ∧ lowB b ≤ -1 := by
  have h := lowB_fin ⟨(b - 1).toNat, by omega⟩
  have e : (((b - 1).toNat : Nat) : Int) + 1 = b := by omega
  simp only [e] at h
  exact h
theorem lowB_mono {b c : Int} (h0 : 1 ≤ b) (h : b ≤ c) : lowB c ≤ lowB b := by
  unfold lowB
  have : (2 : Int) ^ (b.toNat - 1) ≤ 2 ^ (c.toNat - 1) := by exact_mod_cast Nat.pow_le_pow_right (by decide) (by omega)
  omega
theorem ends_in {b : Int} (h0 : 1 ≤ b) (h1 : b ≤ 64) : sat_ends.f b = some (lowB b, -1 - lowB b, true) := by
  obtain ⟨e, l, u⟩ := lowB_all h0 h1
  unfold sat_ends.f
  rw [if_neg (by omega), if_neg (by omega), if_pos (by rw [w64] <;> omega), e, xor_neg _ (by omega) (by omega)]
theorem ends_out {b : Int} (h : b < 1 ∨ 64 < b) : sat_ends.f b = some (0, 0, false) := by
  unfold sat_ends.f
  by_cases h0 : b < 1
  · rw [if_pos h0]
  · rw [if_neg h0, if_pos (by omega)]
def clampV (x l h : Int) : Int := if x < l then l else if x > h then h else x
theorem clamp_v (x l h : Int) : sat_Clamp.f x l h = some (clampV x l h) := by
  unfold sat_Clamp.f clampV
  split
  · rfl
  · split <;> rfl
/-- What clamped to the ends of bits is. -/
def satV (x b : Int) : Int := if 1 ≤ b ∧ b ≤ 64 then clampV x (lowB b) (-1 - lowB b) else 0
theorem sat_v (x b : Int) : sat_Sat.f x b = some (satV x b) := by
  unfold sat_Sat.f satV
  by_cases h : 1 ≤ b ∧ b ≤ 64
  · rw [ends_in h.1 h.2, if_pos h]; simp [clamp_v]
  · rw [ends_out (by omega), if_neg h]; simp
def fitsV (x b : Int) : Bool := decide (1 ≤ b ∧ b ≤ 64 ∧ lowB b ≤ x ∧ x ≤ -1 - lowB b)
theorem fits_v (x b : Int) : sat_Fits.f x b = some (fitsV x b) := by
  unfold sat_Fits.f fitsV
  by_cases h : 1 ≤ b ∧ b ≤ 64
  · rw [ends_in h.1 h.2]
    by_cases h2 : x ≥ lowB b
    · simp [h2, h.1, h.2]
    · simp [h2]
  · rw [ends_out (by omega)]; simp; omega
theorem clampV_in {x l h : Int} (hl : l ≤ h) : l ≤ clampV x l h ∧ clampV x l h ≤ h := by unfold clampV; split <;> (try split) <;> omega
theorem clampV_id {x l h : Int} (h0 : l ≤ x) (h1 : x ≤ h) : clampV x l h = x := by unfold clampV; split <;> (try split) <;> omega
theorem clampV_mono {x y l h : Int} (hl : l ≤ h) (hxy : x ≤ y) : clampV x l h ≤ clampV y l h := by unfold clampV; split <;> (try split) <;> (try split) <;> (try split) <;> omega
theorem satV_in {x b : Int} (h0 : 1 ≤ b) (h1 : b ≤ 64) : lowB b ≤ satV x b ∧ satV x b ≤ -1 - lowB b := by
  have := lowB_all h0 h1
  unfold satV; rw [if_pos ⟨h0, h1⟩]; exact clampV_in (by omega)
theorem fitsV_iff {x b : Int} (h0 : 1 ≤ b) (h1 : b ≤ 64) : fitsV x b = true ↔ satV x b = x := by
  have := lowB_all h0 h1
  unfold fitsV satV clampV; rw [if_pos ⟨h0, h1⟩]
  simp only [decide_eq_true_eq]
  split
  · omega
  · split <;> omega

def inR (x : Int) : Prop := -9223372036854775808 ≤ x ∧ x ≤ 9223372036854775807
instance (x : Int) : Decidable (inR x) := inferInstanceAs (Decidable (_ ∧ _))
/-- What a sum tells. -/
def sumV (xs : List Int) : Int × Bool := if inR xs.sum then (xs.sum, true) else (0, false)
def hiS (xs : List Int) : Int := (xs.map (· / 4294967296)).sum
def loS (xs : List Int) : Int := (xs.map (· % 4294967296)).sum
theorem hi_lo (xs : List Int) : xs.sum = hiS xs * 4294967296 + loS xs := by
  induction xs with
  | nil => rfl
  | cons x xs ih => simp only [hiS, loS, List.map_cons, List.sum_cons] at ih ⊢; omega
theorem hi_range (xs : List Int) (h : ∀ x ∈ xs, inR x) : -2147483648 * xs.length ≤ hiS xs ∧ hiS xs ≤ 2147483647 * xs.length := by
  induction xs with
  | nil => simp [hiS]
  | cons x xs ih =>
    have hx := h x (List.mem_cons_self ..)
    have := ih (fun y hy => h y (List.mem_cons_of_mem _ hy))
    unfold inR at hx
    simp only [hiS, List.map_cons, List.sum_cons, List.length_cons] at this ⊢
    omega
theorem lo_range (xs : List Int) : 0 ≤ loS xs ∧ loS xs ≤ 4294967295 * xs.length := by
  induction xs with
  | nil => simp [loS]
  | cons x xs ih =>
    simp only [loS, List.map_cons, List.sum_cons, List.length_cons] at ih ⊢
    omega
theorem rd_get {xs : List Int} {i : Nat} (h : i < xs.length) : rd xs (i : Int) = xs[i] := by unfold rd; simp [h]
theorem hi_take (xs : List Int) (i : Nat) (h : i < xs.length) : hiS (xs.take (i + 1)) = hiS (xs.take i) + xs[i] / 4294967296 := by
  unfold hiS; rw [List.take_succ_eq_append_getElem h, List.map_append, List.sum_append]; simp only [List.map_cons, List.map_nil, List.sum_cons, List.sum_nil, Int.add_zero]
theorem lo_take (xs : List Int) (i : Nat) (h : i < xs.length) : loS (xs.take (i + 1)) = loS (xs.take i) + xs[i] % 4294967296 := by
  unfold loS; rw [List.take_succ_eq_append_getElem h, List.map_append, List.sum_append]; simp only [List.map_cons, List.map_nil, List.sum_cons, List.sum_nil, Int.add_zero]
theorem fits32 (x : Int) : fitsV x 32 = decide (-2147483648 ≤ x ∧ x ≤ 2147483647) := by
  unfold fitsV
  have : lowB 32 = -2147483648 := by decide
  rw [this]; simp
theorem sum_loop (xs : List Int) (hr : ∀ x ∈ xs, inR x) (hn : xs.length ≤ 1073741824) : ∀ (d k i : Nat), i + d = xs.length → d < k →
    sat_Sum.l0 k (hiS (xs.take i)) (loS (xs.take i)) xs (xs.length : Int) (i : Int) = some (sumV xs) := by
  intro d
  induction d with
  | zero =>
    intro k i hd hk
    obtain ⟨k, rfl⟩ : ∃ m, k = m + 1 := ⟨k - 1, by omega⟩
    have h1 := hi_range xs hr
    have h2 := lo_range xs
    have h3 := hi_lo xs
    simp only [sat_Sum.l0]
    rw [if_neg (by omega), List.take_of_length_le (by omega), fits_v, fits32]
    have e : wrap64 (hiS xs + loS xs / 4294967296) = hiS xs + loS xs / 4294967296 := by rw [w64] <;> omega
    have em : Go.bits .and .i64 (loS xs) 4294967295 = loS xs % 4294967296 := and_mask (loS xs) 32 (by decide)
    simp only [Option.bind_some, decide_eq_true_eq]
    rw [e, em]
    unfold sumV
    by_cases hc : -2147483648 ≤ hiS xs + loS xs / 4294967296 ∧ hiS xs + loS xs / 4294967296 ≤ 2147483647
    · rw [if_pos hc, w64 (by omega) (by omega), or_join _ _ (by omega) (by omega) (by omega) (by omega), if_pos (show inR xs.sum from by unfold inR; omega)]
      congr 2
      omega
    · rw [if_neg hc, if_neg (show ¬ inR xs.sum from by unfold inR; omega)]
  | succ d ih =>
    intro k i hd hk
    obtain ⟨k, rfl⟩ : ∃ m, k = m + 1 := ⟨k - 1, by omega⟩
    have hi : i < xs.length := by omega
    have h1 := hi_range (xs.take (i + 1)) (fun x hx => hr x (List.mem_of_mem_take hx))
    have h2 := lo_range (xs.take (i + 1))
    have hl : (xs.take (i + 1)).length = i + 1 := by rw [List.length_take]; omega
    rw [hl] at h1 h2
    simp only [sat_Sum.l0]
    rw [if_pos (by omega), if_pos (by omega), if_pos (by omega), rd_get hi]
    have em : Go.bits .and .i64 xs[i] 4294967295 = xs[i] % 4294967296 := and_mask _ 32 (by decide)
    rw [em, ← hi_take xs i hi, ← lo_take xs i hi, w64 (by omega) (by omega), w64 (by omega) (by omega), w64 (by omega) (by omega)]
    exact ih k (i + 1) (by omega) (by omega)
theorem sum_v (xs : List Int) (hr : ∀ x ∈ xs, inR x) (hn : xs.length ≤ 1073741824) (k : Nat) (hk : xs.length < k) : sat_Sum.f k xs = some (sumV xs) := by
  unfold sat_Sum.f
  have := sum_loop xs hr hn xs.length k 0 (by omega) hk
  simpa [hiS, loS] using this
theorem wf_inR {x : Int} (h : (Lit.int .i64 x).wf = true) : inR x := by
  simp [Lit.wf, IntKind.min, IntKind.max, IntKind.signed, IntKind.bits] at h
  unfold inR; omega

theorem awake_true : earshotlaw01_awake.f 4 = some true := by decide +kernel
theorem awake_ge (k : Nat) (h : 4 ≤ k) : earshotlaw01_awake.f k = some true := by
  induction k with
  | zero => omega
  | succ k ih =>
    by_cases e : k + 1 = 4
    · rw [e]; exact awake_true
    · exact earshotlaw01_awake.mono k _ (ih (by omega))

def few40 (l : List Int) : List Int := l.take 40
theorem few_v (l : List Int) : earshotlaw01_few.f l = some (few40 l) := by
  unfold earshotlaw01_few.f few40
  by_cases h : (l.length : Int) > 40
  · rw [if_pos h, if_pos (by omega)]
  · rw [if_neg h, List.take_of_length_le (by omega)]
/-- The row that is turned. -/
def turnL (xs : List Int) (c : Nat) : List Int := (xs.take (c + 1)).reverse ++ (xs.drop (c + 1)).reverse
theorem turn_len (xs : List Int) (c : Nat) : (turnL xs c).length = xs.length := by
  unfold turnL; simp only [List.length_append, List.length_reverse, List.length_take, List.length_drop]; omega
theorem turn_sum (xs : List Int) (c : Nat) : (turnL xs c).sum = xs.sum := by
  unfold turnL
  rw [List.sum_append, List.sum_reverse, List.sum_reverse, ← List.sum_append, List.take_append_drop]
theorem turn_mem (xs : List Int) (c : Nat) {x : Int} (h : x ∈ turnL xs c) : x ∈ xs := by
  unfold turnL at h
  rcases List.mem_append.mp h with h | h
  · exact List.mem_of_mem_take (List.mem_reverse.mp h)
  · exact List.mem_of_mem_drop (List.mem_reverse.mp h)
theorem turn_at (xs : List Int) (c i : Nat) (hc : c < xs.length) (hi : i < xs.length) :
    (turnL xs c)[i]'(by rw [turn_len]; exact hi) = if h : i ≤ c then xs[c - i]'(by omega) else xs[xs.length - i + c]'(by omega) := by
  unfold turnL
  split
  · rename_i h
    rw [List.getElem_append_left (by simp only [List.length_reverse, List.length_take]; omega)]
    rw [List.getElem_reverse, List.getElem_take]
    congr 1
    simp only [List.length_take]; omega
  · rename_i h
    rw [List.getElem_append_right (by simp only [List.length_reverse, List.length_take]; omega)]
    rw [List.getElem_reverse, List.getElem_drop]
    congr 1
    simp only [List.length_take, List.length_drop, List.length_reverse]; omega
def trip (x : Int) : List Int := [x, -1 - x, 1]
theorem trip_sum (xs : List Int) : (xs.flatMap trip).sum = 0 := by
  induction xs with
  | nil => rfl
  | cons x xs ih => rw [List.flatMap_cons, List.sum_append, ih]; simp [trip]; omega
theorem trip_len (xs : List Int) : (xs.flatMap trip).length = 3 * xs.length := by
  induction xs with
  | nil => rfl
  | cons x xs ih => rw [List.flatMap_cons, List.length_append, ih]; simp [trip]; omega
theorem trip_mem (xs : List Int) (h : ∀ x ∈ xs, inR x) : ∀ x ∈ xs.flatMap trip, inR x := by
  intro y hy
  obtain ⟨x, hx, hy⟩ := List.mem_flatMap.mp hy
  have := h x hx
  unfold inR at this ⊢
  simp only [trip, List.mem_cons, List.not_mem_nil, or_false] at hy
  omega
theorem l1_loop (xs : List Int) (hr : ∀ x ∈ xs, inR x) (hn : xs.length ≤ 40) (n : Int) (ok : Bool) (one two : Bool) (c : Int) (three : Bool)
    (hc : one = true → two = true → c = n ∧ three = ok) : ∀ (d k i : Nat), i + d = xs.length → d + 130 < k →
    earshotlaw01_SatSum.l1 k xs true n ok n ok one two c three ((xs.take i).flatMap trip) (i : Int) = some true := by
  intro d
  induction d with
  | zero =>
    intro k i hd hk
    obtain ⟨k, rfl⟩ : ∃ m, k = m + 1 := ⟨k - 1, by omega⟩
    simp only [earshotlaw01_SatSum.l1]
    rw [if_neg (by omega), List.take_of_length_le (by omega)]
    have hl := trip_len xs
    rw [sum_v _ (trip_mem xs hr) (by omega) k (by omega)]
    have hs : sumV (xs.flatMap trip) = (0, true) := by unfold sumV; rw [trip_sum]; rfl
    rw [hs]
    simp only [Option.bind_some]
    cases one <;> cases two <;> simp_all
  | succ d ih =>
    intro k i hd hk
    obtain ⟨k, rfl⟩ : ∃ m, k = m + 1 := ⟨k - 1, by omega⟩
    have hi : i < xs.length := by omega
    simp only [earshotlaw01_SatSum.l1]
    rw [if_pos (by omega), if_pos (by omega), rd_get hi]
    have hx := hr xs[i] (List.getElem_mem ..)
    unfold inR at hx
    simp only [Option.bind_some]
    have hl := trip_len (xs.take i)
    rw [List.length_take] at hl
    rw [if_pos (by simp only [List.length_cons, List.length_nil]; omega), w64 (by omega) (by omega), w64 (by omega) (by omega)]
    have e : (xs.take i).flatMap trip ++ [xs[i], -1 - xs[i], 1] = (xs.take (i + 1)).flatMap trip := by
      rw [List.take_succ_eq_append_getElem hi, List.flatMap_append]; simp [trip]
    rw [e]
    exact ih k (i + 1) (by omega) (by omega)
theorem l0_loop (xs : List Int) (hr : ∀ x ∈ xs, inR x) (hn : xs.length ≤ 40) (c : Nat) (hc : c < xs.length) : ∀ (d k i : Nat), i + d = xs.length → d + 200 < k →
    earshotlaw01_SatSum.l0 k xs true (c : Int) ((turnL xs c).take i) (i : Int) = some true := by
  intro d
  induction d with
  | zero =>
    intro k i hd hk
    obtain ⟨k, rfl⟩ : ∃ m, k = m + 1 := ⟨k - 1, by omega⟩
    simp only [earshotlaw01_SatSum.l0]
    have htl := turn_len xs c
    rw [if_neg (by omega), List.take_of_length_le (by omega)]
    rw [sum_v xs hr (by omega) k (by omega), sum_v (turnL xs c) (fun x hx => hr x (turn_mem xs c hx)) (by omega) k (by omega)]
    simp only [Option.bind_some, Int.toNat_natCast]
    rw [if_pos (by omega), if_pos (by omega)]
    rw [sum_v (xs.take c) (fun x hx => hr x (List.mem_of_mem_take hx)) (by rw [List.length_take]; omega) k (by rw [List.length_take]; omega)]
    rw [sum_v (xs.drop c) (fun x hx => hr x (List.mem_of_mem_drop hx)) (by rw [List.length_drop]; omega) k (by rw [List.length_drop]; omega)]
    simp only [Option.bind_some]
    have hin : ∀ l : List Int, inR (sumV l).1 := by
      intro l; unfold sumV; split
      · assumption
      · decide
    rw [sum_v _ (by intro x hx; simp only [List.mem_cons, List.not_mem_nil, or_false] at hx; rcases hx with rfl | rfl <;> exact hin _) (by simp only [List.length_cons, List.length_nil]; omega) k (by simp only [List.length_cons, List.length_nil]; omega)]
    simp only [Option.bind_some]
    have ht : sumV (turnL xs c) = sumV xs := by unfold sumV; rw [turn_sum]
    rw [ht]
    refine l1_loop xs hr hn _ _ _ _ _ _ ?_ xs.length k 0 (by omega) (by omega)
    intro h1 h2
    have hs : (xs.take c).sum + (xs.drop c).sum = xs.sum := by rw [← List.sum_append, List.take_append_drop]
    have e1 : (sumV (xs.take c)).1 = (xs.take c).sum := by
      unfold sumV at h1 ⊢; split
      · rfl
      · rename_i h; rw [if_neg h] at h1; cases h1
    have e2 : (sumV (xs.drop c)).1 = (xs.drop c).sum := by
      unfold sumV at h2 ⊢; split
      · rfl
      · rename_i h; rw [if_neg h] at h2; cases h2
    have e3 : sumV [(sumV (xs.take c)).1, (sumV (xs.drop c)).1] = sumV xs := by
      have : [(sumV (xs.take c)).1, (sumV (xs.drop c)).1].sum = xs.sum := by rw [e1, e2, ← hs]; simp
      unfold sumV at this ⊢; rw [this]
    rw [e3]; exact ⟨rfl, rfl⟩
  | succ d ih =>
    intro k i hd hk
    obtain ⟨k, rfl⟩ : ∃ m, k = m + 1 := ⟨k - 1, by omega⟩
    have hi : i < xs.length := by omega
    have htl := turn_len xs c
    simp only [earshotlaw01_SatSum.l0]
    rw [if_pos (by omega), if_neg (by omega), w64 (x := (xs.length : Int) - i) (by omega) (by omega), w64 (x := (xs.length : Int) - i + c) (by omega) (by omega)]
    have hm : Int.tmod ((xs.length : Int) - i + c) (xs.length : Int) = ((if i ≤ c then c - i else xs.length - i + c : Nat) : Int) := by
      rw [Int.tmod_eq_emod_of_nonneg (by omega)]
      by_cases h : i ≤ c
      · rw [if_pos h]
        have : (xs.length : Int) - i + c = ((c - i : Nat) : Int) + xs.length * 1 := by omega
        rw [this, Int.add_mul_emod_self_left, Int.emod_eq_of_lt] <;> omega
      · rw [if_neg h, Int.emod_eq_of_lt] <;> omega
    rw [hm]
    have hb : (if i ≤ c then c - i else xs.length - i + c) < xs.length := by split <;> omega
    rw [if_pos (by omega), if_pos (by omega), rd_get hb, if_pos (by rw [List.length_take]; omega)]
    have e : (turnL xs c).take i ++ [xs[(if i ≤ c then c - i else xs.length - i + c)]] = (turnL xs c).take (i + 1) := by
      rw [List.take_succ_eq_append_getElem (by omega), turn_at xs c i hc hi]
      congr 2
      split <;> rfl
    rw [e, w64 (by omega) (by omega)]
    exact ih k (i + 1) (by omega) (by omega)
theorem SatSum : earshotlaw01_SatSum.Pure := by
  intro l at_ hm hy hw hat
  refine ⟨400, ?_⟩
  have hr : ∀ x ∈ few40 l, inR x := fun x hx => wf_inR (hw x (List.mem_of_mem_take hx))
  have hlen : (few40 l).length ≤ 40 := by unfold few40; rw [List.length_take]; omega
  unfold earshotlaw01_SatSum.f
  rw [awake_ge 400 (by decide), few_v]
  simp only [Option.bind_some]
  generalize few40 l = xs at hr hlen
  by_cases h0 : (xs.length : Int) = 0
  · rw [if_pos h0]
    have : sat_Sum.f 400 [] = some (0, true) := by decide +kernel
    rw [this]; simp
  · rw [if_neg h0]
    have hat := wf_inR hat
    unfold inR at hat
    have hp : 0 < (xs.length : Int) := by omega
    have e1 : -(xs.length : Int) < Int.tmod at_ xs.length ∧ Int.tmod at_ xs.length < xs.length := by
      have h1 := Int.tmod_lt_of_pos at_ hp
      have h2 := Int.lt_tmod_of_pos at_ hp
      omega
    rw [w64 (by omega) (by omega)]
    have e2 := Int.tmod_lt_of_pos (Int.tmod at_ xs.length + xs.length) hp
    have e3 : 0 ≤ Int.tmod (Int.tmod at_ xs.length + xs.length) xs.length := Int.tmod_nonneg _ (by omega)
    obtain ⟨c, hc⟩ := Int.eq_ofNat_of_zero_le e3
    rw [hc] at e2 ⊢
    exact l0_loop xs hr hlen c (by omega) xs.length 400 0 (by omega) (by omega)

end Go.Proofs.Ytpaednaeehlofaa.Pure
