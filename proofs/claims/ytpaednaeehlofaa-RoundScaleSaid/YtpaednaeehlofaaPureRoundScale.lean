/-
Proved: the Go function RoundScale of package earshotlaw02 returns true for every input, and its arguments read behind the call as before. Conditions: none beyond the given row's.
-/
import Derived.Test.YtpaednaeehlofaaPRoundScalex2
namespace Go.Proofs.Ytpaednaeehlofaa.Pure
open Go.RowKit Go.Proofs.Ytpaednaeehlofaa.PRoundScale Go.Proofs.YtpaednaeehlofaaW.PrintWords Go.Proofs.YtpaednaeehlofaaW.PrintLast Go.Proofs.YtpaednaeehlofaaW.PrintMore

theorem w64 {x : Int} (h0 : -9223372036854775808 ≤ x) (h1 : x ≤ 9223372036854775807) : wrap64 x = x := by unfold wrap64; omega
theorem w64_def (x : Int) : wrap64 x = (x + 9223372036854775808) % 18446744073709551616 - 9223372036854775808 := by unfold wrap64; omega
theorem w64_range (x : Int) : -9223372036854775808 ≤ wrap64 x ∧ wrap64 x ≤ 9223372036854775807 := by unfold wrap64; omega
theorem iw64 (x : Int) : IntKind.i64.wrap x = wrap64 x := by rw [IntKind.wrap_i64, w64_def]

theorem and_mask (x : Int) (m : Nat) (hm : m ≤ 62) : Go.bits .and .i64 x (2 ^ m - 1) = x % 2 ^ m := by
  have hp : 0 < 2 ^ m := Nat.two_pow_pos m
  have hc : ((2 : Int) ^ m - 1) = ((2 ^ m - 1 : Nat) : Int) := by rw [Int.natCast_sub hp]; simp
  have hlt : (2 : Nat) ^ m ≤ 2 ^ 62 := Nat.pow_le_pow_right (by decide) hm
  have hmod : (2 ^ m - 1) % 2 ^ 64 = 2 ^ m - 1 := Nat.mod_eq_of_lt (by omega)
  have hd : (2 : Int) ^ m ∣ 2 ^ 64 := ⟨2 ^ (64 - m), by rw [← Int.pow_add]; congr 1; omega⟩
  have hx0 : 0 ≤ x % 2 ^ 64 := Int.emod_nonneg _ (by decide)
  rw [hc]
  show IntKind.i64.wrap (((BitVec.ofInt 64 x &&& BitVec.ofInt 64 ((2 ^ m - 1 : Nat) : Int)).toNat : Nat) : Int) = _
  rw [BitVec.toNat_and, BitVec.ofInt_natCast, BitVec.toNat_ofNat, BitVec.toNat_ofInt, hmod, Nat.and_two_pow_sub_one_eq_mod]
  have e : (((x % ((2 ^ 64 : Nat) : Int)).toNat % 2 ^ m : Nat) : Int) = x % 2 ^ m := by
    rw [Int.natCast_emod, Int.toNat_of_nonneg (by simpa using hx0)]
    simp only [Int.natCast_pow, Int.cast_ofNat_Int]
    exact Int.emod_emod_of_dvd _ hd
  have l0 : 0 ≤ x % 2 ^ m := Int.emod_nonneg _ (by exact_mod_cast Nat.ne_of_gt hp)
  have l1 : x % 2 ^ m < 2 ^ m := Int.emod_lt_of_pos _ (by exact_mod_cast hp)
  have l2 : (2 : Int) ^ m ≤ 2 ^ 62 := by exact_mod_cast hlt
  rw [e, iw64, w64] <;> omega

theorem xor_neg (x : Int) (h0 : -9223372036854775808 ≤ x) (h1 : x ≤ 9223372036854775807) : Go.bits .xor .i64 (-1) x = -1 - x := by
  have e : BitVec.ofInt 64 (-1) ^^^ BitVec.ofInt 64 x = ~~~ BitVec.ofInt 64 x := by
    have : BitVec.ofInt 64 (-1) = BitVec.allOnes 64 := by decide
    rw [this]; exact BitVec.allOnes_xor
  show IntKind.i64.wrap (((BitVec.ofInt 64 (-1) ^^^ BitVec.ofInt 64 x).toNat : Nat) : Int) = _
  rw [e, BitVec.toNat_not, BitVec.toNat_ofInt, iw64]
  unfold wrap64
  have : (0:Int) ≤ x % 18446744073709551616 := by omega
  simp only [Nat.reducePow, Int.cast_ofNat_Int]
  omega

theorem or_join (h l : Int) (l0 : 0 ≤ l) (l1 : l < 4294967296) (h0 : -2147483648 ≤ h) (h1 : h < 2147483648) : Go.bits .or .i64 (h * 4294967296) l = h * 4294967296 + l := by
  show IntKind.i64.wrap (((BitVec.ofInt 64 (h * 4294967296) ||| BitVec.ofInt 64 l).toNat : Nat) : Int) = _
  rw [BitVec.toNat_or, BitVec.toNat_ofInt, BitVec.toNat_ofInt, iw64]
  obtain ⟨a, ha⟩ : ∃ a : Nat, (a : Int) = h % 4294967296 := ⟨(h % 4294967296).toNat, by omega⟩
  have e1 : ((h * 4294967296) % ((2 ^ 64 : Nat) : Int)).toNat = 2 ^ 32 * a := by simp only [Nat.reducePow, Int.cast_ofNat_Int]; omega
  have e2 : (l % ((2 ^ 64 : Nat) : Int)).toNat = l.toNat := by simp only [Nat.reducePow, Int.cast_ofNat_Int]; omega
  rw [e1, e2, ← Nat.two_pow_add_eq_or_of_lt (by omega)]
  unfold wrap64
  simp only [Nat.reducePow]
  omega
def inR (x : Int) : Prop := -9223372036854775808 ≤ x ∧ x ≤ 9223372036854775807
instance (x : Int) : Decidable (inR x) := inferInstanceAs (Decidable (_ ∧ _))
theorem wf_inR {x : Int} (h : (Lit.int .i64 x).wf = true) : inR x := by
  simp [Lit.wf, IntKind.min, IntKind.max, IntKind.signed, IntKind.bits] at h
  unfold inR; omega
theorem rd_get {xs : List Int} {i : Nat} (h : i < xs.length) : rd xs (i : Int) = xs[i] := by unfold rd; simp [h]

/-- The lower end of bits. -/
def lowB (b : Int) : Int := -(2 ^ (b.toNat - 1))
theorem lowB_fin : ∀ n : Fin 64, shr .i64 (-9223372036854775808) (wrap64 (64 - ((n.val : Int) + 1))) = lowB ((n.val : Int) + 1) ∧ -9223372036854775808 ≤ lowB ((n.val : Int) + 1) ∧ lowB ((n.val : Int) + 1) ≤ -1 := by decide +kernel
theorem lowB_all {b : Int} (h0 : 1 ≤ b) (h1 : b ≤ 64) : shr .i64 (-9223372036854775808) (wrap64 (64 - b)) = lowB b ∧ -9223372036854775808 ≤ lowB b ∧ lowB b ≤ -1 := by
  have h := lowB_fin ⟨(b - 1).toNat, by omega⟩
  have e : (((b - 1).toNat : Nat) : Int) + 1 = b := by omega
  simp only [e] at h
  exact h
theorem lowB_mono {b c : Int} (h0 : 1 ≤ b) (h : b ≤ c) : lowB c ≤ lowB b := by
  unfold lowB
  have : (2 : Int) ^ (b.toNat - 1) ≤ 2 ^ (c.toNat - 1) := by exact_mod_cast Nat.pow_le_pow_right (by decide) (by omega)
  omega
theorem ends_in {b : Int} (h0 : 1 ≤ b) (h1 : b ≤ 64) : sat_ends.f b = some (lowB b, -1 - lowB b, true) := by
  obtain ⟨e, l, u⟩ := lowB_all h0 h1
  unfold sat_ends.f
  rw [if_neg (by omega), if_neg (by omega), if_pos (by rw [w64] <;> omega), e, xor_neg _ (by omega) (by omega)]
theorem ends_out {b : Int} (h : b < 1 ∨ 64 < b) : sat_ends.f b = some (0, 0, false) := by
  unfold sat_ends.f
  by_cases h0 : b < 1
  · rw [if_pos h0]
  · rw [if_neg h0, if_pos (by omega)]
def clampV (x l h : Int) : Int := if x < l then l else if x > h then h else x
theorem clamp_v (x l h : Int) : sat_Clamp.f x l h = some (clampV x l h) := by
  unfold sat_Clamp.f clampV
  split
  · rfl
  · split <;> rfl
/-- What clamped to the ends of bits is. -/
def satV (x b : Int) : Int := if 1 ≤ b ∧ b ≤ 64 then clampV x (lowB b) (-1 - lowB b) else 0
theorem sat_v (x b : Int) : sat_Sat.f x b = some (satV x b) := by
  unfold sat_Sat.f satV
  by_cases h : 1 ≤ b ∧ b ≤ 64
  · rw [ends_in h.1 h.2, if_pos h]; simp [clamp_v]
  · rw [ends_out (by omega), if_neg h]; simp
theorem clampV_in {x l h : Int} (hl : l ≤ h) : l ≤ clampV x l h ∧ clampV x l h ≤ h := by unfold clampV; split <;> (try split) <;> omega
theorem clampV_id {x l h : Int} (h0 : l ≤ x) (h1 : x ≤ h) : clampV x l h = x := by unfold clampV; split <;> (try split) <;> omega
theorem clampV_mono {x y l h : Int} (hl : l ≤ h) (hxy : x ≤ y) : clampV x l h ≤ clampV y l h := by unfold clampV; split <;> (try split) <;> (try split) <;> (try split) <;> omega
theorem satV_in {x b : Int} (h0 : 1 ≤ b) (h1 : b ≤ 64) : lowB b ≤ satV x b ∧ satV x b ≤ -1 - lowB b := by
  have := lowB_all h0 h1
  unfold satV; rw [if_pos ⟨h0, h1⟩]; exact clampV_in (by omega)

/-- A product, if there is one. -/
def mulV (a b : Int) : Int × Bool := if inR (a * b) then (a * b, true) else (0, false)
theorem mul_v {a b : Int} (ha : inR a) (hb : inR b) (k : Nat) : sat_Mul.f (k + 1) a b = some (mulV a b) := by
  have key : ∀ z : Bool, z = decide (a = 0 ∨ b = 0) → sat_Mul.j0 (k + 1) a b z = some (mulV a b) := by
    intro z hz
    simp only [sat_Mul.j0]
    by_cases h0 : a = 0 ∨ b = 0
    · have hp : a * b = 0 := by rcases h0 with rfl | rfl <;> simp
      subst hz
      rw [if_pos (by simp [h0])]
      unfold mulV; rw [hp, if_pos (by decide)]
    · subst hz
      rw [if_neg (by simp [h0]), if_neg (by omega)]
      have e := Int.tmod_add_mul_tdiv (wrap64 (a * b)) b
      have hm : -(b.natAbs : Int) < Int.tmod (wrap64 (a * b)) b ∧ Int.tmod (wrap64 (a * b)) b < b.natAbs := by
        by_cases hp : 0 < b
        · have h1 := Int.tmod_lt_of_pos (wrap64 (a * b)) hp
          have h2 := Int.lt_tmod_of_pos (wrap64 (a * b)) hp
          omega
        · have h1 := Int.tmod_lt_of_pos (wrap64 (a * b)) (b := -b) (by omega)
          have h2 := Int.lt_tmod_of_pos (wrap64 (a * b)) (b := -b) (by omega)
          rw [Int.tmod_neg] at h1 h2
          omega
      have hw := w64_def (a * b)
      have hr := w64_range (a * b)
      unfold inR at ha hb
      by_cases hin : inR (a * b)
      · have hp : wrap64 (a * b) = a * b := by unfold inR at hin; exact w64 hin.1 hin.2
        have hq : Int.tdiv (a * b) b = a := Int.mul_tdiv_cancel _ (by omega)
        have c1 : ¬ (a = -1 ∧ b = -9223372036854775808) := by rintro ⟨rfl, rfl⟩; exact absurd hin (by decide)
        have c2 : ¬ (b = -1 ∧ a = -9223372036854775808) := by rintro ⟨rfl, rfl⟩; exact absurd hin (by decide)
        rw [hp, hq, w64 ha.1 ha.2, if_pos rfl]
        unfold mulV; rw [if_pos hin]
        repeat' split
        all_goals first | rfl | (exfalso; omega)
      · unfold mulV; rw [if_neg hin]
        split
        · rename_i hq
          by_cases hs : a = -1 ∧ b = -9223372036854775808
          · rw [if_pos hs.1, if_pos hs.2]
          · by_cases hs2 : b = -1 ∧ a = -9223372036854775808
            · obtain ⟨rfl, rfl⟩ := hs2; decide
            · exfalso
              have hq2 : Int.tdiv (wrap64 (a * b)) b = a := by
                have hle := Int.natAbs_tdiv_le_natAbs (wrap64 (a * b)) b
                by_cases ht : Int.tdiv (wrap64 (a * b)) b ≤ 9223372036854775807
                · rw [w64 (by omega) ht] at hq; exact hq
                · have ht2 : Int.tdiv (wrap64 (a * b)) b = 9223372036854775808 := by omega
                  rw [ht2] at hq e
                  have : wrap64 9223372036854775808 = -9223372036854775808 := by rw [w64_def]; decide
                  rw [this] at hq
                  subst hq
                  have hb1 : b = -1 := by omega
                  exact absurd ⟨hb1, rfl⟩ hs2
              rw [hq2] at e
              have ec : b * a = a * b := Int.mul_comm b a
              apply hin
              unfold inR
              omega
        · rfl
  unfold sat_Mul.f
  by_cases h : a = 0
  · rw [if_pos h]; exact key true (by simp [h])
  · rw [if_neg h]; exact key _ (by rw [show decide (a = 0 ∨ b = 0) = decide (b = 0) from by simp [h]]; rfl)
theorem mul_vk {a b : Int} (ha : inR a) (hb : inR b) (k : Nat) (hk : 1 ≤ k) : sat_Mul.f k a b = some (mulV a b) := by
  obtain ⟨k, rfl⟩ : ∃ m, k = m + 1 := ⟨k - 1, by omega⟩
  exact mul_v ha hb k

theorem ediv_bounds {x n : Int} (hn : 1 ≤ n) : (0 ≤ x → 0 ≤ x / n ∧ x / n ≤ x) ∧ (x < 0 → x ≤ x / n ∧ x / n ≤ -1) := by
  constructor
  · intro h
    exact ⟨Int.ediv_nonneg h (by omega), Int.ediv_le_self n h⟩
  · intro h
    constructor
    · refine Int.le_ediv_of_mul_le (by omega) ?_
      have h2 := Int.mul_nonpos_of_nonpos_of_nonneg (show x ≤ 0 by omega) (show 0 ≤ n - 1 by omega)
      rw [Int.mul_sub] at h2
      omega
    · have := Int.ediv_lt_of_lt_mul (a := x) (b := 0) (c := n) (by omega) (by omega)
      omega
theorem parts_in {x n : Int} (hx : inR x) (hn : 1 ≤ n) (hn2 : n ≤ 9223372036854775807) : round_Parts.f x n = some (x / n, x % n) := by
  unfold inR at hx
  have hb := ediv_bounds (x := x) hn
  have e := Int.tmod_add_mul_tdiv x n
  have h1 := Int.tmod_lt_of_pos x (show 0 < n by omega)
  have h2 := Int.lt_tmod_of_pos x (show 0 < n by omega)
  unfold round_Parts.f
  rw [if_neg (by omega), if_neg (by omega)]
  by_cases hr : Int.tmod x n < 0
  · have hu : x / n = Int.tdiv x n - 1 ∧ x % n = Int.tmod x n + n := (Int.ediv_emod_unique (by omega)).mpr ⟨by rw [Int.mul_sub]; omega, by omega, by omega⟩
    have hneg : x < 0 := by
      by_cases h : 0 ≤ x
      · have := Int.tmod_nonneg n h; omega
      · omega
    have := hb.2 hneg
    rw [if_pos hr, w64 (x := Int.tdiv x n) (by omega) (by omega), w64 (by omega) (by omega), w64 (by omega) (by omega), hu.1, hu.2]
  · have hu : x / n = Int.tdiv x n ∧ x % n = Int.tmod x n := (Int.ediv_emod_unique (by omega)).mpr ⟨by omega, by omega, by omega⟩
    rw [if_neg hr, w64 (by omega) (by omega), hu.1, hu.2]
theorem parts_out {x n : Int} (hn : n < 1) : round_Parts.f x n = some (0, 0) := by unfold round_Parts.f; rw [if_pos hn]
/-- Divided, and rounded. -/
def divV (x n : Int) : Int := if n < 1 then 0 else (2 * x + n) / (2 * n)
theorem div_split {x n : Int} (hn : 1 ≤ n) : (2 * x + n) / (2 * n) = x / n + (if n ≤ 2 * (x % n) then 1 else 0) := by
  have e := Int.emod_add_mul_ediv x n
  have h1 := Int.emod_nonneg x (show n ≠ 0 by omega)
  have h2 := Int.emod_lt_of_pos x (show 0 < n by omega)
  have e2 : 2 * x = 2 * (x % n) + 2 * n * (x / n) := by
    have : 2 * n * (x / n) = 2 * (n * (x / n)) := by rw [Int.mul_assoc]
    omega
  split
  · refine ((Int.ediv_emod_unique (r := 2 * (x % n) - n) (by omega)).mpr ⟨?_, by omega, by omega⟩).1
    rw [Int.mul_add]; omega
  · refine ((Int.ediv_emod_unique (r := 2 * (x % n) + n) (by omega)).mpr ⟨?_, by omega, by omega⟩).1
    rw [Int.mul_add]; omega
theorem div_v {x n : Int} (hx : inR x) (hn2 : n ≤ 9223372036854775807) : round_Div.f x n = some (divV x n) := by
  unfold round_Div.f divV
  by_cases hn : n < 1
  · rw [parts_out hn, if_pos hn]; simp only [Option.bind_some]; rw [if_neg (by omega)]
  · have hb := ediv_bounds (x := x) (n := n) (by omega)
    have h1 := Int.emod_nonneg x (show n ≠ 0 by omega)
    have h2 := Int.emod_lt_of_pos x (show 0 < n by omega)
    unfold inR at hx
    rw [parts_in hx (by omega) hn2, if_neg hn, div_split (by omega)]
    simp only [Option.bind_some]
    rw [w64 (x := n - x % n) (by omega) (by omega)]
    by_cases hc : n ≤ 2 * (x % n)
    · rw [if_pos (by omega), if_pos hc]
      have hn3 : 2 ≤ n := by omega
      have : x / n ≤ 4611686018427387904 := by
        have h : x / n < 4611686018427387905 := Int.ediv_lt_of_lt_mul (by omega) (by have := Int.mul_le_mul_of_nonneg_left hn3 (show (0:Int) ≤ 4611686018427387905 by decide); omega)
        omega
      rw [w64 (by omega) (by omega)]
    · rw [if_neg (by omega), if_neg hc]; simp
/-- Divided by 2^k, and rounded. -/
def halfV (x k : Int) : Int := if 0 ≤ k ∧ k ≤ 62 then divV x (2 ^ k.toNat) else 0
theorem shl_one : ∀ n : Fin 63, shl .i64 1 (n.val : Int) = 2 ^ n.val := by decide +kernel
theorem half_v {x k : Int} (hx : inR x) : round_Half.f x k = some (halfV x k) := by
  unfold round_Half.f halfV
  by_cases h0 : k < 0
  · rw [if_pos h0, if_neg (by omega)]
  · by_cases h1 : k > 62
    · rw [if_neg h0, if_pos h1, if_neg (by omega)]
    · obtain ⟨n, rfl⟩ := Int.eq_ofNat_of_zero_le (show 0 ≤ k by omega)
      have := shl_one ⟨n, by omega⟩
      simp only at this
      have hp : (2 : Int) ^ n ≤ 2 ^ 62 := by exact_mod_cast Nat.pow_le_pow_right (by decide) (show n ≤ 62 by omega)
      rw [if_neg h0, if_neg h1, if_pos (by omega), if_pos (by omega), this, div_v hx (by omega)]
      simp
/-- Multiplied, divided, rounded, clamped. -/
def scaleV (x m s : Int) : Int := if 0 ≤ m ∧ m ≤ 32767 ∧ 0 ≤ s ∧ s ≤ 30 then clampV (halfV (x * m) s) (-2147483648) 2147483647 else 0
theorem pow_two_le {s : Int} (h0 : 0 ≤ s) (h1 : s ≤ 30) : 1 ≤ (2 : Int) ^ s.toNat ∧ (2 : Int) ^ s.toNat ≤ 1073741824 := by
  constructor
  · exact_mod_cast Nat.one_le_two_pow
  · have h := Nat.pow_le_pow_right (show 0 < 2 by decide) (show s.toNat ≤ 30 by omega)
    have h2 : (((2 ^ s.toNat : Nat)) : Int) ≤ ((2 ^ 30 : Nat) : Int) := by exact_mod_cast h
    rw [Int.natCast_pow] at h2
    exact h2
theorem scale_v {x m s : Int} (hx : inR x) (hm : inR m) (k : Nat) : round_Scale.f (k + 3) x m s = some (scaleV x m s) := by
  have key : round_Scale.j0 (k + 3) x m s (decide ¬ (0 ≤ m ∧ m ≤ 32767 ∧ 0 ≤ s ∧ s ≤ 30)) = some (scaleV x m s) := by
    rw [show k + 3 = (k + 2) + 1 from rfl, round_Scale.j0]
    unfold scaleV
    by_cases h : 0 ≤ m ∧ m ≤ 32767 ∧ 0 ≤ s ∧ s ≤ 30
    · obtain ⟨p0, p1⟩ := pow_two_le h.2.2.1 h.2.2.2
      rw [if_neg (by rw [decide_eq_true_eq]; exact fun hh => hh h), mul_vk hx hm (k + 2) (by omega), if_pos h]
      unfold mulV
      simp only [Option.bind_some]
      by_cases hin : inR (x * m)
      · rw [if_pos hin, if_pos rfl]
        simp only [round_Scale.j1]
        rw [if_neg (by decide), if_pos trivial, half_v hin]
        simp only [Option.bind_some, sat_v]
        unfold satV
        rw [if_pos (by decide)]
        have : lowB 32 = -2147483648 := by decide
        rw [this]; rfl
      · rw [if_neg hin, if_neg (by decide)]
        simp only [round_Scale.j1]
        unfold halfV divV
        rw [if_pos (show 0 ≤ s ∧ s ≤ 62 by omega), if_neg (show ¬ (2 : Int) ^ s.toNat < 1 by omega)]
        generalize (2 : Int) ^ s.toNat = p at p0 p1
        unfold inR at hin
        by_cases hx0 : x < 0
        · rw [show decide (x < 0) = true from decide_eq_true hx0, if_pos rfl]
          have hneg : x * m ≤ 0 := Int.mul_nonpos_of_nonpos_of_nonneg (by omega) h.1
          have : (2 * (x * m) + p) / (2 * p) < -2147483648 := Int.ediv_lt_of_lt_mul (by omega) (by omega)
          unfold clampV; rw [if_pos this]
        · rw [show decide (x < 0) = false from decide_eq_false hx0, if_neg (by decide), if_neg (by decide)]
          have hpos : 0 ≤ x * m := Int.mul_nonneg (by omega) h.1
          have : 2147483648 ≤ (2 * (x * m) + p) / (2 * p) := Int.le_ediv_of_mul_le (by omega) (by omega)
          unfold clampV; rw [if_neg (by omega), if_pos (by omega)]
    · rw [if_pos (by rw [decide_eq_true_eq]; exact h), if_neg h]
  unfold round_Scale.f
  by_cases h1 : m ≥ 0
  · rw [if_pos h1]
    by_cases h2 : m ≤ 32767
    · rw [if_pos h2]
      by_cases h3 : s ≥ 0
      · rw [if_pos h3]; rw [← key]; congr 1
        by_cases h4 : s ≤ 30 <;> simp [h4] <;> omega
      · rw [if_neg h3, ← key]; congr 1; simp; omega
    · rw [if_neg h2, ← key]; congr 1; simp; omega
  · rw [if_neg h1, ← key]; congr 1; simp; omega
theorem scale_vk {x m s : Int} (hx : inR x) (hm : inR m) (k : Nat) (hk : 3 ≤ k) : round_Scale.f k x m s = some (scaleV x m s) := by
  obtain ⟨k, rfl⟩ : ∃ m, k = m + 3 := ⟨k - 3, by omega⟩
  exact scale_v hx hm k

theorem divV_mono {x y n : Int} (hn : 1 ≤ n) (h : x ≤ y) : divV x n ≤ divV y n := by
  unfold divV; rw [if_neg (by omega), if_neg (by omega)]
  exact Int.ediv_le_ediv (by omega) (by omega)
theorem divV_mul (x n : Int) (hn : 1 ≤ n) : divV (x * n) n = x := by
  unfold divV; rw [if_neg (by omega)]
  refine ((Int.ediv_emod_unique (r := n) (by omega)).mpr ⟨?_, by omega, by omega⟩).1
  rw [Int.mul_assoc, Int.mul_comm n x]; omega
/-- What is rounded is off by half at most. -/
theorem divV_off (x n : Int) (hn : 1 ≤ n) : -n ≤ 2 * (x - divV x n * n) ∧ 2 * (x - divV x n * n) < n := by
  unfold divV; rw [if_neg (by omega)]
  have e := Int.emod_add_mul_ediv (2 * x + n) (2 * n)
  have h1 := Int.emod_nonneg (2 * x + n) (show 2 * n ≠ 0 by omega)
  have h2 := Int.emod_lt_of_pos (2 * x + n) (show 0 < 2 * n by omega)
  have e2 : 2 * n * ((2 * x + n) / (2 * n)) = 2 * ((2 * x + n) / (2 * n) * n) := by rw [Int.mul_assoc, Int.mul_comm n]
  omega

theorem awake_true : earshotlaw02_awake.f 4 = some true := by decide +kernel
theorem awake_ge (k : Nat) (h : 4 ≤ k) : earshotlaw02_awake.f k = some true := by
  induction k with
  | zero => omega
  | succ k ih =>
    by_cases e : k + 1 = 4
    · rw [e]; exact awake_true
    · exact earshotlaw02_awake.mono k _ (ih (by omega))

theorem scaleV_range (x m s : Int) : -2147483648 ≤ scaleV x m s ∧ scaleV x m s ≤ 2147483647 := by
  unfold scaleV
  split
  · exact clampV_in (by decide)
  · omega
theorem half_pow (y s : Int) (h0 : 0 ≤ s) (h1 : s ≤ 61) : halfV (2 * y) (s + 1) = halfV y s := by
  obtain ⟨n, rfl⟩ := Int.eq_ofNat_of_zero_le h0
  have hp : (0 : Int) < 2 ^ n := Int.pow_pos (by decide)
  have e : ((n : Int) + 1).toNat = n + 1 := by omega
  unfold halfV divV
  rw [if_pos (show 0 ≤ (n : Int) + 1 ∧ (n : Int) + 1 ≤ 62 by omega), if_pos (show 0 ≤ (n : Int) ∧ (n : Int) ≤ 62 by omega), e, Int.toNat_natCast, Int.pow_succ, if_neg (show ¬ (2 : Int) ^ n * 2 < 1 by omega), if_neg (show ¬ (2 : Int) ^ n < 1 by omega)]
  have e1 : 2 * (2 * y) + 2 ^ n * 2 = 2 * (2 * y + 2 ^ n) := by omega
  have e2 : 2 * ((2 : Int) ^ n * 2) = 2 * (2 * 2 ^ n) := by omega
  rw [e1, e2, Int.mul_ediv_mul_of_pos _ _ (by decide)]
theorem scale_twice (x m s : Int) (hm : 0 ≤ m ∧ m ≤ 16383) (hs : 0 ≤ s ∧ s ≤ 29) : scaleV x (2 * m) (s + 1) = scaleV x m s := by
  unfold scaleV
  rw [if_pos (by omega), if_pos (by omega), show x * (2 * m) = 2 * (x * m) from by rw [Int.mul_left_comm], half_pow _ _ hs.1 (by omega)]
theorem scale_zero (x s : Int) (hs : 0 ≤ s ∧ s ≤ 30) : scaleV x 0 s = 0 := by
  unfold scaleV halfV divV
  have hp : (0 : Int) < 2 ^ s.toNat := Int.pow_pos (by decide)
  rw [if_pos (by omega), if_pos (by omega), if_neg (by omega), Int.mul_zero]
  rw [Int.ediv_eq_zero_of_lt (by omega) (by omega)]; decide
theorem scale_pow (x : Int) (n : Nat) (hn : n ≤ 14) : scaleV x (2 ^ n) n = clampV x (-2147483648) 2147483647 := by
  have p0 : (1 : Int) ≤ 2 ^ n := by exact_mod_cast Nat.one_le_two_pow
  have p1 : (2 : Int) ^ n ≤ 16384 := by
    have h := Nat.pow_le_pow_right (show 0 < 2 by decide) hn
    have h2 : (((2 ^ n : Nat)) : Int) ≤ ((2 ^ 14 : Nat) : Int) := by exact_mod_cast h
    rw [Int.natCast_pow] at h2
    exact h2
  unfold scaleV halfV
  rw [if_pos (by omega), if_pos (by omega), Int.toNat_natCast, divV_mul _ _ p0]
theorem shl_two : ∀ n : Fin 15, shl .i64 1 (n.val : Int) = 2 ^ n.val := by decide +kernel
theorem RoundScale : earshotlaw02_RoundScale.Pure := by
  intro x m sh hx _ hsh
  have hx := wf_inR hx
  have hsh := wf_inR hsh
  unfold inR at hsh
  refine ⟨9, ?_⟩
  unfold earshotlaw02_RoundScale.f
  have b1 := Int.tmod_lt_of_pos sh (show (0 : Int) < 30 by decide)
  have b2 := Int.lt_tmod_of_pos sh (show (0 : Int) < 30 by decide)
  have b3 := Int.tmod_lt_of_pos (wrap64 (Int.tmod sh 30 + 30)) (show (0 : Int) < 30 by decide)
  have b4 : 0 ≤ Int.tmod (wrap64 (Int.tmod sh 30 + 30)) 30 := by rw [w64 (by omega) (by omega)]; exact Int.tmod_nonneg _ (by omega)
  have b5 := Int.tmod_lt_of_pos (wrap64 (Int.tmod sh 30 + 30)) (show (0 : Int) < 15 by decide)
  have b6 : 0 ≤ Int.tmod (wrap64 (Int.tmod sh 30 + 30)) 15 := by rw [w64 (by omega) (by omega)]; exact Int.tmod_nonneg _ (by omega)
  have em : Go.bits .and .i64 m 16383 = m % 16384 := and_mask m 14 (by decide)
  rw [awake_ge 9 (by decide), em]
  simp only [Option.bind_some]
  generalize Int.tmod (wrap64 (Int.tmod sh 30 + 30)) 30 = k at b3 b4
  generalize Int.tmod (wrap64 (Int.tmod sh 30 + 30)) 15 = c at b5 b6
  have m0 : 0 ≤ m % 16384 ∧ m % 16384 ≤ 16383 := by omega
  generalize m % 16384 = t at m0
  clear em
  obtain ⟨n, rfl⟩ := Int.eq_ofNat_of_zero_le b6
  have hu : IntKind.u64.wrap (n : Int) = n := by simp [IntKind.wrap, IntKind.bits, IntKind.signed]; omega
  have h2t : wrap64 (2 * t) = 2 * t := w64 (by omega) (by omega)
  have hk1 : wrap64 (k + 1) = k + 1 := w64 (by omega) (by omega)
  have hsl : shl .i64 1 (n : Int) = 2 ^ n := shl_two ⟨n, by omega⟩
  simp only [hu, h2t, hk1, hsl]
  clear hu h2t hk1 hsl
  have p1 : (2 : Int) ^ n ≤ 16384 := by
    have h := Nat.pow_le_pow_right (show 0 < 2 by decide) (show n ≤ 14 by omega)
    have h2 : (((2 ^ n : Nat)) : Int) ≤ ((2 ^ 14 : Nat) : Int) := by exact_mod_cast h
    rw [Int.natCast_pow] at h2
    exact h2
  have p0 : (1 : Int) ≤ 2 ^ n := by exact_mod_cast Nat.one_le_two_pow
  have hsc := scale_pow x n (by omega)
  rw [scale_vk hx (show inR t by unfold inR; omega) 9 (by decide), scale_vk hx (show inR (2 ^ n) by unfold inR; omega) 9 (by decide), scale_vk hx (show inR 0 by decide) 9 (by decide), scale_vk hx (show inR (2 * t) by unfold inR; omega) 9 (by decide), hsc, scale_zero x k ⟨b4, by omega⟩, scale_twice x t k m0 ⟨b4, by omega⟩]
  simp only [Option.bind_some]
  have hr := scaleV_range x t k
  have hn0 : (0 : Int) ≤ n := by omega
  unfold clampV
  by_cases h1 : x > 2147483647
  · rw [if_pos h1, if_pos trivial, if_pos hn0, if_neg (show ¬ x < -2147483648 by omega), if_pos h1]
    simp only [↓reduceIte]
    rw [if_pos hr.1]
    simp; omega
  · rw [if_neg h1]
    by_cases h2 : x < -2147483648
    · rw [if_pos h2, if_pos trivial, if_pos hn0, if_pos h2]
      simp only [↓reduceIte]
      rw [if_pos hr.1]
      simp; omega
    · rw [if_neg h2, if_pos trivial, if_pos hn0, if_neg h2, if_neg h1]
      simp only [↓reduceIte]
      rw [if_pos hr.1]
      simp; omega

end Go.Proofs.Ytpaednaeehlofaa.Pure
