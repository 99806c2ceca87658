/-
Proved: the Go function SatOrder of package earshotlaw01 returns true for every input, and its arguments read behind the call as before. Conditions: none beyond the given row's.
-/
import Derived.Test.YtpaednaeehlofaaPSatOrderx1
namespace Go.Proofs.Ytpaednaeehlofaa.Pure
open Go.RowKit Go.Proofs.Ytpaednaeehlofaa.PSatOrder Go.Proofs.YtpaednaeehlofaaW.PrintWords Go.Proofs.YtpaednaeehlofaaW.PrintLast Go.Proofs.YtpaednaeehlofaaW.PrintMore

theorem w64 {x : Int} (h0 : -9223372036854775808 ≤ x) (h1 : x ≤ 9223372036854775807) : wrap64 x = x := by unfold wrap64; omega
theorem w64_def (x : Int) : wrap64 x = (x + 9223372036854775808) % 18446744073709551616 - 9223372036854775808 := by unfold wrap64; omega
theorem w64_range (x : Int) : -9223372036854775808 ≤ wrap64 x ∧ wrap64 x ≤ 9223372036854775807 := by unfold wrap64; omega
theorem iw64 (x : Int) : IntKind.i64.wrap x = wrap64 x := by rw [IntKind.wrap_i64, w64_def]

theorem and_mask (x : Int) (m : Nat) (hm : m ≤ 62) : Go.bits .and .i64 x (2 ^ m - 1) = x % 2 ^ m := by
  have hp : 0 < 2 ^ m := Nat.two_pow_pos m
  have hc : ((2 : Int) ^ m - 1) = ((2 ^ m - 1 : Nat) : Int) := by rw [Int.natCast_sub hp]; simp
  have hlt : (2 : Nat) ^ m ≤ 2 ^ 62 := Nat.pow_le_pow_right (by decide) hm
  have hmod : (2 ^ m - 1) % 2 ^ 64 = 2 ^ m - 1 := Nat.mod_eq_of_lt (by omega)
  have hd : (2 : Int) ^ m ∣ 2 ^ 64 := ⟨2 ^ (64 - m), by rw [← Int.pow_add]; congr 1; omega⟩
  have hx0 : 0 ≤ x % 2 ^ 64 := Int.emod_nonneg _ (by decide)
  rw [hc]
  show IntKind.i64.wrap (((BitVec.ofInt 64 x &&& BitVec.ofInt 64 ((2 ^ m - 1 : Nat) : Int)).toNat : Nat) : Int) = _
  rw [BitVec.toNat_and, BitVec.ofInt_natCast, BitVec.toNat_ofNat, BitVec.toNat_ofInt, hmod, Nat.and_two_pow_sub_one_eq_mod]
  have e : (((x % ((2 ^ 64 : Nat) : Int)).toNat % 2 ^ m : Nat) : Int) = x % 2 ^ m := by
    rw [Int.natCast_emod, Int.toNat_of_nonneg (by simpa using hx0)]
    simp only [Int.natCast_pow, Int.cast_ofNat_Int]
    exact Int.emod_emod_of_dvd _ hd
  have l0 : 0 ≤ x % 2 ^ m := Int.emod_nonneg _ (by exact_mod_cast Nat.ne_of_gt hp)
  have l1 : x % 2 ^ m < 2 ^ m := Int.emod_lt_of_pos _ (by exact_mod_cast hp)
  have l2 : (2 : Int) ^ m ≤ 2 ^ 62 := by exact_mod_cast hlt
  rw [e, iw64, w64] <;> omega

theorem xor_neg (x : Int) (h0 : -9223372036854775808 ≤ x) (h1 : x ≤ 9223372036854775807) : Go.bits .xor .i64 (-1) x = -1 - x := by
  have e : BitVec.ofInt 64 (-1) ^^^ BitVec.ofInt 64 x = ~~~ BitVec.ofInt 64 x := by
    have : BitVec.ofInt 64 (-1) = BitVec.allOnes 64 := by decide
    rw [this]; exact BitVec.allOnes_xor
  show IntKind.i64.wrap (((BitVec.ofInt 64 (-1) ^^^ BitVec.ofInt 64 x).toNat : Nat) : Int) = _
  rw [e, BitVec.toNat_not, BitVec.toNat_ofInt, iw64]
  unfold wrap64
  have : (0:Int) ≤ x % 18446744073709551616 := by omega
  simp only [Nat.reducePow, Int.cast_ofNat_Int]
  omega

theorem or_join (h l : Int) (l0 : 0 ≤ l) (l1 : l < 4294967296) (h0 : -2147483648 ≤ h) (h1 : h < 2147483648) : Go.bits .or .i64 (h * 4294967296) l = h * 4294967296 + l := by
  show IntKind.i64.wrap (((BitVec.ofInt 64 (h * 4294967296) ||| BitVec.ofInt 64 l).toNat : Nat) : Int) = _
  rw [BitVec.toNat_or, BitVec.toNat_ofInt, BitVec.toNat_ofInt, iw64]
  obtain ⟨a, ha⟩ : ∃ a : Nat, (a : Int) = h % 4294967296 := ⟨(h % 4294967296).toNat, by omega⟩
  have e1 : ((h * 4294967296) % ((2 ^ 64 : Nat) : Int)).toNat = 2 ^ 32 * a := by simp only [Nat.reducePow, Int.cast_ofNat_Int]; omega
  have e2 : (l % ((2 ^ 64 : Nat) : Int)).toNat = l.toNat := by simp only [Nat.reducePow, Int.cast_ofNat_Int]; omega
  rw [e1, e2, ← Nat.two_pow_add_eq_or_of_lt (by omega)]
  unfold wrap64
  simp only [Nat.reducePow]
  omega

/-- The lower end of bits. -/
def lowB (b : Int) : Int := -(2 ^ (b.toNat - 1))
theorem lowB_fin : ∀ n : Fin 64, shr .i64 (-9223372036854775808) (wrap64 (64 - ((n.val : Int) + 1))) = lowB ((n.val : Int) + 1) ∧ -9223372036854775808 ≤ lowB ((n.val : Int) + 1) ∧ lowB ((n.val : Int) + 1) ≤ -1 := by decide +kernel
theorem lowB_all {b : Int} (h0 : 1 ≤ b) (h1 : b ≤ 64) : shr .i64 (-9223372036854775808) (wrap64 (64 - b)) = lowB b ∧ -9223372036854775808 ≤ lowB b ∧ lowB b ≤ -1 := by
  have h := lowB_fin ⟨(b - 1).toNat, by omega⟩
  have e : (((b - 1).toNat : Nat) : Int) + 1 = b := by omega
  simp only [e] at h
  exact h
theorem lowB_mono {b c : Int} (h0 : 1 ≤ b) (h : b ≤ c) : lowB c ≤ lowB b := by
  unfold lowB
  have : (2 : Int) ^ (b.toNat - 1) ≤ 2 ^ (c.toNat - 1) := by exact_mod_cast Nat.pow_le_pow_right (by decide) (by omega)
  omega
theorem ends_in {b : Int} (h0 : 1 ≤ b) (h1 : b ≤ 64) : sat_ends.f b = some (lowB b, -1 - lowB b, true) := by
  obtain ⟨e, l, u⟩ := lowB_all h0 h1
  unfold sat_ends.f
  rw [if_neg (by omega), if_neg (by omega), if_pos (by rw [w64] <;> omega), e, xor_neg _ (by omega) (by omega)]
theorem ends_out {b : Int} (h : b < 1 ∨ 64 < b) : sat_ends.f b = some (0, 0, false) := by
  unfold sat_ends.f
  by_cases h0 : b < 1
  · rw [if_pos h0]
  · rw [if_neg h0, if_pos (by omega)]
def clampV (x l h : Int) : Int := if x < l then l else if x > h then h else x
theorem clamp_v (x l h : Int) : sat_Clamp.f x l h = some (clampV x l h) := by
  unfold sat_Clamp.f clampV
  split
  · rfl
  · split <;> rfl
/-- What clamped to the ends of bits is. -/
def satV (x b : Int) : Int := if 1 ≤ b ∧ b ≤ 64 then clampV x (lowB b) (-1 - lowB b) else 0
theorem sat_v (x b : Int) : sat_Sat.f x b = some (satV x b) := by
  unfold sat_Sat.f satV
  by_cases h : 1 ≤ b ∧ b ≤ 64
  · rw [ends_in h.1 h.2, if_pos h]; simp [clamp_v]
  · rw [ends_out (by omega), if_neg h]; simp
def fitsV (x b : Int) : Bool := decide (1 ≤ b ∧ b ≤ 64 ∧ lowB b ≤ x ∧ x ≤ -1 - lowB b)
theorem fits_v (x b : Int) : sat_Fits.f x b = some (fitsV x b) := by
  unfold sat_Fits.f fitsV
  by_cases h : 1 ≤ b ∧ b ≤ 64
  · rw [ends_in h.1 h.2]
    by_cases h2 : x ≥ lowB b
    · simp [h2, h.1, h.2]
    · simp [h2]
  · rw [ends_out (by omega)]; simp; omega
theorem clampV_in {x l h : Int} (hl : l ≤ h) : l ≤ clampV x l h ∧ clampV x l h ≤ h := by unfold clampV; split <;> (try split) <;> omega
theorem clampV_id {x l h : Int} (h0 : l ≤ x) (h1 : x ≤ h) : clampV x l h = x := by unfold clampV; split <;> (try split) <;> omega
theorem clampV_mono {x y l h : Int} (hl : l ≤ h) (hxy : x ≤ y) : clampV x l h ≤ clampV y l h := by unfold clampV; split <;> (try split) <;> (try split) <;> (try split) <;> omega
theorem satV_in {x b : Int} (h0 : 1 ≤ b) (h1 : b ≤ 64) : lowB b ≤ satV x b ∧ satV x b ≤ -1 - lowB b := by
  have := lowB_all h0 h1
  unfold satV; rw [if_pos ⟨h0, h1⟩]; exact clampV_in (by omega)
theorem fitsV_iff {x b : Int} (h0 : 1 ≤ b) (h1 : b ≤ 64) : fitsV x b = true ↔ satV x b = x := by
  have := lowB_all h0 h1
  unfold fitsV satV clampV; rw [if_pos ⟨h0, h1⟩]
  simp only [decide_eq_true_eq]
  split
  · omega
  · split <;> omega

theorem awake_true : earshotlaw01_awake.f 4 = some true := by decide +kernel
theorem awake_ge (k : Nat) (h : 4 ≤ k) : earshotlaw01_awake.f k = some true := by
  induction k with
  | zero => omega
  | succ k ih =>
    by_cases e : k + 1 = 4
    · rw [e]; exact awake_true
    · exact earshotlaw01_awake.mono k _ (ih (by omega))

theorem loop_true (x0 b s : Int) (h0 : 1 ≤ b) (hs : fitsV s b = true) (hsx : clampV x0 s s = s) (hsg : decide (x0 < 0) = decide (s < 0)) :
    ∀ (d k : Nat) (i : Int), b ≤ i → i ≤ 65 → 65 - i = d → d < k → earshotlaw01_SatOrder.l0 k x0 true s i = some true := by
  intro d
  induction d with
  | zero =>
    intro k i h1 h2 hd hk
    obtain ⟨k, rfl⟩ : ∃ m, k = m + 1 := ⟨k - 1, by omega⟩
    simp only [earshotlaw01_SatOrder.l0]
    rw [if_neg (by omega), if_pos trivial, clamp_v, hsx]
    simp [hsg]
  | succ d ih =>
    intro k i h1 h2 hd hk
    obtain ⟨k, rfl⟩ : ∃ m, k = m + 1 := ⟨k - 1, by omega⟩
    simp only [earshotlaw01_SatOrder.l0]
    have hf : fitsV s i = true := by
      unfold fitsV at hs ⊢
      simp only [decide_eq_true_eq] at hs ⊢
      have := lowB_mono h0 h1
      omega
    rw [if_pos (by omega), fits_v, hf]
    simp only [Option.bind_some, if_true]
    rw [w64 (by omega) (by omega)]
    exact ih k (i + 1) (by omega) (by omega) (by omega) (by omega)

theorem SatOrder : earshotlaw01_SatOrder.Pure := by
  intro x y bits hx hy _
  refine ⟨100, ?_⟩
  have hb0 : 0 ≤ bits % 64 := Int.emod_nonneg _ (by decide)
  have hb1 : bits % 64 < 64 := Int.emod_lt_of_pos _ (by decide)
  have hm := and_mask bits 6 (by decide)
  have e : wrap64 (1 + Go.bits .and .i64 bits 63) = 1 + bits % 64 := by
    rw [show (63 : Int) = 2 ^ 6 - 1 from rfl, hm, w64] <;> omega
  unfold earshotlaw01_SatOrder.f
  rw [e, awake_ge 100 (by decide)]
  simp only [Option.bind_some, sat_v, fits_v]
  generalize hbe : 1 + bits % 64 = b
  have h0 : 1 ≤ b := by omega
  have h1 : b ≤ 64 := by omega
  obtain ⟨_, hl0, hl1⟩ := lowB_all h0 h1
  have hin := satV_in (x := x) h0 h1
  have hfit : fitsV (satV x b) b = true := by unfold fitsV; simp; omega
  have hid : satV (satV x b) b = satV x b := (fitsV_iff h0 h1).mp hfit
  have hj : earshotlaw01_SatOrder.j0 100 x true b (satV x b) (fitsV x b != (satV x b == x)) = some true := by
    have : (fitsV x b != (satV x b == x)) = false := by
      have h := fitsV_iff (x := x) h0 h1
      cases hc : fitsV x b <;> simp_all
    rw [this]
    simp only [earshotlaw01_SatOrder.j0]
    rw [if_neg (by decide)]
    refine loop_true x b _ h0 hfit (by unfold clampV; split <;> (try split) <;> omega) ?_ (65 - b).toNat 99 b (by omega) (by omega) (by omega) (by omega)
    unfold satV clampV
    rw [if_pos ⟨h0, h1⟩]
    split
    · simp; omega
    · split
      · simp; omega
      · rfl
  split
  · rename_i hxy
    have hmono : satV x b ≤ satV y b := by
      unfold satV; rw [if_pos ⟨h0, h1⟩, if_pos ⟨h0, h1⟩]; exact clampV_mono (by omega) hxy
    rw [if_neg (by omega)]

    exact hj
  ·
    exact hj

end Go.Proofs.Ytpaednaeehlofaa.Pure
