/-
Proved: the Go function SatMul of package earshotlaw01 returns true for every input, and its arguments read behind the call as before. Conditions: none beyond the given row's.
-/
import Derived.Test.YtpaednaeehlofaaPSatMulx2
namespace Go.Proofs.Ytpaednaeehlofaa.Pure
open Go.RowKit Go.Proofs.Ytpaednaeehlofaa.PSatMul Go.Proofs.YtpaednaeehlofaaW.PrintWords Go.Proofs.YtpaednaeehlofaaW.PrintLast Go.Proofs.YtpaednaeehlofaaW.PrintMore

theorem w64 {x : Int} (h0 : -9223372036854775808 ≤ x) (h1 : x ≤ 9223372036854775807) : wrap64 x = x := by unfold wrap64; omega
theorem w64_def (x : Int) : wrap64 x = (x + 9223372036854775808) % 18446744073709551616 - 9223372036854775808 := by unfold wrap64; omega
theorem w64_range (x : Int) : -9223372036854775808 ≤ wrap64 x ∧ wrap64 x ≤ 9223372036854775807 := by unfold wrap64; omega
theorem iw64 (x : Int) : IntKind.i64.wrap x = wrap64 x := by rw [IntKind.wrap_i64, w64_def]

theorem and_mask (x : Int) (m : Nat) (hm : m ≤ 62) : Go.bits .and .i64 x (2 ^ m - 1) = x % 2 ^ m := by
  have hp : 0 < 2 ^ m := Nat.two_pow_pos m
  have hc : ((2 : Int) ^ m - 1) = ((2 ^ m - 1 : Nat) : Int) := by rw [Int.natCast_sub hp]; simp
  have hlt : (2 : Nat) ^ m ≤ 2 ^ 62 := Nat.pow_le_pow_right (by decide) hm
  have hmod : (2 ^ m - 1) % 2 ^ 64 = 2 ^ m - 1 := Nat.mod_eq_of_lt (by omega)
  have hd : (2 : Int) ^ m ∣ 2 ^ 64 := ⟨2 ^ (64 - m), by rw [← Int.pow_add]; congr 1; omega⟩
  have hx0 : 0 ≤ x % 2 ^ 64 := Int.emod_nonneg _ (by decide)
  rw [hc]
  show IntKind.i64.wrap (((BitVec.ofInt 64 x &&& BitVec.ofInt 64 ((2 ^ m - 1 : Nat) : Int)).toNat : Nat) : Int) = _
  rw [BitVec.toNat_and, BitVec.ofInt_natCast, BitVec.toNat_ofNat, BitVec.toNat_ofInt, hmod, Nat.and_two_pow_sub_one_eq_mod]
  have e : (((x % ((2 ^ 64 : Nat) : Int)).toNat % 2 ^ m : Nat) : Int) = x % 2 ^ m := by
    rw [Int.natCast_emod, Int.toNat_of_nonneg (by simpa using hx0)]
    simp only [Int.natCast_pow, Int.cast_ofNat_Int]
    exact Int.emod_emod_of_dvd _ hd
  have l0 : 0 ≤ x % 2 ^ m := Int.emod_nonneg _ (by exact_mod_cast Nat.ne_of_gt hp)
  have l1 : x % 2 ^ m < 2 ^ m := Int.emod_lt_of_pos _ (by exact_mod_cast hp)
  have l2 : (2 : Int) ^ m ≤ 2 ^ 62 := by exact_mod_cast hlt
  rw [e, iw64, w64] <;> omega

theorem xor_neg (x : Int) (h0 : -9223372036854775808 ≤ x) (h1 : x ≤ 9223372036854775807) : Go.bits .xor .i64 (-1) x = -1 - x := by
  have e : BitVec.ofInt 64 (-1) ^^^ BitVec.ofInt 64 x = ~~~ BitVec.ofInt 64 x := by
    have : BitVec.ofInt 64 (-1) = BitVec.allOnes 64 := by decide
    rw [this]; exact BitVec.allOnes_xor
  show IntKind.i64.wrap (((BitVec.ofInt 64 (-1) ^^^ BitVec.ofInt 64 x).toNat : Nat) : Int) = _
  rw [e, BitVec.toNat_not, BitVec.toNat_ofInt, iw64]
  unfold wrap64
  have : (0:Int) ≤ x % 18446744073709551616 := by omega
  simp only [Nat.reducePow, Int.cast_ofNat_Int]
  omega

theorem or_join (h l : Int) (l0 : 0 ≤ l) (l1 : l < 4294967296) (h0 : -2147483648 ≤ h) (h1 : h < 2147483648) : Go.bits .or .i64 (h * 4294967296) l = h * 4294967296 + l := by
  show IntKind.i64.wrap (((BitVec.ofInt 64 (h * 4294967296) ||| BitVec.ofInt 64 l).toNat : Nat) : Int) = _
  rw [BitVec.toNat_or, BitVec.toNat_ofInt, BitVec.toNat_ofInt, iw64]
  obtain ⟨a, ha⟩ : ∃ a : Nat, (a : Int) = h % 4294967296 := ⟨(h % 4294967296).toNat, by omega⟩
  have e1 : ((h * 4294967296) % ((2 ^ 64 : Nat) : Int)).toNat = 2 ^ 32 * a := by simp only [Nat.reducePow, Int.cast_ofNat_Int]; omega
  have e2 : (l % ((2 ^ 64 : Nat) : Int)).toNat = l.toNat := by simp only [Nat.reducePow, Int.cast_ofNat_Int]; omega
  rw [e1, e2, ← Nat.two_pow_add_eq_or_of_lt (by omega)]
  unfold wrap64
  simp only [Nat.reducePow]
  omega
def inR (x : Int) : Prop := -9223372036854775808 ≤ x ∧ x ≤ 9223372036854775807
instance (x : Int) : Decidable (inR x) := inferInstanceAs (Decidable (_ ∧ _))
theorem wf_inR {x : Int} (h : (Lit.int .i64 x).wf = true) : inR x := by
  simp [Lit.wf, IntKind.min, IntKind.max, IntKind.signed, IntKind.bits] at h
  unfold inR; omega
theorem rd_get {xs : List Int} {i : Nat} (h : i < xs.length) : rd xs (i : Int) = xs[i] := by unfold rd; simp [h]

/-- The lower end of bits. -/
def lowB (b : Int) : Int := -(2 ^ (b.toNat - 1))
theorem lowB_fin : ∀ n : Fin 64, shr .i64 (-9223372036854775808) (wrap64 (64 - ((n.val : Int) + 1))) = lowB ((n.val : Int) + 1) ∧ -9223372036854775808 ≤ lowB ((n.val : Int) + 1) ∧ lowB ((n.val : Int) + 1) ≤ -1 := by decide +kernel
theorem lowB_all {b : Int} (h0 : 1 ≤ b) (h1 : b ≤ 64) : shr .i64 (-9223372036854775808) (wrap64 (64 - b)) = lowB b ∧ -9223372036854775808 ≤ lowB b ∧ lowB b ≤ -1 := by
  have h := lowB_fin ⟨(b - 1).toNat, by omega⟩
  have e : (((b - 1).toNat : Nat) : Int) + 1 = b := by omega
  simp only [e] at h
  exact h
theorem lowB_mono {b c : Int} (h0 : 1 ≤ b) (h : b ≤ c) : lowB c ≤ lowB b := by
  unfold lowB
  have : (2 : Int) ^ (b.toNat - 1) ≤ 2 ^ (c.toNat - 1) := by exact_mod_cast Nat.pow_le_pow_right (by decide) (by omega)
  omega
theorem ends_in {b : Int} (h0 : 1 ≤ b) (h1 : b ≤ 64) : sat_ends.f b = some (lowB b, -1 - lowB b, true) := by
  obtain ⟨e, l, u⟩ := lowB_all h0 h1
  unfold sat_ends.f
  rw [if_neg (by omega), if_neg (by omega), if_pos (by rw [w64] <;> omega), e, xor_neg _ (by omega) (by omega)]
theorem ends_out {b : Int} (h : b < 1 ∨ 64 < b) : sat_ends.f b = some (0, 0, false) := by
  unfold sat_ends.f
  by_cases h0 : b < 1
  · rw [if_pos h0]
  · rw [if_neg h0, if_pos (by omega)]
def clampV (x l h : Int) : Int := if x < l then l else if x > h then h else x
theorem clamp_v (x l h : Int) : sat_Clamp.f x l h = some (clampV x l h) := by
  unfold sat_Clamp.f clampV
  split
  · rfl
  · split <;> rfl
/-- What clamped to the ends of bits is. -/
def satV (x b : Int) : Int := if 1 ≤ b ∧ b ≤ 64 then clampV x (lowB b) (-1 - lowB b) else 0
theorem sat_v (x b : Int) : sat_Sat.f x b = some (satV x b) := by
  unfold sat_Sat.f satV
  by_cases h : 1 ≤ b ∧ b ≤ 64
  · rw [ends_in h.1 h.2, if_pos h]; simp [clamp_v]
  · rw [ends_out (by omega), if_neg h]; simp
theorem clampV_in {x l h : Int} (hl : l ≤ h) : l ≤ clampV x l h ∧ clampV x l h ≤ h := by unfold clampV; split <;> (try split) <;> omega
theorem clampV_id {x l h : Int} (h0 : l ≤ x) (h1 : x ≤ h) : clampV x l h = x := by unfold clampV; split <;> (try split) <;> omega
theorem clampV_mono {x y l h : Int} (hl : l ≤ h) (hxy : x ≤ y) : clampV x l h ≤ clampV y l h := by unfold clampV; split <;> (try split) <;> (try split) <;> (try split) <;> omega
theorem satV_in {x b : Int} (h0 : 1 ≤ b) (h1 : b ≤ 64) : lowB b ≤ satV x b ∧ satV x b ≤ -1 - lowB b := by
  have := lowB_all h0 h1
  unfold satV; rw [if_pos ⟨h0, h1⟩]; exact clampV_in (by omega)

/-- A product, if there is one. -/
def mulV (a b : Int) : Int × Bool := if inR (a * b) then (a * b, true) else (0, false)
theorem mul_v {a b : Int} (ha : inR a) (hb : inR b) (k : Nat) : sat_Mul.f (k + 1) a b = some (mulV a b) := by
  have key : ∀ z : Bool, z = decide (a = 0 ∨ b = 0) → sat_Mul.j0 (k + 1) a b z = some (mulV a b) := by
    intro z hz
    simp only [sat_Mul.j0]
    by_cases h0 : a = 0 ∨ b = 0
    · have hp : a * b = 0 := by rcases h0 with rfl | rfl <;> simp
      subst hz
      rw [if_pos (by simp [h0])]
      unfold mulV; rw [hp, if_pos (by decide)]
    · subst hz
      rw [if_neg (by simp [h0]), if_neg (by omega)]
      have e := Int.tmod_add_mul_tdiv (wrap64 (a * b)) b
      have hm : -(b.natAbs : Int) < Int.tmod (wrap64 (a * b)) b ∧ Int.tmod (wrap64 (a * b)) b < b.natAbs := by
        by_cases hp : 0 < b
        · have h1 := Int.tmod_lt_of_pos (wrap64 (a * b)) hp
          have h2 := Int.lt_tmod_of_pos (wrap64 (a * b)) hp
          omega
        · have h1 := Int.tmod_lt_of_pos (wrap64 (a * b)) (b := -b) (by omega)
          have h2 := Int.lt_tmod_of_pos (wrap64 (a * b)) (b := -b) (by omega)
          rw [Int.tmod_neg] at h1 h2
          omega
      have hw := w64_def (a * b)
      have hr := w64_range (a * b)
      unfold inR at ha hb
      by_cases hin : inR (a * b)
      · have hp : wrap64 (a * b) = a * b := by unfold inR at hin; exact w64 hin.1 hin.2
        have hq : Int.tdiv (a * b) b = a := Int.mul_tdiv_cancel _ (by omega)
        have c1 : ¬ (a = -1 ∧ b = -9223372036854775808) := by rintro ⟨rfl, rfl⟩; exact absurd hin (by decide)
        have c2 : ¬ (b = -1 ∧ a = -9223372036854775808) := by rintro ⟨rfl, rfl⟩; exact absurd hin (by decide)
        rw [hp, hq, w64 ha.1 ha.2, if_pos rfl]
        unfold mulV; rw [if_pos hin]
        repeat' split
        all_goals first | rfl | (exfalso; omega)
      · unfold mulV; rw [if_neg hin]
        split
        · rename_i hq
          by_cases hs : a = -1 ∧ b = -9223372036854775808
          · rw [if_pos hs.1, if_pos hs.2]
          · by_cases hs2 : b = -1 ∧ a = -9223372036854775808
            · obtain ⟨rfl, rfl⟩ := hs2; decide
            · exfalso
              have hq2 : Int.tdiv (wrap64 (a * b)) b = a := by
                have hle := Int.natAbs_tdiv_le_natAbs (wrap64 (a * b)) b
                by_cases ht : Int.tdiv (wrap64 (a * b)) b ≤ 9223372036854775807
                · rw [w64 (by omega) ht] at hq; exact hq
                · have ht2 : Int.tdiv (wrap64 (a * b)) b = 9223372036854775808 := by omega
                  rw [ht2] at hq e
                  have : wrap64 9223372036854775808 = -9223372036854775808 := by rw [w64_def]; decide
                  rw [this] at hq
                  subst hq
                  have hb1 : b = -1 := by omega
                  exact absurd ⟨hb1, rfl⟩ hs2
              rw [hq2] at e
              have ec : b * a = a * b := Int.mul_comm b a
              apply hin
              unfold inR
              omega
        · rfl
  unfold sat_Mul.f
  by_cases h : a = 0
  · rw [if_pos h]; exact key true (by simp [h])
  · rw [if_neg h]; exact key _ (by rw [show decide (a = 0 ∨ b = 0) = decide (b = 0) from by simp [h]]; rfl)
theorem mul_vk {a b : Int} (ha : inR a) (hb : inR b) (k : Nat) (hk : 1 ≤ k) : sat_Mul.f k a b = some (mulV a b) := by
  obtain ⟨k, rfl⟩ : ∃ m, k = m + 1 := ⟨k - 1, by omega⟩
  exact mul_v ha hb k

theorem awake_true : earshotlaw01_awake.f 4 = some true := by decide +kernel
theorem awake_ge (k : Nat) (h : 4 ≤ k) : earshotlaw01_awake.f k = some true := by
  induction k with
  | zero => omega
  | succ k ih =>
    by_cases e : k + 1 = 4
    · rw [e]; exact awake_true
    · exact earshotlaw01_awake.mono k _ (ih (by omega))
theorem size_v {x : Int} (h : inR x) : earshotlaw01_size.f x = some (x.natAbs : Int) := by
  unfold inR at h
  have hu : ∀ y : Int, 0 ≤ y → y < 18446744073709551616 → IntKind.u64.wrap y = y := by
    intro y h0 h1
    simp [IntKind.wrap, IntKind.bits, IntKind.signed]; omega
  unfold earshotlaw01_size.f
  by_cases h0 : x < 0
  · rw [if_pos h0, w64 (by omega) (by omega), hu (-1 - x) (by omega) (by omega), hu _ (by omega) (by omega)]; congr 1; omega
  · rw [if_neg h0, hu x (by omega) (by omega)]; congr 1; omega
theorem w64_add (x y : Int) : wrap64 (wrap64 x + y) = wrap64 (x + y) := by unfold wrap64; omega
theorem mulV_comm (a b : Int) : mulV a b = mulV b a := by unfold mulV; rw [Int.mul_comm]
theorem u64_div {m d : Int} (hm0 : 0 ≤ m) (hm : m < 18446744073709551616) (hd : 1 ≤ d) : IntKind.u64.wrap (m / d) = m / d := by
  have h1 := Int.ediv_nonneg hm0 (show 0 ≤ d by omega)
  have h2 := Int.ediv_le_self d hm0
  generalize m / d = q at h1 h2
  simp [IntKind.wrap, IntKind.bits, IntKind.signed]; omega
theorem SatMul : earshotlaw01_SatMul.Pure := by
  intro a b c0 c1 ha hb hc0 hc1
  refine ⟨10, ?_⟩
  have ha := wf_inR ha
  have hb := wf_inR hb
  have h32 : ∀ c : Int, (Lit.int .i32 c).wf = true → -2147483648 ≤ c ∧ c ≤ 2147483647 := by
    intro c hc; simp [Lit.wf, IntKind.min, IntKind.max, IntKind.signed, IntKind.bits] at hc; omega
  have g0 := h32 c0 hc0
  have g1 := h32 c1 hc1
  have hcc : inR (c0 * c1) := by
    have e1 : (c0 * c1).natAbs ≤ 2147483648 * 2147483648 := by
      rw [Int.natAbs_mul]; exact Nat.mul_le_mul (by omega) (by omega)
    unfold inR; omega
  unfold earshotlaw01_SatMul.f
  rw [awake_ge 10 (by decide), mul_vk ha hb 10 (by decide), mul_vk hb ha 10 (by decide), w64 (x := c0) (by omega) (by omega), w64 (x := c1) (by omega) (by omega), mul_vk (by unfold inR; omega) (by unfold inR; omega) 10 (by decide), mulV_comm b a]
  simp only [Option.bind_some]
  rw [if_pos trivial, if_neg (by simp)]
  have hm : mulV c0 c1 = (c0 * c1, true) := by unfold mulV; rw [if_pos hcc]
  rw [hm]
  rw [if_pos (show (c0 * c1, true).snd = true from rfl)]
  have hw : wrap64 (c0 * c1) = c0 * c1 := w64 hcc.1 hcc.2
  rw [hw, show ((c0 * c1, true).fst != c0 * c1) = false from by simp]
  simp only [earshotlaw01_SatMul.j0]
  rw [if_neg (by decide)]
  have key1 : ∀ z : Bool, z = decide (a = 0 ∨ b = 0) → earshotlaw01_SatMul.j1 9 a b true (mulV a b).1 (mulV a b).2 z = some true := by
    intro z hz
    simp only [earshotlaw01_SatMul.j1]
    by_cases h0 : a = 0 ∨ b = 0
    · rw [hz, if_pos (by simp [h0])]
      have hp : a * b = 0 := by rcases h0 with rfl | rfl <;> simp
      unfold mulV
      rw [hp, if_pos (show inR 0 by decide)]; rfl
    · rw [hz, if_neg (by simp [h0])]
      have key2 : ∀ z : Bool, z = decide (a = -1 ∨ b = -1) → earshotlaw01_SatMul.j2 8 a b true (mulV a b).1 (mulV a b).2 z = some true := by
        intro z hz
        simp only [earshotlaw01_SatMul.j2]
        by_cases h1 : a = -1 ∨ b = -1
        · rw [hz, if_pos (by simp [h1]), if_pos trivial]
          have hp : a * b = -(a + b + 1) := by rcases h1 with rfl | rfl <;> omega
          have ho : inR (a + b + 1) := by unfold inR at ha hb ⊢; omega
          rw [w64_add, w64 ho.1 ho.2]
          unfold mulV
          rw [hp]
          unfold inR at ha hb
          by_cases hl : a + b + 1 = -9223372036854775808
          · rw [if_neg (show ¬ inR (-(a + b + 1)) from by unfold inR; omega), hl]; simp
          · rw [if_pos (show inR (-(a + b + 1)) from by unfold inR; omega)]
            rw [if_pos (by simpa using hl), if_pos rfl, show -(a + b + 1) + (a + b + 1) = 0 from by omega, w64 (by decide) (by decide)]
            rfl
        · rw [hz, if_neg (by simp [h1])]
          unfold mulV
          by_cases hin : inR (a * b)
          · rw [if_pos hin]
            simp only []
            rw [if_pos trivial, if_pos trivial, if_neg (by omega), Int.mul_tdiv_cancel_left _ (by omega), w64 hb.1 hb.2, if_pos rfl, Int.mul_tmod_right]
            simp
          · rw [if_neg hin]
            simp only []
            rw [if_neg (by decide), size_v ha, size_v hb]
            simp only [Option.bind_some]
            have hn : ((a * b).natAbs : Int) = (b.natAbs : Int) * (a.natAbs : Int) := by rw [Int.natAbs_mul, Nat.mul_comm]; simp
            unfold inR at hin
            by_cases hs : decide (a < 0) = decide (b < 0)
            · rw [if_pos (by simp [hs]), if_pos trivial]
              have hpos : 0 ≤ a * b := by
                by_cases hn : a < 0
                · have : b < 0 := by simpa [hn] using hs
                  exact Int.mul_nonneg_of_nonpos_of_nonpos (by omega) (by omega)
                · have : ¬ b < 0 := by simpa [hn] using hs
                  exact Int.mul_nonneg (by omega) (by omega)
              rw [u64_div (by decide) (by decide) (by omega)]
              have := Int.ediv_lt_of_lt_mul (a := 9223372036854775807) (b := (b.natAbs : Int)) (c := (a.natAbs : Int)) (by omega) (by omega)
              rw [if_neg (show ¬ ((a.natAbs : Int) = 0) by omega)]
              exact congrArg some (decide_eq_true this)
            · rw [if_neg (by simpa using hs), if_pos trivial]
              have hneg : a * b ≤ 0 := by
                by_cases hn : a < 0
                · have : ¬ b < 0 := by simpa [hn] using hs
                  exact Int.mul_nonpos_of_nonpos_of_nonneg (by omega) (by omega)
                · have : b < 0 := by simpa [hn] using hs
                  exact Int.mul_nonpos_of_nonneg_of_nonpos (by omega) (by omega)
              rw [u64_div (by decide) (by decide) (by omega)]
              have := Int.ediv_lt_of_lt_mul (a := 9223372036854775808) (b := (b.natAbs : Int)) (c := (a.natAbs : Int)) (by omega) (by omega)
              rw [if_neg (show ¬ ((a.natAbs : Int) = 0) by omega)]
              exact congrArg some (decide_eq_true this)
      by_cases h : a = -1
      · rw [if_pos h]; exact key2 true (by simp [h])
      · rw [if_neg h]; exact key2 _ (by rw [show decide (a = -1 ∨ b = -1) = decide (b = -1) from by simp [h]]; rfl)
  by_cases h : a = 0
  · rw [if_pos h]; exact key1 true (by simp [h])
  · rw [if_neg h]; exact key1 _ (by rw [show decide (a = 0 ∨ b = 0) = decide (b = 0) from by simp [h]]; rfl)

end Go.Proofs.Ytpaednaeehlofaa.Pure
