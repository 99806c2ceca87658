/-
Proved: the Go function SatAdds of package earshotlaw01 returns true for every input, and its arguments read behind the call as before. Conditions: none beyond the given row's.
-/
import Derived.Test.YtpaednaeehlofaaPSatAddsx1
namespace Go.Proofs.Ytpaednaeehlofaa.Pure
open Go.RowKit Go.Proofs.Ytpaednaeehlofaa.PSatAdds Go.Proofs.YtpaednaeehlofaaW.PrintWords Go.Proofs.YtpaednaeehlofaaW.PrintLast Go.Proofs.YtpaednaeehlofaaW.PrintMore

theorem w64 {x : Int} (h0 : -9223372036854775808 ≤ x) (h1 : x ≤ 9223372036854775807) : wrap64 x = x := by unfold wrap64; omega
theorem w64_def (x : Int) : wrap64 x = (x + 9223372036854775808) % 18446744073709551616 - 9223372036854775808 := by unfold wrap64; omega
theorem w64_range (x : Int) : -9223372036854775808 ≤ wrap64 x ∧ wrap64 x ≤ 9223372036854775807 := by unfold wrap64; omega
theorem iw64 (x : Int) : IntKind.i64.wrap x = wrap64 x := by rw [IntKind.wrap_i64, w64_def]

theorem and_mask (x : Int) (m : Nat) (hm : m ≤ 62) : Go.bits .and .i64 x (2 ^ m - 1) = x % 2 ^ m := by
  have hp : 0 < 2 ^ m := Nat.two_pow_pos m
  have hc : ((2 : Int) ^ m - 1) = ((2 ^ m - 1 : Nat) : Int) := by rw [Int.natCast_sub hp]; simp
  have hlt : (2 : Nat) ^ m ≤ 2 ^ 62 := Nat.pow_le_pow_right (by decide) hm
  have hmod : (2 ^ m - 1) % 2 ^ 64 = 2 ^ m - 1 := Nat.mod_eq_of_lt (by omega)
  have hd : (2 : Int) ^ m ∣ 2 ^ 64 := ⟨2 ^ (64 - m), by rw [← Int.pow_add]; congr 1; omega⟩
  have hx0 : 0 ≤ x % 2 ^ 64 := Int.emod_nonneg _ (by decide)
  rw [hc]
  show IntKind.i64.wrap (((BitVec.ofInt 64 x &&& BitVec.ofInt 64 ((2 ^ m - 1 : Nat) : Int)).toNat : Nat) : Int) = _
  rw [BitVec.toNat_and, BitVec.ofInt_natCast, BitVec.toNat_ofNat, BitVec.toNat_ofInt, hmod, Nat.and_two_pow_sub_one_eq_mod]
  have e : (((x % ((2 ^ 64 : Nat) : Int)).toNat % 2 ^ m : Nat) : Int) = x % 2 ^ m := by
    rw [Int.natCast_emod, Int.toNat_of_nonneg (by simpa using hx0)]
    simp only [Int.natCast_pow, Int.cast_ofNat_Int]
    exact Int.emod_emod_of_dvd _ hd
  have l0 : 0 ≤ x % 2 ^ m := Int.emod_nonneg _ (by exact_mod_cast Nat.ne_of_gt hp)
  have l1 : x % 2 ^ m < 2 ^ m := Int.emod_lt_of_pos _ (by exact_mod_cast hp)
  have l2 : (2 : Int) ^ m ≤ 2 ^ 62 := by exact_mod_cast hlt
  rw [e, iw64, w64] <;> omega

theorem xor_neg (x : Int) (h0 : -9223372036854775808 ≤ x) (h1 : x ≤ 9223372036854775807) : Go.bits .xor .i64 (-1) x = -1 - x := by
  have e : BitVec.ofInt 64 (-1) ^^^ BitVec.ofInt 64 x = ~~~ BitVec.ofInt 64 x := by
    have : BitVec.ofInt 64 (-1) = BitVec.allOnes 64 := by decide
    rw [this]; exact BitVec.allOnes_xor
  show IntKind.i64.wrap (((BitVec.ofInt 64 (-1) ^^^ BitVec.ofInt 64 x).toNat : Nat) : Int) = _
  rw [e, BitVec.toNat_not, BitVec.toNat_ofInt, iw64]
  unfold wrap64
  have : (0:Int) ≤ x % 18446744073709551616 := by omega
  simp only [Nat.reducePow, Int.cast_ofNat_Int]
  omega

theorem or_join (h l : Int) (l0 : 0 ≤ l) (l1 : l < 4294967296) (h0 : -2147483648 ≤ h) (h1 : h < 2147483648) : Go.bits .or .i64 (h * 4294967296) l = h * 4294967296 + l := by
  show IntKind.i64.wrap (((BitVec.ofInt 64 (h * 4294967296) ||| BitVec.ofInt 64 l).toNat : Nat) : Int) = _
  rw [BitVec.toNat_or, BitVec.toNat_ofInt, BitVec.toNat_ofInt, iw64]
  obtain ⟨a, ha⟩ : ∃ a : Nat, (a : Int) = h % 4294967296 := ⟨(h % 4294967296).toNat, by omega⟩
  have e1 : ((h * 4294967296) % ((2 ^ 64 : Nat) : Int)).toNat = 2 ^ 32 * a := by simp only [Nat.reducePow, Int.cast_ofNat_Int]; omega
  have e2 : (l % ((2 ^ 64 : Nat) : Int)).toNat = l.toNat := by simp only [Nat.reducePow, Int.cast_ofNat_Int]; omega
  rw [e1, e2, ← Nat.two_pow_add_eq_or_of_lt (by omega)]
  unfold wrap64
  simp only [Nat.reducePow]
  omega
def inR (x : Int) : Prop := -9223372036854775808 ≤ x ∧ x ≤ 9223372036854775807
instance (x : Int) : Decidable (inR x) := inferInstanceAs (Decidable (_ ∧ _))
theorem wf_inR {x : Int} (h : (Lit.int .i64 x).wf = true) : inR x := by
  simp [Lit.wf, IntKind.min, IntKind.max, IntKind.signed, IntKind.bits] at h
  unfold inR; omega
theorem rd_get {xs : List Int} {i : Nat} (h : i < xs.length) : rd xs (i : Int) = xs[i] := by unfold rd; simp [h]

/-- The lower end of bits. -/
def lowB (b : Int) : Int := -(2 ^ (b.toNat - 1))
theorem lowB_fin : ∀ n : Fin 64, shr .i64 (-9223372036854775808) (wrap64 (64 - ((n.val : Int) + 1))) = lowB ((n.val : Int) + 1) ∧ -9223372036854775808 ≤ lowB ((n.val : Int) + 1) ∧ lowB ((n.val : Int) + 1) ≤ -1 := by decide +kernel
theorem lowB_all {b : Int} (h0 : 1 ≤ b) (h1 : b ≤ 64) : shr .i64 (-9223372036854775808) (wrap64 (64 - b)) = lowB b ∧ -9223372036854775808 ≤ lowB b ∧ lowB b ≤ -1 := by
  have h := lowB_fin ⟨(b - 1).toNat, by omega⟩
  have e : (((b - 1).toNat : Nat) : Int) + 1 = b := by omega
  simp only [e] at h
  exact h
theorem lowB_mono {b c : Int} (h0 : 1 ≤ b) (h : b ≤ c) : lowB c ≤ lowB b := by
  unfold lowB
  have : (2 : Int) ^ (b.toNat - 1) ≤ 2 ^ (c.toNat - 1) := by exact_mod_cast Nat.pow_le_pow_right (by decide) (by omega)
  omega
theorem ends_in {b : Int} (h0 : 1 ≤ b) (h1 : b ≤ 64) : sat_ends.f b = some (lowB b, -1 - lowB b, true) := by
  obtain ⟨e, l, u⟩ := lowB_all h0 h1
  unfold sat_ends.f
  rw [if_neg (by omega), if_neg (by omega), if_pos (by rw [w64] <;> omega), e, xor_neg _ (by omega) (by omega)]
theorem ends_out {b : Int} (h : b < 1 ∨ 64 < b) : sat_ends.f b = some (0, 0, false) := by
  unfold sat_ends.f
  by_cases h0 : b < 1
  · rw [if_pos h0]
  · rw [if_neg h0, if_pos (by omega)]
def clampV (x l h : Int) : Int := if x < l then l else if x > h then h else x
theorem clamp_v (x l h : Int) : sat_Clamp.f x l h = some (clampV x l h) := by
  unfold sat_Clamp.f clampV
  split
  · rfl
  · split <;> rfl
/-- What clamped to the ends of bits is. -/
def satV (x b : Int) : Int := if 1 ≤ b ∧ b ≤ 64 then clampV x (lowB b) (-1 - lowB b) else 0
theorem sat_v (x b : Int) : sat_Sat.f x b = some (satV x b) := by
  unfold sat_Sat.f satV
  by_cases h : 1 ≤ b ∧ b ≤ 64
  · rw [ends_in h.1 h.2, if_pos h]; simp [clamp_v]
  · rw [ends_out (by omega), if_neg h]; simp
theorem clampV_in {x l h : Int} (hl : l ≤ h) : l ≤ clampV x l h ∧ clampV x l h ≤ h := by unfold clampV; split <;> (try split) <;> omega
theorem clampV_id {x l h : Int} (h0 : l ≤ x) (h1 : x ≤ h) : clampV x l h = x := by unfold clampV; split <;> (try split) <;> omega
theorem clampV_mono {x y l h : Int} (hl : l ≤ h) (hxy : x ≤ y) : clampV x l h ≤ clampV y l h := by unfold clampV; split <;> (try split) <;> (try split) <;> (try split) <;> omega
theorem satV_in {x b : Int} (h0 : 1 ≤ b) (h1 : b ≤ 64) : lowB b ≤ satV x b ∧ satV x b ≤ -1 - lowB b := by
  have := lowB_all h0 h1
  unfold satV; rw [if_pos ⟨h0, h1⟩]; exact clampV_in (by omega)

def fitsV (x b : Int) : Bool := decide (1 ≤ b ∧ b ≤ 64 ∧ lowB b ≤ x ∧ x ≤ -1 - lowB b)
theorem fits_v (x b : Int) : sat_Fits.f x b = some (fitsV x b) := by
  unfold sat_Fits.f fitsV
  by_cases h : 1 ≤ b ∧ b ≤ 64
  · rw [ends_in h.1 h.2]
    by_cases h2 : x ≥ lowB b
    · simp [h2, h.1, h.2]
    · simp [h2]
  · rw [ends_out (by omega)]; simp; omega
theorem fitsV_iff {x b : Int} (h0 : 1 ≤ b) (h1 : b ≤ 64) : fitsV x b = true ↔ satV x b = x := by
  have := lowB_all h0 h1
  unfold fitsV satV clampV; rw [if_pos ⟨h0, h1⟩]
  simp only [decide_eq_true_eq]
  split
  · omega
  · split <;> omega

theorem awake_true : earshotlaw01_awake.f 4 = some true := by decide +kernel
theorem awake_ge (k : Nat) (h : 4 ≤ k) : earshotlaw01_awake.f k = some true := by
  induction k with
  | zero => omega
  | succ k ih =>
    by_cases e : k + 1 = 4
    · rw [e]; exact awake_true
    · exact earshotlaw01_awake.mono k _ (ih (by omega))

theorem few_v (l : List Int) : earshotlaw01_few.f l = some (l.take 40) := by
  unfold earshotlaw01_few.f
  by_cases h : (l.length : Int) > 40
  · rw [if_pos h, if_pos (by omega)]
  · rw [if_neg h, List.take_of_length_le (by omega)]
/-- What is added, one by one. -/
def addL (b : Int) : List Int → Int → Int
  | [], n => n
  | x :: xs, n => addL b xs (satV (sat_Add.plus n x) b)
theorem add_go (b : Int) : ∀ (xs : List Int) (n : Int), sat_Add.go b xs n = some (addL b xs n)
  | [], n => rfl
  | x :: xs, n => by rw [sat_Add.go, sat_v]; exact add_go b xs _
theorem add_v (b : Int) (xs : List Int) (h : xs.length < 4611686018427387904) : sat_Add.f b xs = some (addL b xs 0) := by
  unfold sat_Add.f; rw [if_pos h, add_go]
theorem addL_append (b : Int) : ∀ (xs : List Int) (y n : Int), addL b (xs ++ [y]) n = satV (sat_Add.plus (addL b xs n) y) b
  | [], _, _ => rfl
  | _ :: xs, y, _ => addL_append b xs y _
theorem lowB62 : lowB 62 = -2305843009213693952 := by decide
theorem low_le {b : Int} (h0 : 1 ≤ b) (h1 : b ≤ 62) : -2305843009213693952 ≤ lowB b ∧ lowB b ≤ -1 := by
  have := lowB_mono h0 h1
  have := lowB_all h0 (by omega)
  rw [lowB62] at *; omega
theorem plus_small {n x : Int} (hn : -2305843009213693952 ≤ n ∧ n ≤ 2305843009213693951) (hx : -2305843009213693952 ≤ x ∧ x ≤ 2305843009213693951) : sat_Add.plus n x = n + x := by
  unfold sat_Add.plus
  rw [if_neg (by rintro ⟨h1, h2⟩; rw [w64 (by omega) (by omega)] at h2; omega)]
  rw [if_neg (by rintro ⟨h1, h2⟩; rw [w64 (by omega) (by omega)] at h2; omega)]
  exact w64 (by omega) (by omega)
theorem addL_in (b : Int) (h0 : 1 ≤ b) (h1 : b ≤ 62) : ∀ (xs : List Int) (n : Int), lowB b ≤ n ∧ n ≤ -1 - lowB b → lowB b ≤ addL b xs n ∧ addL b xs n ≤ -1 - lowB b
  | [], _, h => h
  | x :: xs, n, _ => addL_in b h0 h1 xs _ (satV_in h0 (by omega))
theorem adds_fin (xs : List Int) (b y : Int) (h0 : 1 ≤ b) (h1 : b ≤ 62) (hy : -2305843009213693952 ≤ y ∧ y ≤ 2305843009213693951) (n : Int)
    (hin : lowB b ≤ n ∧ n ≤ -1 - lowB b) : ∀ (k i : Nat) (s : Int) (met : Bool), (met = false → n = s) → 0 < k → earshotlaw01_SatAdds.j1 k xs true b y n (satV (n + y) b) s met (i : Int) false = some true := by
  have hb := low_le h0 h1
  intro k i s met h hk
  obtain ⟨k, rfl⟩ : ∃ m, k = m + 1 := ⟨k - 1, by omega⟩
  simp only [earshotlaw01_SatAdds.j1]
  rw [if_neg (by decide), if_pos trivial, fits_v, sat_v, w64 (by omega) (by omega)]
  have : fitsV n b = true := by unfold fitsV; simp; omega
  rw [this]
  simp only [Option.bind_some]
  rw [if_pos trivial, if_pos trivial]
  cases met with
  | true => rfl
  | false => rw [if_neg (by decide), h rfl]; simp
theorem adds_loop (xs : List Int) (hr : ∀ x ∈ xs, inR x) (hn : xs.length ≤ 40) (b y : Int) (h0 : 1 ≤ b) (h1 : b ≤ 62) (hy : -2305843009213693952 ≤ y ∧ y ≤ 2305843009213693951) (n : Int)
    (hin : lowB b ≤ n ∧ n ≤ -1 - lowB b) :
    ∀ (d k i : Nat) (s : Int) (met : Bool), i + d = xs.length → 2 * d + 4 < k → (met = false → addL b (xs.drop i) s = n ∧ lowB b ≤ s ∧ s ≤ -1 - lowB b) →
    earshotlaw01_SatAdds.l0 k xs true b y n (satV (n + y) b) s met (i : Int) = some true := by
  have hb := low_le h0 h1
  have fin := adds_fin xs b y h0 h1 hy n hin
  intro d
  induction d with
  | zero =>
    intro k i s met hd hk hinv
    obtain ⟨k, rfl⟩ : ∃ m, k = m + 1 := ⟨k - 1, by omega⟩
    simp only [earshotlaw01_SatAdds.l0]
    rw [if_neg (by omega)]
    refine fin k i s met (fun h => ?_) (by omega)
    have := (hinv h).1
    rw [List.drop_of_length_le (by omega)] at this
    exact this.symm
  | succ d ih =>
    intro k i s met hd hk hinv
    obtain ⟨k, rfl⟩ : ∃ m, k = m + 2 := ⟨k - 2, by omega⟩
    have hi : i < xs.length := by omega
    simp only [earshotlaw01_SatAdds.l0]
    rw [if_pos (by omega)]
    cases met with
    | true => exact fin (k + 1) i s true (fun h => by cases h) (by omega)
    | false =>
      simp only [earshotlaw01_SatAdds.j1]
      rw [show (!false) = true from rfl, if_pos trivial, if_pos (show (0 : Int) ≤ (i : Int) by omega), if_pos (show (i : Int) < xs.length by omega), rd_get hi, fits_v, fits_v]
      have hx := hr xs[i] (List.getElem_mem ..)
      unfold inR at hx
      obtain ⟨ha, hs0, hs1⟩ := hinv rfl
      simp only [Option.bind_some]
      by_cases hf : fitsV xs[i] 62 = true
      · rw [if_pos hf]
        unfold fitsV at hf
        rw [lowB62] at hf
        simp only [decide_eq_true_eq] at hf
        rw [w64 (x := s + xs[i]) (by omega) (by omega), w64 (by omega) (by omega)]
        refine ih k (i + 1) _ _ (by omega) (by omega) ?_
        intro hm
        have hfit : fitsV (s + xs[i]) b = true := by simpa using hm
        have hsat : satV (s + xs[i]) b = s + xs[i] := (fitsV_iff h0 (by omega)).mp hfit
        rw [List.drop_eq_getElem_cons hi] at ha
        simp only [addL] at ha
        rw [plus_small (by omega) (by omega), hsat] at ha
        refine ⟨ha, ?_⟩
        have := satV_in (x := s + xs[i]) h0 (show b ≤ 64 by omega)
        rw [hsat] at this
        exact this
      · rw [if_neg hf, w64 (by omega) (by omega)]
        refine ih k (i + 1) _ _ (by omega) (by omega) ?_
        intro hm
        exfalso; apply hf; simpa using hm
theorem SatAdds : earshotlaw01_SatAdds.Pure := by
  intro l y bits _ _ hw hy hbits
  refine ⟨200, ?_⟩
  have hr : ∀ x ∈ l.take 40, inR x := fun x hx => wf_inR (hw x (List.mem_of_mem_take hx))
  have hlen : (l.take 40).length ≤ 40 := by rw [List.length_take]; omega
  unfold earshotlaw01_SatAdds.f
  rw [awake_ge 200 (by decide), few_v]
  simp only [Option.bind_some]
  generalize l.take 40 = xs at hr hlen
  have hy := wf_inR hy
  have hbits := wf_inR hbits
  unfold inR at hy hbits
  have b1 := Int.tmod_lt_of_pos bits (show (0 : Int) < 62 by decide)
  have b2 := Int.lt_tmod_of_pos bits (show (0 : Int) < 62 by decide)
  have b3 := Int.tmod_lt_of_pos (wrap64 (Int.tmod bits 62 + 62)) (show (0 : Int) < 62 by decide)
  have b4 : 0 ≤ Int.tmod (wrap64 (Int.tmod bits 62 + 62)) 62 := by rw [w64 (by omega) (by omega)]; exact Int.tmod_nonneg _ (by omega)
  generalize Int.tmod (wrap64 (Int.tmod bits 62 + 62)) 62 = c at b3 b4
  rw [w64 (x := 1 + c) (by omega) (by omega)]
  have h0 : 1 ≤ 1 + c := by omega
  have h1 : 1 + c ≤ 62 := by omega
  generalize 1 + c = b at h0 h1
  have hy2 : -2305843009213693952 ≤ y / 4 ∧ y / 4 ≤ 2305843009213693951 := by omega
  generalize y / 4 = z at hy2
  have hb := low_le h0 h1
  rw [add_v b xs (by omega)]
  simp only [Option.bind_some, List.nil_append, List.length_nil]
  rw [if_pos (by omega), if_pos (by omega), add_v b (xs ++ [z]) (by simp only [List.length_append, List.length_cons, List.length_nil]; omega), addL_append]
  have hin := addL_in b h0 h1 xs 0 (by omega)
  rw [plus_small (by omega) hy2]
  have key := adds_loop xs hr hlen b z h0 h1 hy2 (addL b xs 0) hin xs.length 200 0 0 false (by omega) (by omega) (fun _ => ⟨by rw [List.drop_zero], by omega, by omega⟩)
  rw [show ((0 : Nat) : Int) = (0 : Int) from rfl] at key
  exact key

end Go.Proofs.Ytpaednaeehlofaa.Pure
