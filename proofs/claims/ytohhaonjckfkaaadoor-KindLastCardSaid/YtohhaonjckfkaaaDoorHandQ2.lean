/- Contracts of Go functions that the laws of this seat reach, by hand: each call returns what the Lean function of its name tells. Conditions: those that each theorem names, none else. -/
import Derived.Test.YtohhaonjckfkaaaDoorHandQ1
import Derived.Test.YtohhaonjckfkaaaDoorHandH11
namespace Go.Proofs.YtohhaonjckfkaaaDoor.Hand
open Go.RowKit Go.Proofs.YtohhaonjckfkaaaDoorW.PrintWords Go.Proofs.YtohhaonjckfkaaaDoorW.PrintLast Go.Proofs.YtohhaonjckfkaaaDoorW.PrintMore
attribute [local go_sem] max2_int min2_int max_two min_two max_three min_three max_four min_four
set_option linter.unusedVariables false
set_option linter.unusedSimpArgs false

theorem inB_iff {x lo hi : Int} : inB x lo hi = true ↔ lo ≤ x ∧ x ≤ hi := by unfold inB; simp
theorem fit14_eq (n : Nd) : n.fit14 = n.s27 := by
  unfold Nd.fit14 Nd.s27
  rw [Bool.eq_iff_iff]
  simp only [Bool.and_eq_true, inB_iff, decide_eq_true_eq]
  constructor <;> rintro ⟨⟨h1, h2⟩, h3⟩ <;> refine ⟨?_, ?_⟩ <;> first | omega | (refine ⟨?_, ?_⟩ <;> first | omega | (refine ⟨?_, ?_⟩ <;> omega))
theorem mul_le (a b c d : Int) (h0 : 0 ≤ a) (h1 : a ≤ b) (h2 : 0 ≤ c) (h3 : c ≤ d) : 0 ≤ a * c ∧ a * c ≤ b * d := ⟨Int.mul_nonneg h0 h2, Int.mul_le_mul h1 h3 h2 (by omega)⟩
theorem fit12_eq (n : Nd) (v : Int) (hv : 1 ≤ v ∧ v ≤ 16) (hw : rWeighs n.k = true) (hA : rFour n.k = true → 1 ≤ n.size ∧ n.size ≤ 8) (hB : n.bw = true → 1 ≤ n.wid ∧ n.wid ≤ 16) :
    (if (n.k == 2) = true then n.fitW v (wrap64 n.size) else if (n.k == 1) = true then n.fitW n.wid (wrap64 (v * n.size)) else n.fitW n.wid v) = (if (n.s21 v (if (n.k == 2) = true then v else n.wid)) = true then false else n.s27) := by
  have key : ∀ out each, wrap64 (out * each) = n.rWeights v → n.fitW out each = (if n.s21 v out = true then false else n.s27) := fun out each h => by
    have e : n.fit12 out each = n.s21 v out := by unfold Nd.fit12 Nd.s21; rw [h]
    unfold Nd.fitW
    rw [e, fit14_eq]
  unfold rWeighs at hw
  simp only [Bool.or_eq_true, beq_iff_eq] at hw
  by_cases h2 : n.k = 2
  · have e2 : (n.k == 2) = true := by simp [h2]
    have e1 : (n.k == 1) = false := by simp [h2]
    have hs := hA (by simp [rFour, h2])
    simp only [e2, if_true]
    exact key v _ (by unfold Nd.rWeights; rw [e1, e2, if_neg (by decide), if_pos rfl, w64 (x := n.size) (by omega) (by omega)])
  · have e2 : (n.k == 2) = false := by simp [h2]
    by_cases h1 : n.k = 1
    · have e1 : (n.k == 1) = true := by simp [h1]
      have hs := hA (by simp [rFour, h1])
      have hb := hB (by simp [Nd.bw, h1])
      have m1 := mul_le v 16 n.size 8 (by omega) hv.2 (by omega) hs.2
      have m2 := mul_le n.wid 16 n.size 8 (by omega) hb.2 (by omega) hs.2
      simp only [e2, e1, if_true, Bool.false_eq_true, if_false]
      exact key n.wid _ (by
        unfold Nd.rWeights
        rw [e1, if_pos rfl, w64 (x := v * n.size) (by omega) (by omega), w64 (x := n.wid * n.size) (by omega) (by omega), Int.mul_comm v n.size, Int.mul_assoc])
    · have e1 : (n.k == 1) = false := by simp [h1]
      simp only [e2, e1, Bool.false_eq_true, if_false]
      exact key n.wid v (by unfold Nd.rWeights; rw [e1, e2, if_neg (by decide), if_neg (by decide)])
theorem span_eq (n : Nd) (h : n.Has) (hf : rFour n.k = true) (hA : 1 ≤ n.size ∧ n.size ≤ 8) (hG : 1 ≤ n.gap ∧ n.gap ≤ 4) :
    ∃ sp : Int, n.span = sp ∧ n.rSpan = sp ∧ 1 ≤ sp ∧ sp ≤ 29 := by
  have hm := mul_le (n.size - 1) 7 n.gap 4 (by omega) (by omega) (by omega) hG.2
  have e : wrap64 (wrap64 (wrap64 (n.size - 1) * n.gap) + 1) = (n.size - 1) * n.gap + 1 := by
    rw [w64 (x := n.size - 1) (by omega) (by omega), w64 (x := (n.size - 1) * n.gap) (by omega) (by omega), w64 (by omega) (by omega)]
  refine ⟨(n.size - 1) * n.gap + 1, ?_, ?_, by omega, by omega⟩
  · unfold Nd.span; rw [if_pos (h.h1.trans hf), e]
  · unfold Nd.rSpan
    unfold rFour at hf
    simp only [Bool.or_eq_true, beq_iff_eq] at hf
    rw [if_neg (by simp; omega), if_neg (by simp [rWin]; omega), e]
theorem win_eq (n : Nd) (h : n.Has) (hf : rFour n.k = true) (hA : 1 ≤ n.size ∧ n.size ≤ 8) (hG : 1 ≤ n.gap ∧ n.gap ≤ 4) :
    (!inB n.left 0 (wrap64 (n.span - 1)) || !inB n.right 0 (wrap64 (n.span - 1))) = (decide (n.left < 0) || decide (n.rSpan ≤ n.left) || decide (n.right < 0) || decide (n.rSpan ≤ n.right)) := by
  obtain ⟨sp, e1, e2, h1, h2⟩ := span_eq n h hf hA hG
  rw [e1, e2, w64 (by omega) (by omega), Bool.eq_iff_iff]
  simp only [Bool.or_eq_true, Bool.not_eq_true', decide_eq_true_eq, ← Bool.not_eq_true, inB_iff]
  omega
theorem fits_b (f t bw A B St Ga L R l2 T1 T2 : Bool) (h1 : f = true → A = true → Ga = true → (!L || !R) = l2) (h2 : (f = true → A = true) → (bw = true → B = true) → T1 = T2) :
    (if ((f || t) && !A || bw && !B) = true then false else if (f && (!St || !Ga || !L || !R)) = true then false else T1) =
    (if ((f || t) && !A) = true then false else if (f && (!St || !Ga)) = true then false else if (f && l2) = true then false else if (bw && !B) = true then false else T2) := by
  cases f <;> cases A <;> cases B <;> cases bw <;> cases t <;> simp_all <;> cases Ga <;> simp_all <;> cases St <;> simp_all <;> subst h1 <;> cases L <;> cases R <;> simp_all
theorem fits_eq (n : Nd) (h : n.Has) (v : Int) (hv : 1 ≤ v ∧ v ≤ 16) : n.fits v = n.sized v := by
  unfold Nd.fits Nd.sized Nd.fit1 Nd.fit3 Nd.s4 Nd.s8 Nd.s10 Nd.s13
  rw [h.h1, h.h17, h.h2, h.h4, fit14_eq]
  refine fits_b (rFour n.k) (n.k == 12) n.bw (inB n.size 1 8) (inB n.wid 1 16) (inB n.step 1 4) (inB n.gap 1 4) _ _ _ _ _ (fun hf hA hG => win_eq n h hf (inB_iff.mp hA) (inB_iff.mp hG)) (fun hA hB => ?_)
  cases hq : rWeighs n.k with
  | false => rfl
  | true => rw [if_pos rfl, if_pos rfl]; exact fit12_eq n v hv hq (fun hf => inB_iff.mp (hA hf)) (fun hb => inB_iff.mp (hB hb))

theorem chk5_eq (n : Nd) (h : n.Has) (l : List Int) (hk : inB n.k 1 12 = true) : (n.chk5 l || false) = (n.r7 l || !n.else0) := by
  unfold Nd.chk5 Nd.r7
  rw [h.h8, bare_eq n h, hk]
  have e : (!inB (l.length : Int) 2 4) = (decide ((l.length : Int) < 2) || decide (4 < (l.length : Int))) := by
    rw [Bool.eq_iff_iff]; simp only [Bool.or_eq_true, Bool.not_eq_true', decide_eq_true_eq, ← Bool.not_eq_true, inB_iff]; omega
  rw [e]
  simp
theorem chk_eq (n : Nd) (l : List Int) : n.chk l = n.rchk l := by
  unfold Nd.chk Nd.rchk
  cases h1 : n.chk1 l with
  | true => rfl
  | false =>
    simp only [Bool.false_eq_true, if_false]
    cases hk : inB n.k 1 12 with
    | false =>
      rw [if_pos (by unfold Nd.chk3; rw [hk]; simp), if_pos (by unfold Nd.r7; rw [hk]; simp)]
    | true =>
      cases hp : inB n.post 0 3 with
      | false =>
        rw [if_pos (by unfold Nd.chk3; rw [hp]; simp)]
        have h9 : n.r9 = true := by
          unfold Nd.r9
          have : ¬ (0 ≤ n.post ∧ n.post ≤ 3) := fun h => by rw [inB_iff.mpr h] at hp; cases hp
          simp only [Bool.or_eq_true, decide_eq_true_eq]
          omega
        rw [h9]
        cases n.r7 l <;> rfl
      | true =>
        have H := n.hasT' hk hp
        have h3 : n.chk3 = n.r9 := by
          unfold Nd.chk3 Nd.r9
          have := inB_iff.mp hp
          rw [hk, hp, H.h4, decide_eq_false (show ¬ n.post < 0 by omega), decide_eq_false (show ¬ 3 < n.post by omega)]
          rfl
        have h5 := chk5_eq n H l hk
        rw [Bool.or_false] at h5
        rw [h3, h5]
        cases h7 : n.r7 l with
        | true => cases n.r9 <;> rfl
        | false =>
          cases h9 : n.r9 with
          | true => rfl
          | false =>
            cases he : n.else0 with
            | false => rfl
            | true =>
              have hl : l ≠ [] := by rintro rfl; rw [n.r7_nil] at h7; cases h7
              have hv : 1 ≤ rd l 0 ∧ rd l 0 ≤ 16 := by
                unfold Nd.chk1 at h1
                simp only [Bool.or_eq_false_iff, Bool.not_eq_false'] at h1
                cases l with
                | nil => exact absurd rfl hl
                | cons x xs =>
                  have := List.all_eq_true.mp h1.2 x (List.mem_cons_self ..)
                  exact inB_iff.mp this
              rw [fits_eq n H _ hv]
              rfl
theorem both_eq (n : Nd) (l : List Int) : n.both l = true := by
  unfold Nd.both Nd.wide Nd.rwide
  rw [chk_eq n l]
  cases h0 : (n.rchk l != 0) with
  | true => simp
  | false =>
    have hc : n.chk l = 0 := by rw [chk_eq]; exact bne_eq_false_iff_eq.mp h0
    have h3 : n.chk3 = false := by
      cases h : n.chk3 with
      | false => rfl
      | true => unfold Nd.chk at hc; rw [h] at hc; cases h1 : n.chk1 l <;> rw [h1] at hc <;> simp at hc
    have hk : inB n.k 1 12 = true ∧ inB n.post 0 3 = true := by
      unfold Nd.chk3 at h3
      simp only [Bool.or_eq_false_iff, Bool.not_eq_false'] at h3
      exact h3.1
    have H := n.hasT' hk.1 hk.2
    rw [H.h2]
    show (_ == _ && (if _ then _ else if n.bw = true then _ else _) == (if _ then _ else if n.bw = true then _ else _)) = true
    cases n.bw <;> cases (n.k == 11) <;> simp [bne] <;> cases (n.k == 8) <;> simp
end Go.Proofs.YtohhaonjckfkaaaDoor.Hand
