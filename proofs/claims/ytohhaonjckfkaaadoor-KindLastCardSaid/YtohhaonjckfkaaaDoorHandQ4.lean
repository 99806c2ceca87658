/- Contracts of Go functions that the laws of this seat reach, by hand: each call returns what the Lean function of its name tells. Conditions: those that each theorem names, none else. -/
import Derived.Test.YtohhaonjckfkaaaDoorHandQ3
namespace Go.Proofs.YtohhaonjckfkaaaDoor.Hand
open Go.RowKit Go.Proofs.YtohhaonjckfkaaaDoorW.PrintWords Go.Proofs.YtohhaonjckfkaaaDoorW.PrintLast Go.Proofs.YtohhaonjckfkaaaDoorW.PrintMore
attribute [local go_sem] max2_int min2_int max_two min_two max_three min_three max_four min_four
set_option linter.unusedVariables false
set_option linter.unusedSimpArgs false

/-! the plain law: what is ready, and what is counted, of a node of Made -/
theorem Fine.stp {n : Nd} (h : Fine n) : n.stp ≠ 0 := by
  cases hw : rWin n.k with
  | true =>
    obtain ⟨st, lf, rt, sp, hd⟩ := h.wd hw
    have := hd.stp; have := hd.t0; omega
  | false =>
    rw [rWin_four, Bool.or_eq_false_iff] at hw
    unfold Nd.stp
    rw [n.hasW.1, hw.1, if_neg (by decide)]
    decide
theorem few1 (t : Int) (h : 0 ≤ t) : fewestV [t] = t := by
  show mx (mn t t) 0 = t
  unfold mx mn; (repeat' split) <;> omega
theorem few2 (t : Int) (h : 0 ≤ t) : fewestV [t, t] = t := by
  show mx (mn (mn t t) t) 0 = t
  unfold mx mn; (repeat' split) <;> omega
theorem few0 : fewestV [] = 0 := rfl
theorem Fine.none {n : Nd} (l : List Int) (h : fewestV l = 0) : n.ready l = 0 ∧ n.count l = 0 := by
  unfold Nd.ready Nd.count
  rw [h]
  constructor
  · cases (n.k == 5) <;> rfl
  · rfl
theorem Fine.winds {n : Nd} (h : rWin n.k = true) (l : List Int) (t : Int) (hl : fewestV l = t) (ht : 0 < t) : n.ready l = n.ends t ∧ n.count l = n.ends (wrap64 (t + n.padR)) := by
  have h17 : n.has 17 = true := by rw [n.hasW.2.2, ← rWin_four]; exact h
  have h5 : (n.k == 5) = false := by
    unfold rWin at h
    simp only [Bool.or_eq_true, beq_iff_eq] at h
    rw [beq_eq_false_iff_ne]; omega
  unfold Nd.ready Nd.count
  rw [hl, h17, h5, decide_eq_true ht, show (t == 0) = false from by rw [beq_eq_false_iff_ne]; omega]
  exact ⟨rfl, rfl⟩
theorem Fine.plain {n : Nd} (h : rWin n.k = false) (l : List Int) (t : Int) (hl : fewestV l = t) (ht : 0 ≤ t) : n.ready l = (if n.k = 5 then 0 else t) ∧ n.count l = (if n.k = 5 then (if t = 0 then 0 else 1) else t) := by
  have h17 : n.has 17 = false := by rw [n.hasW.2.2, ← rWin_four]; exact h
  unfold Nd.ready Nd.count
  rw [hl, h17]
  by_cases h5 : n.k = 5
  · rw [if_pos h5, if_pos h5, show (n.k == 5) = true by simpa using h5]
    by_cases h0 : t = 0
    · subst h0; exact ⟨rfl, rfl⟩
    · rw [if_neg h0, show (t == 0) = false from by rw [beq_eq_false_iff_ne]; exact h0]; exact ⟨rfl, rfl⟩
  · rw [if_neg h5, if_neg h5, show (n.k == 5) = false from by rw [beq_eq_false_iff_ne]; exact h5]
    by_cases h0 : t = 0
    · subst h0; exact ⟨by simp, by simp⟩
    · rw [show (t == 0) = false from by rw [beq_eq_false_iff_ne]; exact h0]; exact ⟨by simp, by simp⟩
/-- more frames -/
theorem Fine.more {n : Nd} (h : Fine n) (l l' : List Int) (t : Int) (h0 : 0 ≤ t) (h1 : t ≤ 1099511627775) (hl : fewestV l = t) (hl' : fewestV l' = t + 1) :
    ∃ a b c d, n.ready l = a ∧ n.ready l' = b ∧ n.count l = c ∧ n.count l' = d ∧ 0 ≤ a ∧ a ≤ b ∧ b ≤ a + 1 ∧ c ≤ d ∧ 0 ≤ c ∧ c ≤ 1099511627800 ∧ d ≤ c + 1 + (if t = 0 then 16 else 0) ∧ a ≤ c ∧ b ≤ d := by
  cases hw : rWin n.k with
  | false =>
    obtain ⟨e1, e2⟩ := Fine.plain hw l t hl h0
    obtain ⟨e3, e4⟩ := Fine.plain hw l' (t + 1) hl' (by omega)
    refine ⟨_, _, _, _, e1, e3, e2, e4, ?_⟩
    by_cases h5 : n.k = 5
    · simp only [h5, if_true]
      rw [if_neg (show ¬ t + 1 = 0 by omega)]
      by_cases ht : t = 0
      · rw [if_pos ht, if_pos ht]; omega
      · rw [if_neg ht, if_neg ht]; omega
    · simp only [if_neg h5]
      by_cases ht : t = 0
      · rw [if_pos ht]; omega
      · rw [if_neg ht]; omega
  | true =>
    obtain ⟨st, lf, rt, sp, hd⟩ := h.wd hw
    obtain ⟨e3, e4⟩ := Fine.winds hw l' (t + 1) hl' (by omega)
    have r0 := hd.r0
    have r1 := hd.r1
    have s1 := hd.s1
    have t0 := hd.t0
    rw [hd.padR, w64 (by omega) (by omega)] at e4
    obtain ⟨b0, b1, b2⟩ := hd.ends (t + 1) (by omega) (by omega)
    obtain ⟨d0, d1, d2⟩ := hd.ends (t + 1 + rt) (by omega) (by omega)
    have hst : st = 1 ∨ st = 2 ∨ st = 3 := by have := hd.t1; omega
    by_cases ht : t = 0
    · obtain ⟨e1, e2⟩ := Fine.none (n := n) l (by rw [hl, ht])
      refine ⟨_, _, _, _, e1, e3, e2, e4, ?_⟩
      rw [if_pos ht]
      generalize n.ends (t + 1) = b at *
      generalize n.ends (t + 1 + rt) = d at *
      have m1 := d2 (b - 1)
      have m2 := b2 (b - 1)
      refine ⟨by omega, by omega, by omega, by omega, by omega, by omega, by omega, by omega, ?_⟩
      by_cases hb : b = 0
      · omega
      · have m3 := m1 (by omega)
        have m4 := m2 (by omega)
        omega
    · obtain ⟨e1, e2⟩ := Fine.winds hw l t hl (by omega)
      rw [hd.padR, w64 (by omega) (by omega)] at e2
      obtain ⟨a0, a1, a2⟩ := hd.ends t (by omega) (by omega)
      obtain ⟨c0, c1, c2⟩ := hd.ends (t + rt) (by omega) (by omega)
      refine ⟨_, _, _, _, e1, e3, e2, e4, ?_⟩
      rw [if_neg ht]
      have key : ∀ x y : Int, 0 ≤ x → (∀ i, 0 ≤ i → (i < n.ends x ↔ i * st - lf + sp - 1 < x)) → 0 ≤ n.ends x → 0 ≤ n.ends y → (∀ i, 0 ≤ i → (i < n.ends y ↔ i * st - lf + sp - 1 < y)) → x ≤ y → n.ends x ≤ n.ends y ∧ (y ≤ x + 1 → n.ends y ≤ n.ends x + 1) := by
        intro x y hx hfx hx0 hy0 hfy hxy
        refine ⟨?_, fun hyx => ?_⟩
        · refine Int.not_lt.mp fun hlt => ?_
          have m1 := (hfx (n.ends y) hy0).mp hlt
          have m2 := (hfy (n.ends y) hy0).mpr (by omega)
          omega
        · refine Int.not_lt.mp fun hlt => ?_
          have m1 := (hfy (n.ends x + 1) (by omega)).mp (by omega)
          have m2 : ¬ (n.ends x < n.ends x) := by omega
          rw [hfx (n.ends x) hx0] at m2
          rw [Int.add_mul] at m1
          omega
      have k1 := key t (t + 1) h0 a2 a0 b0 b2 (by omega)
      have k2 := key (t + rt) (t + 1 + rt) (by omega) c2 c0 d0 d2 (by omega)
      have k3 := key t (t + rt) h0 a2 a0 c0 c2 (by omega)
      have k4 := key (t + 1) (t + 1 + rt) (by omega) b2 b0 d0 d2 (by omega)
      have k5 := k1.2 (by omega)
      have k6 := k2.2 (by omega)
      exact ⟨a0, k1.1, k5, k2.1, c0, by omega, by omega, k3.1, k4.1⟩
end Go.Proofs.YtohhaonjckfkaaaDoor.Hand
