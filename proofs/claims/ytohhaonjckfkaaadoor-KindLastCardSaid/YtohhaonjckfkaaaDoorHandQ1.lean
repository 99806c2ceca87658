/- Contracts of Go functions that the laws of this seat reach, by hand: each call returns what the Lean function of its name tells. Conditions: those that each theorem names, none else. -/
import Derived.Test.YtohhaonjckfkaaaDoorHandH9
import Derived.Test.YtohhaonjckfkaaaDoorHandH10
namespace Go.Proofs.YtohhaonjckfkaaaDoor.Hand
open Go.RowKit Go.Proofs.YtohhaonjckfkaaaDoorW.PrintWords Go.Proofs.YtohhaonjckfkaaaDoorW.PrintLast Go.Proofs.YtohhaonjckfkaaaDoorW.PrintMore
attribute [local go_sem] max2_int min2_int max_two min_two max_three min_three max_four min_four
set_option linter.unusedVariables false
set_option linter.unusedSimpArgs false

/-! the plain law: kind's check and the document's are the same -/
theorem has_eq (n : Nd) (x : Int) (hk : inB n.k 1 12 = true) : n.has x = (Go.bits .and .i64 (has2 (has1 (hasT n.k) n.post) n.post) x != 0) := by
  unfold inB at hk
  simp only [Bool.and_eq_true, decide_eq_true_eq] at hk
  unfold Nd.has
  rw [if_neg (by omega), if_neg (by omega)]
theorem cases12 {P : Int → Prop} (k : Int) (hk : inB k 1 12 = true) (h : P 1 ∧ P 2 ∧ P 3 ∧ P 4 ∧ P 5 ∧ P 6 ∧ P 7 ∧ P 8 ∧ P 9 ∧ P 10 ∧ P 11 ∧ P 12) : P k := by
  unfold inB at hk
  simp only [Bool.and_eq_true, decide_eq_true_eq] at hk
  obtain ⟨h1, h2, h3, h4, h5, h6, h7, h8, h9, h10, h11, h12⟩ := h
  have : k = 1 ∨ k = 2 ∨ k = 3 ∨ k = 4 ∨ k = 5 ∨ k = 6 ∨ k = 7 ∨ k = 8 ∨ k = 9 ∨ k = 10 ∨ k = 11 ∨ k = 12 := by omega
  rcases this with h | h | h | h | h | h | h | h | h | h | h | h <;> subst h <;> assumption
theorem cases4 {P : Int → Prop} (p : Int) (hp : inB p 0 3 = true) (h : P 0 ∧ P 1 ∧ P 2 ∧ P 3) : P p := by
  unfold inB at hp
  simp only [Bool.and_eq_true, decide_eq_true_eq] at hp
  obtain ⟨h1, h2, h3, h4⟩ := h
  have : p = 0 ∨ p = 1 ∨ p = 2 ∨ p = 3 := by omega
  rcases this with h | h | h | h <;> subst h <;> assumption
def hasN (k p x : Int) : Bool := Go.bits .and .i64 (has2 (has1 (hasT k) p) p) x != 0
def hasAll (k p : Int) : Prop := hasN k p 1 = rFour k ∧ hasN k p 17 = (rFour k || k == 12) ∧ hasN k p 2 = (k == 1 || k == 6) ∧ hasN k p 4 = rWeighs k ∧ hasN k p 8 = rMany k ∧ hasN k p 32 = (k == 9 || Go.bits .and .i64 p 2 == 2) ∧ hasN k p 64 = (k == 10 || Go.bits .and .i64 p 1 == 1) ∧ hasN k p 16 = (k == 12)
instance (k p : Int) : Decidable (hasAll k p) := inferInstanceAs (Decidable (_ ∧ _))
theorem has_all (k p : Int) (hk : inB k 1 12 = true) (hp : inB p 0 3 = true) : hasAll k p := by
  refine cases12 (P := fun k => hasAll k p) k hk ?_
  refine cases4 (P := fun p => hasAll 1 p ∧ hasAll 2 p ∧ hasAll 3 p ∧ hasAll 4 p ∧ hasAll 5 p ∧ hasAll 6 p ∧ hasAll 7 p ∧ hasAll 8 p ∧ hasAll 9 p ∧ hasAll 10 p ∧ hasAll 11 p ∧ hasAll 12 p) p hp ?_
  decide +kernel
structure Nd.Has (n : Nd) : Prop where
  h1 : n.has 1 = rFour n.k
  h17 : n.has 17 = (rFour n.k || n.k == 12)
  h2 : n.has 2 = n.bw
  h4 : n.has 4 = rWeighs n.k
  h8 : n.has 8 = rMany n.k
  h32 : n.has 32 = n.bcl
  h64 : n.has 64 = n.bsc
  h16 : n.has 16 = (n.k == 12)
theorem Nd.hasT' (n : Nd) (hk : inB n.k 1 12 = true) (hp : inB n.post 0 3 = true) : n.Has := by
  obtain ⟨a, b, c, d, e, f, g, i⟩ := has_all n.k n.post hk hp
  exact ⟨(has_eq n _ hk).trans a, (has_eq n _ hk).trans b, (has_eq n _ hk).trans c, (has_eq n _ hk).trans d, (has_eq n _ hk).trans e, (has_eq n _ hk).trans f, (has_eq n _ hk).trans g, (has_eq n _ hk).trans i⟩
theorem bare_b (f t bw wg cl sc b0 s wi b3 lo hi mu sh : Bool) :
    (if (b0 && !f) = true then false else if (s && !(f || t)) = true then false else if (wi && !bw) = true then false else if (b3 && !wg) = true then false else if ((lo || hi) && !cl) = true then false else if ((mu || sh) && !sc) = true then false else true) =
    (if (!f && b0) = true then false else if (!f && !t && s || !bw && wi) = true then false else if (!wg && b3) = true then false else (sc || !mu && !sh) && (cl || !lo && !hi)) := by
  cases f <;> cases t <;> cases bw <;> cases s <;> cases wi <;> cases b0 <;> cases wg <;> cases b3 <;> simp <;> cases cl <;> cases sc <;> cases lo <;> cases hi <;> simp
theorem bare_eq (n : Nd) (h : n.Has) : n.bare = n.else0 := by
  have := bare_b (rFour n.k) (n.k == 12) n.bw (rWeighs n.k) n.bcl n.bsc (n.step != 0 || n.gap != 0 || n.left != 0 || n.right != 0) (n.size != 0) (n.wid != 0) (decide (0 < n.ws.length) || decide (0 < n.bs.length)) (n.low != 0) (n.high != 0) (n.mult != 0) (n.shift != 0)
  unfold Nd.bare Nd.else0 Nd.e6 Nd.e8 Nd.e10 Nd.e12
  rw [h.h1, h.h17, h.h2, h.h4, h.h32, h.h64]
  simp only [bne, Bool.not_not] at this ⊢
  exact this
end Go.Proofs.YtohhaonjckfkaaaDoor.Hand
