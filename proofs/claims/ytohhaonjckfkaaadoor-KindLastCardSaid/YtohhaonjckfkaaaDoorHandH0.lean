/- Contracts of Go functions that the laws of this seat reach, by hand: each call returns what the Lean function of its name tells. Conditions: those that each theorem names, none else. -/
import Derived.Test.YtohhaonjckfkaaaDoorProg
import Derived.Below
import Derived.Deep.Draws
import Derived.Deep.AppendLies
import Derived.Maps.AppendAt
import Derived.OwnWalk
import Derived.Laws.BytesArg
import Derived.Laws.MakeOwn
import Derived.Laws.OwnMore
import Derived.Deep.OwnRows
import Derived.Tactics
import Derived.Lib.ConvBytes
import Derived.Laws.Slices
import Derived.WalkKit
import Derived.KernelRfl
import Derived.RowKit3
import Derived.Deep.LoopGhost
import Derived.Deep.QuietTactic
import Derived.BigQuiet
import Derived.WideLaws
import Derived.Deep.DeepCutAuto
import Derived.Deep.CutBlock
import Derived.Deep.RegionHeld3
import Derived.Laws.Rows
import Derived.Lib.AppendStr
import Derived.ArgAppend
import Derived.Laws.IdiomCopy
import Derived.OrdersHeld
import Derived.Laws.BitsLemmas
import Derived.RowKit
import Derived.Test.YtohhaonjckfkaaaDoorWWords
import Derived.Test.YtohhaonjckfkaaaDoorWLast
import Derived.Test.YtohhaonjckfkaaaDoorWTab
import Derived.Test.YtohhaonjckfkaaaDoorWFour
import Derived.Test.YtohhaonjckfkaaaDoorWQPut
import Derived.Test.YtohhaonjckfkaaaDoorWApart
import Derived.Test.YtohhaonjckfkaaaDoorWArr
import Derived.Test.YtohhaonjckfkaaaDoorWZeros
import Derived.Test.YtohhaonjckfkaaaDoorWFoot
import Derived.Test.YtohhaonjckfkaaaDoorWKept
import Derived.Test.YtohhaonjckfkaaaDoorWShare
import Derived.Test.YtohhaonjckfkaaaDoorWN
import Derived.Test.YtohhaonjckfkaaaDoorWFootNe
import Derived.Test.YtohhaonjckfkaaaDoorWAt
import Derived.Test.YtohhaonjckfkaaaDoorWEqStruct
import Derived.Test.YtohhaonjckfkaaaDoorWRepsOne
import Derived.Test.YtohhaonjckfkaaaDoorWInv
import Derived.Test.YtohhaonjckfkaaaDoorWInvWords
import Derived.Test.YtohhaonjckfkaaaDoorWGuard
import Derived.Test.YtohhaonjckfkaaaDoorWNEv
import Derived.Test.YtohhaonjckfkaaaDoorWMore
namespace Go.Proofs.YtohhaonjckfkaaaDoor.Hand
open Go.RowKit Go.Proofs.YtohhaonjckfkaaaDoorW.PrintWords Go.Proofs.YtohhaonjckfkaaaDoorW.PrintLast Go.Proofs.YtohhaonjckfkaaaDoorW.PrintMore
attribute [local go_sem] max2_int min2_int max_two min_two max_three min_three max_four min_four
set_option linter.unusedVariables false
set_option linter.unusedSimpArgs false

def guarded (g : Bool) (v : Value) : Value := if g then v else undef
theorem guarded_true (v : Value) : guarded true v = v := rfl
theorem guarded_false (v : Value) : guarded false v = undef := rfl
theorem ow_run {P : Program} {ops : Array Oper} {Q : Exit → Act → World → Prop} {a : Act} {w : World} {rest : List Oper} {o : Oper} {g : Bool} {v : Value} {a1 : Act}
    (hg : Region.wanted o (yielded ops a.tmps) = g) (hv : g = true → ∀ K : Act → World → Prop, (∀ a', a' = a.put o.dst v → K a' w) → o.wp P a w K Q)
    (ha : a.put o.dst (guarded g v) = a1) (h : wpList P ops Q rest a1 w) : wpList P ops Q (o :: rest) a w := by
  subst ha
  unfold wpList
  cases g with
  | true => rw [if_pos hg]; exact .inl (hv rfl _ (fun a' e => by subst e; exact h))
  | false => rw [if_neg (by rw [hg]; decide)]; exact h
/-- what the guard's slot holds -/
def slotOf (ops : Array Oper) (tmps : Array Value) (j : Nat) : Option Value := ((ops[j]?).bind (·.dst)).bind (tmps[·]?)
theorem ow_wanted {o : Oper} {ops : Array Oper} {tmps : Array Value} {j : Nat} {want b : Bool} (hgd : o.guard = some (j, want)) (hy : slotOf ops tmps j = some (.bool b)) : Region.wanted o (yielded ops tmps) = (b == want) := by
  unfold slotOf at hy; simp only [Region.wanted, hgd, yielded, hy]; cases b <;> cases want <;> rfl
theorem ow_wanted_n {o : Oper} {ops : Array Oper} {tmps : Array Value} {j : Nat} {want b g : Bool} (hgd : o.guard = some (j, want)) (hy : slotOf ops tmps j = some (guarded g (.bool b))) : Region.wanted o (yielded ops tmps) = (g && (b == want)) := by
  unfold slotOf at hy; simp only [Region.wanted, hgd, yielded, hy]; cases g <;> cases b <;> cases want <;> rfl
section
variable {P : Program} {ops : Array Oper} {Q : Exit → Act → World → Prop} {a : Act} {w : World} {rest : List Oper} {o : Oper} {b g : Bool} {v : Value} {a1 : Act} {j : Nat}
theorem ow_t (hgd : o.guard = some (j, true)) (hy : slotOf ops a.tmps j = some (.bool b)) (hv : b = true → ∀ K : Act → World → Prop, (∀ a', a' = a.put o.dst v → K a' w) → o.wp P a w K Q)
    (ha : a.put o.dst (guarded b v) = a1) (h : wpList P ops Q rest a1 w) : wpList P ops Q (o :: rest) a w :=
  ow_run ((ow_wanted hgd hy).trans (by cases b <;> rfl)) hv ha h
theorem ow_f (hgd : o.guard = some (j, false)) (hy : slotOf ops a.tmps j = some (.bool b)) (hv : b = false → ∀ K : Act → World → Prop, (∀ a', a' = a.put o.dst v → K a' w) → o.wp P a w K Q)
    (ha : a.put o.dst (guarded (!b) v) = a1) (h : wpList P ops Q rest a1 w) : wpList P ops Q (o :: rest) a w :=
  ow_run (g := !b) ((ow_wanted hgd hy).trans (by cases b <;> rfl)) (fun e => hv (by cases b <;> simp_all)) ha h
theorem ow_nt (hgd : o.guard = some (j, true)) (hy : slotOf ops a.tmps j = some (guarded g (.bool b))) (hv : g = true → b = true → ∀ K : Act → World → Prop, (∀ a', a' = a.put o.dst v → K a' w) → o.wp P a w K Q)
    (ha : a.put o.dst (guarded (g && b) v) = a1) (h : wpList P ops Q rest a1 w) : wpList P ops Q (o :: rest) a w :=
  ow_run (g := g && b) ((ow_wanted_n hgd hy).trans (by cases b <;> cases g <;> rfl)) (fun e => hv (by cases g <;> simp_all) (by cases b <;> simp_all)) ha h
theorem ow_nf (hgd : o.guard = some (j, false)) (hy : slotOf ops a.tmps j = some (guarded g (.bool b))) (hv : g = true → b = false → ∀ K : Act → World → Prop, (∀ a', a' = a.put o.dst v → K a' w) → o.wp P a w K Q)
    (ha : a.put o.dst (guarded (g && !b) v) = a1) (h : wpList P ops Q rest a1 w) : wpList P ops Q (o :: rest) a w :=
  ow_run (g := g && !b) ((ow_wanted_n hgd hy).trans (by cases b <;> cases g <;> rfl)) (fun e => hv (by cases g <;> simp_all) (by cases b <;> simp_all)) ha h
theorem ow_do {want : Bool} (hgd : o.guard = some (j, want)) (hy : slotOf ops a.tmps j = some (.bool b)) (hb : b = want)
    (h : ∀ K : Act → World → Prop, (∀ a w, wpList P ops Q rest a w → K a w) → o.wp P a w K Q) : wpList P ops Q (o :: rest) a w :=
  BigFrame.wpList_want ((ow_wanted hgd hy).trans (by subst hb; cases b <;> rfl)) h
theorem ow_skip_t (hgd : o.guard = some (j, true)) (hy : slotOf ops a.tmps j = some (.bool b)) (hb : b = false) (ha : a.put o.dst undef = a1) (h : wpList P ops Q rest a1 w) : wpList P ops Q (o :: rest) a w := by
  subst ha; exact wpList_skip ((ow_wanted hgd hy).trans (by subst hb; rfl)) h
theorem ow_skip_f (hgd : o.guard = some (j, false)) (hy : slotOf ops a.tmps j = some (.bool b)) (hb : b = true) (ha : a.put o.dst undef = a1) (h : wpList P ops Q rest a1 w) : wpList P ops Q (o :: rest) a w := by
  subst ha; exact wpList_skip ((ow_wanted hgd hy).trans (by subst hb; rfl)) h
theorem pick_wp {c x y : Operand} {K : Act → World → Prop} {v : Value} (hop : o.op = .pick c x y) (hv : (a.eval c = .bool true ∧ a.eval x = v) ∨ (a.eval c = .bool false ∧ a.eval y = v)) (h : K (a.put o.dst v) w) : o.wp P a w K Q := by
  have hr : (execOp a.eval o).run P w = .ok (.value v) w := by
    clear h
    generalize a.eval = ρ at hv ⊢
    rcases hv with ⟨h1, h2⟩ | ⟨h1, h2⟩ <;> simp [execOp, hop, h1, h2, go_sem, asBool]
  unfold Oper.wp
  rw [hr]
  exact h
theorem pick_or {c t : Operand} {z : Bool} (hop : o.op = .pick c (.const (.bool true)) t) (hgd : o.guard = none) (hc : a.eval c = .bool b) (ht : b = false → a.eval t = .bool z)
    (ha : a.put o.dst (.bool (b || z)) = a1) (h : wpList P ops Q rest a1 w) : wpList P ops Q (o :: rest) a w := by
  subst ha
  unfold wpList
  rw [if_pos (by simp [Region.wanted, hgd])]
  refine .inl (pick_wp hop ?_ h)
  cases b
  · exact .inr ⟨hc, ht rfl⟩
  · exact .inl ⟨hc, rfl⟩
theorem pick_and {c t : Operand} {z : Bool} (hop : o.op = .pick c t (.const (.bool false))) (hgd : o.guard = none) (hc : a.eval c = .bool b) (ht : b = true → a.eval t = .bool z)
    (ha : a.put o.dst (.bool (b && z)) = a1) (h : wpList P ops Q rest a1 w) : wpList P ops Q (o :: rest) a w := by
  subst ha
  unfold wpList
  rw [if_pos (by simp [Region.wanted, hgd])]
  refine .inl (pick_wp hop ?_ h)
  cases b
  · exact .inr ⟨hc, rfl⟩
  · exact .inl ⟨hc, ht rfl⟩
/-- a pick under a guard -/
theorem npick_or {c t : Operand} {z g' : Bool} (hop : o.op = .pick c (.const (.bool true)) t) (hg : Region.wanted o (yielded ops a.tmps) = g) (hc : g = true → a.eval c = .bool b) (ht : g = true → b = false → a.eval t = .bool z)
    (ha : a.put o.dst (guarded g (.bool (b || z))) = a1) (h : wpList P ops Q rest a1 w) : wpList P ops Q (o :: rest) a w := by
  refine ow_run (g := g) (v := .bool (b || z)) hg (fun hb K hK => pick_wp hop ?_ (hK _ rfl)) ha h
  cases b
  · exact .inr ⟨hc hb, ht hb rfl⟩
  · exact .inl ⟨hc hb, rfl⟩
theorem npick_and {c t : Operand} {z g' : Bool} (hop : o.op = .pick c t (.const (.bool false))) (hg : Region.wanted o (yielded ops a.tmps) = g) (hc : g = true → a.eval c = .bool b) (ht : g = true → b = true → a.eval t = .bool z)
    (ha : a.put o.dst (guarded g (.bool (b && z))) = a1) (h : wpList P ops Q rest a1 w) : wpList P ops Q (o :: rest) a w := by
  refine ow_run (g := g) (v := .bool (b && z)) hg (fun hb K hK => pick_wp hop ?_ (hK _ rfl)) ha h
  cases b
  · exact .inr ⟨hc hb, rfl⟩
  · exact .inl ⟨hc hb, ht hb rfl⟩
theorem ow_wt (hgd : o.guard = some (j, true)) (hy : slotOf ops a.tmps j = some (.bool b)) : Region.wanted o (yielded ops a.tmps) = b := (ow_wanted hgd hy).trans (by cases b <;> rfl)
theorem ow_wf (hgd : o.guard = some (j, false)) (hy : slotOf ops a.tmps j = some (.bool b)) : Region.wanted o (yielded ops a.tmps) = !b := (ow_wanted hgd hy).trans (by cases b <;> rfl)
theorem ow_wnt (hgd : o.guard = some (j, true)) (hy : slotOf ops a.tmps j = some (guarded g (.bool b))) : Region.wanted o (yielded ops a.tmps) = (g && b) := (ow_wanted_n hgd hy).trans (by cases b <;> cases g <;> rfl)
theorem ow_wnf (hgd : o.guard = some (j, false)) (hy : slotOf ops a.tmps j = some (guarded g (.bool b))) : Region.wanted o (yielded ops a.tmps) = (g && !b) := (ow_wanted_n hgd hy).trans (by cases b <;> cases g <;> rfl)
theorem ow_call (R : World → Prop) (hg : Region.wanted o (yielded ops a.tmps) = g) (hs : R w) (hv : g = true → ∀ K : Act → World → Prop, (∀ a' w', a' = a.put o.dst v → R w' → K a' w') → o.wp P a w K Q)
    (ha : a.put o.dst (guarded g v) = a1) (h : ∀ w', R w' → wpList P ops Q rest a1 w') : wpList P ops Q (o :: rest) a w := by
  subst ha
  unfold wpList
  cases g with
  | true => rw [if_pos hg]; exact .inl (hv rfl _ (fun a' w' e r => by subst e; exact h w' r))
  | false => rw [if_neg (by rw [hg]; decide)]; exact h w hs
theorem ow_callB (hg : Region.wanted o (yielded ops a.tmps) = g) (hv : g = true → ∀ K : Act → World → Prop, (∀ a' w', a' = a.put o.dst v → Below w.heap.size w w' → K a' w') → o.wp P a w K Q)
    (ha : a.put o.dst (guarded g v) = a1) (h : ∀ w', Below w.heap.size w w' → wpList P ops Q rest a1 w') : wpList P ops Q (o :: rest) a w := ow_call (Below w.heap.size w) hg (Below.refl _ _) hv ha h
theorem ow_callD (hg : Region.wanted o (yielded ops a.tmps) = g) (hv : g = true → ∀ K : Act → World → Prop, (∀ a' nd, a' = a.put o.dst v → K a' (w.drewN nd)) → o.wp P a w K Q)
    (ha : a.put o.dst (guarded g v) = a1) (h : ∀ nd, wpList P ops Q rest a1 (w.drewN nd)) : wpList P ops Q (o :: rest) a w := ow_call (fun w' => ∃ nd, w' = w.drewN nd) hg ⟨0, (World.drewN_zero w).symm⟩ (fun hb K hK => hv hb K (fun a' nd e => hK a' _ e ⟨nd, rfl⟩)) ha (fun w' ⟨nd, e⟩ => e ▸ h nd)
end

def Tab (w : World) : Prop := ∀ j v, ([0, 7, 5, 1, 1, 0, 6, 8, 8, 32, 64, 0, 16] : List Int)[j]? = some v → w.cell? ⟨0, j, none⟩ = some (.int .i64 v)
theorem Tab.below {w w' : World} (h : Tab w) (hb : Below w.heap.size w w') : Tab w' := fun j v hj => by
  have h0 := h 0 0 rfl
  have hs : 0 < w.heap.size := by
    by_cases hc : 0 < w.heap.size
    · exact hc
    · simp [World.cell?, show w.heap[0]? = none from Array.getElem?_eq_none (by omega)] at h0
  rw [hb.cell (p := ⟨0, j, none⟩) hs]; exact h j v hj

section
variable {P : Program} {ops : Array Oper} {Q : Exit → Act → World → Prop} {S : World → Prop}
/-- A plan for a region whose order is drawn: each step's number, and whether it is pure (free of the others) or the only one that may come up. -/
def planB (ops : Array Oper) : List (Nat × Bool) → Array Bool → Bool
  | [], l => Region.ready .any ops l == []
  | (i, true) :: r, l => Region.free .any ops l i && (Region.ready .any ops l).contains i && planB ops r (l.setIfInBounds i true)
  | (i, false) :: r, l => Region.ready .any ops l == [i] && planB ops r (l.setIfInBounds i true)
def wpPlan (P : Program) (ops : Array Oper) (Q : Exit → Act → World → Prop) (S : World → Prop) : List (Nat × Bool) → Act → World → Prop
  | [], a, w => Q .normal a w
  | (i, true) :: r, a, w => ∃ oi v, ops[i]? = some oi ∧ YieldsIf P ops S oi v a ∧ (∀ c a w, Q (.panic c) (a.put oi.dst v) w → Q (.panic c) a w) ∧ wpPlan P ops Q S r (a.put oi.dst v) w
  | (i, false) :: r, a, w => ∃ oi, ops[i]? = some oi ∧ ∀ K : Act → World → Prop, (∀ a' w', S w' → wpPlan P ops Q S r a' w' → K a' w') → if Region.wanted oi (yielded ops a.tmps) = true then Oper.wp P oi a w K Q else K (a.put oi.dst undef) w
theorem plan_sound (hs : Region.noSelect ops = true) : ∀ (plan : List (Nat × Bool)) (m : Nat) (l : Array Bool) (a : Act) (w : World), planB ops plan l = true → ListedClosed .any ops l → S w → wpPlan P ops Q S plan a w → wpAnyLast P .any ops Q S [] (m + plan.length) l a w
  | [], m, l, a, w, h, _, _, H => wpAnyLast_done (by simpa [planB] using h) H _
  | (i, true) :: r, m, l, a, w, h, hc, hS, H => by
    simp only [planB, Bool.and_eq_true] at h
    obtain ⟨⟨h1, h2⟩, h3⟩ := h
    obtain ⟨oi, v, hi, hy, hQ, H⟩ := H
    have h2' : i ∈ Region.ready .any ops l := by simpa using h2
    exact wpAnyLast_first hi (Region.noSelect_spec hs) hQ ops.size (m + r.length) l a w (Region.free_spec hi h1) hc (fun d hd => by cases hd) h2' hy hS
      (plan_sound hs r m _ _ w h3 (hc.set h2') hS H)
  | (i, false) :: r, m, l, a, w, h, hc, hS, H => by
    simp only [planB, Bool.and_eq_true, beq_iff_eq] at h
    obtain ⟨h1, h3⟩ := h
    obtain ⟨oi, hi, H⟩ := H
    have h2' : i ∈ Region.ready .any ops l := by rw [h1]; simp
    exact wpAnyLast_ready h1 (by simp) (AllReadyL.cons hi (by simp) (fun K' hK => H K' (fun a' w' hS' hr => hK.out a' w' hS' (fun _ => plan_sound hs r m _ _ w' h3 (hc.set h2') hS' hr))) AllReadyL.nil)
theorem closed0 {md : Region.Mode} (n : Nat) : ListedClosed md ops (Array.replicate n false) := fun j oj hj hl => by
  rw [Array.getD_eq_getD_getElem?] at hl
  simp only [Array.getElem?_replicate] at hl
  split at hl <;> simp at hl
theorem plan_ (plan : List (Nat × Bool)) {id : Nat} {a : Act} {w : World} (hm : P.follows .mixedOrders = true) (hk : (Region.noSelect ops && plan.length == ops.size && planB ops plan (Array.replicate ops.size false)) = true)
    (hS : S w.drew) (h : ∀ w', S w' → wpPlan P ops Q S plan a w') : (Code.region id ops true).wp P Q a w := by
  simp only [Bool.and_eq_true, beq_iff_eq] at hk
  obtain ⟨⟨h1, h2⟩, h3⟩ := hk
  have := plan_sound (Q := Q) h1 plan 0 (Array.replicate ops.size false) a w.drew h3 (closed0 _) hS (h _ hS)
  rw [Nat.zero_add, h2] at this
  exact wp_region_last hm this
section
variable {a a1 : Act} {w : World} {r : List (Nat × Bool)} {i j : Nat} {oi : Oper} {g b z : Bool} {v : Value}
theorem plan_p (hi : ops[i]? = some oi) (hg : oi.guard = none) (hy : ∀ w, S w → (execOp a.eval oi).run P w = .ok (.value v) w)
    (ha : a.put oi.dst v = a1) (hQ : ∀ c a w, Q (.panic c) (a.put oi.dst v) w → Q (.panic c) a w) (h : wpPlan P ops Q S r a1 w) : wpPlan P ops Q S ((i, true) :: r) a w := by
  subst ha
  exact ⟨oi, v, hi, .inl ⟨by simp [Region.wanted, hg], hy⟩, hQ, h⟩
theorem plan_g (hi : ops[i]? = some oi) (hg : Region.wanted oi (yielded ops a.tmps) = g) (hy : g = true → ∀ w, S w → (execOp a.eval oi).run P w = .ok (.value v) w)
    (ha : a.put oi.dst (guarded g v) = a1) (hQ : ∀ c a w, Q (.panic c) (a.put oi.dst (guarded g v)) w → Q (.panic c) a w) (h : wpPlan P ops Q S r a1 w) : wpPlan P ops Q S ((i, true) :: r) a w := by
  subst ha
  cases g with
  | true => exact ⟨oi, _, hi, .inl ⟨hg, hy rfl⟩, hQ, h⟩
  | false => exact ⟨oi, _, hi, .inr ⟨hg, rfl⟩, hQ, h⟩
theorem pick_run {c x y : Operand} {o : Oper} (hop : o.op = .pick c x y) (hv : (a.eval c = .bool true ∧ a.eval x = v) ∨ (a.eval c = .bool false ∧ a.eval y = v)) : (execOp a.eval o).run P w = .ok (.value v) w := by
  generalize a.eval = ρ at hv ⊢
  rcases hv with ⟨h1, h2⟩ | ⟨h1, h2⟩ <;> simp [execOp, hop, h1, h2, go_sem, asBool]
theorem plan_or {c t : Operand} (hi : ops[i]? = some oi) (hop : oi.op = .pick c (.const (.bool true)) t) (hg : Region.wanted oi (yielded ops a.tmps) = g)
    (hc : g = true → a.eval c = .bool b) (ht : g = true → b = false → a.eval t = .bool z)
    (ha : a.put oi.dst (guarded g (.bool (b || z))) = a1) (hQ : ∀ c a w, Q (.panic c) (a.put oi.dst (guarded g (.bool (b || z)))) w → Q (.panic c) a w) (h : wpPlan P ops Q S r a1 w) : wpPlan P ops Q S ((i, true) :: r) a w :=
  plan_g hi hg (fun e w _ => pick_run hop (by cases b with | true => exact .inl ⟨hc e, rfl⟩ | false => exact .inr ⟨hc e, ht e rfl⟩)) ha hQ h
theorem plan_and {c t : Operand} (hi : ops[i]? = some oi) (hop : oi.op = .pick c t (.const (.bool false))) (hg : Region.wanted oi (yielded ops a.tmps) = g)
    (hc : g = true → a.eval c = .bool b) (ht : g = true → b = true → a.eval t = .bool z)
    (ha : a.put oi.dst (guarded g (.bool (b && z))) = a1) (hQ : ∀ c a w, Q (.panic c) (a.put oi.dst (guarded g (.bool (b && z)))) w → Q (.panic c) a w) (h : wpPlan P ops Q S r a1 w) : wpPlan P ops Q S ((i, true) :: r) a w :=
  plan_g hi hg (fun e w _ => pick_run hop (by cases b with | true => exact .inl ⟨hc e, ht e rfl⟩ | false => exact .inr ⟨hc e, rfl⟩)) ha hQ h
theorem wanted_none (hg : oi.guard = none) {t : Array Value} : Region.wanted oi (yielded ops t) = true := by simp [Region.wanted, hg]
/-- a call, under a guard or not, by a contract that leaves what was there as it was -/
theorem plan_c {f : FuncId} {fn : Func} {xs : Array Operand} {ts : Array TypeId} {args : Array Value} (f_ : FuncId) (hi : ops[i]? = some oi) (hop : oi.op = .call { callee := .value (.func f), args := xs, argTypes := ts }) (hff : f = f_) (hf : P.funcs[f_]? = some fn) (hname : (fn.name == "runtime.NumGoroutine") = false) (hb : fn.body.isSome = true)
    (hg : Region.wanted oi (yielded ops a.tmps) = g) (hargs : g = true → xs.map a.eval = args) (hc : g = true → Calls P f_ args w fun e w' => e = .returned v ∧ Below w.heap.size w w')
    (hS : S w) (hSB : ∀ w w', S w → Below w.heap.size w w' → S w')
    (ha : a.put oi.dst (guarded g v) = a1) (h : ∀ w', S w' → wpPlan P ops Q S r a1 w') : wpPlan P ops Q S ((i, false) :: r) a w := by
  subst ha hff
  refine ⟨oi, hi, fun K hK => ?_⟩
  cases g with
  | true =>
    refine call_ f args hg rfl ?_ ((hc rfl).mono ?_)
    · have he := enters_ hf hname hb args w
      unfold execOp
      have hargs' := hargs rfl
      simp [hop, resolve, Deferred.ofValue, invoke, Act.eval, hargs', he]
    · rintro e w' ⟨rfl, hb'⟩
      exact ⟨v, rfl, hK _ _ (hSB _ _ hS hb') (h _ (hSB _ _ hS hb'))⟩
  | false =>
    rw [if_neg (by rw [hg]; decide)]
    exact hK _ _ hS (h _ hS)
theorem plan_n (h : Q .normal a w) : wpPlan P ops Q S [] a w := h
end
/-- a region in the text's order, by the same steps -/
theorem plan_list : ∀ (plan : List (Nat × Bool)) (k : Nat) (a : Act) (w : World), plan.map (·.1) = List.range' k plan.length → k + plan.length = ops.size → S w → wpPlan P ops Q S plan a w → wpList P ops Q (ops.toList.drop k) a w
  | [], k, a, w, _, hn, _, H => by
    rw [List.drop_eq_nil_of_le (by simpa using Nat.le_of_eq hn.symm)]
    exact H
  | (i, p) :: r, k, a, w, hm, hn, hS, H => by
    simp only [List.map_cons, List.length_cons, List.range'_succ, List.cons.injEq] at hm
    obtain ⟨rfl, hm⟩ := hm
    have hlt : i < ops.toList.length := by simp at hn ⊢; omega
    have hn' : i + 1 + r.length = ops.size := by simp at hn; omega
    rw [List.drop_eq_getElem_cons hlt]
    have hoi : ops[i]? = some ops.toList[i] := by simp at hlt ⊢
    generalize ops.toList[i] = o at hoi ⊢
    cases p with
    | true =>
      obtain ⟨oi, v, hi, hy, _, H⟩ := H
      obtain rfl := Option.some.inj (hoi.symm.trans hi)
      have := plan_list r (i + 1) _ w hm hn' hS H
      unfold wpList
      rcases hy with ⟨hw, hv⟩ | ⟨hw, rfl⟩
      · rw [if_pos hw]; unfold Oper.wp; rw [hv w hS]; exact .inl this
      · rw [if_neg (by rw [hw]; decide)]; exact this
    | false =>
      obtain ⟨oi, hi, H⟩ := H
      obtain rfl := Option.some.inj (hoi.symm.trans hi)
      have h2 := H (fun a' w' => wpList P ops Q (ops.toList.drop (i + 1)) a' w') (fun a' w' hS' h' => plan_list r (i + 1) a' w' hm hn' hS' h')
      unfold wpList
      by_cases hw : Region.wanted o (yielded ops a.tmps) = true
      · rw [if_pos hw] at h2 ⊢; exact .inl h2
      · rw [if_neg hw] at h2 ⊢; exact h2
theorem plan0_ (plan : List (Nat × Bool)) {id : Nat} {a : Act} {w : World} (hk : (plan.map (·.1) == List.range ops.size && plan.length == ops.size) = true) (hS : S w) (h : ∀ w', S w' → wpPlan P ops Q S plan a w') : (Code.region id ops false).wp P Q a w := by
  simp only [Bool.and_eq_true, beq_iff_eq] at hk
  refine wp_region_list ?_
  have h1 : plan.map (·.1) = List.range' 0 plan.length := by rw [hk.1, hk.2]; exact List.range_eq_range'
  have := plan_list (Q := Q) plan 0 a w h1 (by omega) hS (h w hS)
  simpa using this
end

theorem load_ok {P : Program} {W : World} {a : Addr} {v : Value} (h : W.cell? a = some v) : (load a).run P W = .ok v W := by simp [go_sem, h]
theorem lc_run {P : Program} {W : World} {g : Nat} {t : TypeId} {cs : Array Value} (hk : W.heap[g]? = some (.cells cs t (0, 0))) : ∀ (n i : Nat) (acc : Array Value), i + n ≤ cs.size → (loadCellsFrom ⟨g, 0, none⟩ i n acc).run P W = .ok (acc ++ cs.extract i (i + n)) W
  | 0, i, acc, _ => by simp [loadCellsFrom, go_sem, Nat.min_le_left]
  | n + 1, i, acc, h => by
    have hi : i < cs.size := by omega
    have h1 : W.cell? (Addr.add ⟨g, 0, none⟩ i) = some cs[i] := by
      have := blk_cell hk i
      rw [Array.getElem?_eq_getElem hi] at this
      by_cases h0 : i = 0
      · subst h0; simpa [Addr.add] using this
      · simpa [Addr.add, h0] using this
    have h2 : acc.push cs[i] ++ cs.extract (i + 1) (i + 1 + n) = acc ++ cs.extract i (i + (n + 1)) := by
      apply Array.ext'
      simp [List.drop_eq_getElem_cons (show i < cs.toList.length by simpa using hi)]
    have h3 : (load (Addr.add ⟨g, 0, none⟩ i)).run P W = .ok cs[i] W := load_ok h1
    unfold loadCellsFrom
    rw [Sem.run_bind, h3, Result.andThen_ok, lc_run hk n (i + 1) _ (by omega), h2]
theorem load_run {ρ : Operand → Value} {P : Program} {W : World} {g : Nat} {ty t : TypeId} {cs : Array Value} {o : Oper} {p : Tmp} (hop : o.op = .load ty (.tmp p)) (hp : ρ (.tmp p) = .pointer (some ⟨g, 0, none⟩))
   (ha : (isAgg ty).run P W = .ok true W) (hz : (sizeOf ty).run P W = .ok cs.size W) (hk : W.heap[g]? = some (.cells cs t (0, 0))) : (execOp ρ o).run P W = .ok (.value (.agg cs)) W := by
  have h := lc_run (P := P) hk cs.size 0 #[] (by omega)
  unfold execOp
  simp only [hop, hp, Instr.loadAt, loadVar, loadCells]
  simp [go_sem, ha, hz, h]
theorem keep0 (w : World) (o : Obj) : Below w.heap.size w (w.alloc o) ∧ (w.alloc o).heap[w.heap.size]? = some o := ⟨below_alloc (Below.refl _ _) _, blk_new w _⟩
theorem keepB {w W w2 : World} {g : Nat} {o : Obj} (h : Below w.heap.size w W ∧ W.heap[g]? = some o) (hb : Below W.heap.size W w2) : Below w.heap.size w w2 ∧ w2.heap[g]? = some o := ⟨below_step h.1 hb, blk_below h.2 hb⟩
theorem keepD {w W : World} {g : Nat} {o : Obj} (h : Below w.heap.size w W ∧ W.heap[g]? = some o) : Below w.heap.size w W.drew ∧ W.drew.heap[g]? = some o := ⟨below_drew1 h.1, blk_drew h.2⟩
theorem bcs2 {w : World} {g : Nat} {t : TypeId} {c0 c1 : Value} (h : w.heap[g]? = some (.cells #[c0, c1] t (0, 0))) : (w.cell? ⟨g, 0, none⟩ = some c0 ∧ w.cell? ⟨g, 1, none⟩ = some c1) ∧ w.frozen? ⟨g, 0, none⟩ = false ∧ w.frozen? ⟨g, 1, none⟩ = false := ⟨⟨(blk_cell h 0).trans rfl, (blk_cell h 1).trans rfl⟩, blk_frozen h 0, blk_frozen h 1⟩
theorem bcs15 {w : World} {g : Nat} {t : TypeId} {c0 c1 c2 c3 c4 c5 c6 c7 c8 c9 c10 c11 c12 c13 c14 : Value} (h : w.heap[g]? = some (.cells #[c0, c1, c2, c3, c4, c5, c6, c7, c8, c9, c10, c11, c12, c13, c14] t (0, 0))) : (w.cell? ⟨g, 0, none⟩ = some c0 ∧ w.cell? ⟨g, 1, none⟩ = some c1 ∧ w.cell? ⟨g, 2, none⟩ = some c2 ∧ w.cell? ⟨g, 3, none⟩ = some c3 ∧ w.cell? ⟨g, 4, none⟩ = some c4 ∧ w.cell? ⟨g, 5, none⟩ = some c5 ∧ w.cell? ⟨g, 6, none⟩ = some c6 ∧ w.cell? ⟨g, 7, none⟩ = some c7 ∧ w.cell? ⟨g, 8, none⟩ = some c8 ∧ w.cell? ⟨g, 9, none⟩ = some c9 ∧ w.cell? ⟨g, 10, none⟩ = some c10 ∧ w.cell? ⟨g, 11, none⟩ = some c11 ∧ w.cell? ⟨g, 12, none⟩ = some c12 ∧ w.cell? ⟨g, 13, none⟩ = some c13 ∧ w.cell? ⟨g, 14, none⟩ = some c14) ∧ w.frozen? ⟨g, 0, none⟩ = false ∧ w.frozen? ⟨g, 1, none⟩ = false ∧ w.frozen? ⟨g, 2, none⟩ = false ∧ w.frozen? ⟨g, 3, none⟩ = false ∧ w.frozen? ⟨g, 4, none⟩ = false ∧ w.frozen? ⟨g, 5, none⟩ = false ∧ w.frozen? ⟨g, 6, none⟩ = false ∧ w.frozen? ⟨g, 7, none⟩ = false ∧ w.frozen? ⟨g, 8, none⟩ = false ∧ w.frozen? ⟨g, 9, none⟩ = false ∧ w.frozen? ⟨g, 10, none⟩ = false ∧ w.frozen? ⟨g, 11, none⟩ = false ∧ w.frozen? ⟨g, 12, none⟩ = false ∧ w.frozen? ⟨g, 13, none⟩ = false ∧ w.frozen? ⟨g, 14, none⟩ = false := ⟨⟨(blk_cell h 0).trans rfl, (blk_cell h 1).trans rfl, (blk_cell h 2).trans rfl, (blk_cell h 3).trans rfl, (blk_cell h 4).trans rfl, (blk_cell h 5).trans rfl, (blk_cell h 6).trans rfl, (blk_cell h 7).trans rfl, (blk_cell h 8).trans rfl, (blk_cell h 9).trans rfl, (blk_cell h 10).trans rfl, (blk_cell h 11).trans rfl, (blk_cell h 12).trans rfl, (blk_cell h 13).trans rfl, (blk_cell h 14).trans rfl⟩, blk_frozen h 0, blk_frozen h 1, blk_frozen h 2, blk_frozen h 3, blk_frozen h 4, blk_frozen h 5, blk_frozen h 6, blk_frozen h 7, blk_frozen h 8, blk_frozen h 9, blk_frozen h 10, blk_frozen h 11, blk_frozen h 12, blk_frozen h 13, blk_frozen h 14⟩
/-- a node's own numbers and rows -/
structure Nd where
  k : Int
  inn : List Int
  wid : Int
  size : Int
  step : Int
  gap : Int
  left : Int
  right : Int
  ws : List Int
  bs : List Int
  mult : Int
  shift : Int
  low : Int
  high : Int
  post : Int
/-- where its rows lie, and their capacities -/
structure Ns where
  ia : Option Addr
  ic : Nat
  wa : Option Addr
  wc : Nat
  ba : Option Addr
  bc : Nat
abbrev Nd.val (n : Nd) (s : Ns) : Value := .agg #[.int .i64 n.k, .slice s.ia n.inn.length s.ic, .int .i64 n.wid, .int .i64 n.size, .int .i64 n.step, .int .i64 n.gap, .int .i64 n.left, .int .i64 n.right, .slice s.wa n.ws.length s.wc, .slice s.ba n.bs.length s.bc, .int .i64 n.mult, .int .i64 n.shift, .int .i64 n.low, .int .i64 n.high, .int .i64 n.post]
abbrev Nd.box (n : Nd) (s : Ns) : Obj := .cells #[.int .i64 n.k, .slice s.ia n.inn.length s.ic, .int .i64 n.wid, .int .i64 n.size, .int .i64 n.step, .int .i64 n.gap, .int .i64 n.left, .int .i64 n.right, .slice s.wa n.ws.length s.wc, .slice s.ba n.bs.length s.bc, .int .i64 n.mult, .int .i64 n.shift, .int .i64 n.low, .int .i64 n.high, .int .i64 n.post] 29
/-- its rows read in w -/
structure Nd.At (n : Nd) (s : Ns) (w : World) : Prop where
  hi : Kd.C (Kd.int .i64) w s.ia n.inn.length n.inn
  ic : n.inn.length ≤ s.ic
  hw : Kd.C (Kd.int .i64) w s.wa n.ws.length n.ws
  wc : n.ws.length ≤ s.wc
  hb : Kd.C (Kd.int .i64) w s.ba n.bs.length n.bs
  bc : n.bs.length ≤ s.bc
theorem Nd.At.below {n : Nd} {s : Ns} {w w' : World} (h : n.At s w) (hb : Below w.heap.size w w') : n.At s w' := ⟨Kd.C_below h.hi hb, h.ic, Kd.C_below h.hw hb, h.wc, Kd.C_below h.hb hb, h.bc⟩
theorem run_box (n : Nd) (s : Ns) {W : World} {g : Nat} {o : Oper} {ρ : Operand → Value} {p : Tmp} (hop : o.op = .load 29 (.tmp p)) (hp : ρ (.tmp p) = .pointer (some ⟨g, 0, none⟩)) (hk : W.heap[g]? = some (n.box s)) :
    (execOp ρ o).run Tryd.prog W = .ok (.value (n.val s)) W := by
  have huN := Tryd.underlying29
  have h1 : (isAgg 29).run Tryd.prog W = .ok true W := by simp [go_sem, isAgg, huN]
  have h2 : (sizeOf 29).run Tryd.prog W = .ok 15 W := by unfold sizeOf typeInfo; kernel_rfl
  exact load_run (cs := #[.int .i64 n.k, .slice s.ia n.inn.length s.ic, .int .i64 n.wid, .int .i64 n.size, .int .i64 n.step, .int .i64 n.gap, .int .i64 n.left, .int .i64 n.right, .slice s.wa n.ws.length s.wc, .slice s.ba n.bs.length s.bc, .int .i64 n.mult, .int .i64 n.shift, .int .i64 n.low, .int .i64 n.high, .int .i64 n.post]) hop hp h1 h2 hk
theorem wl_box {n : Nd} {s : Ns} {ops : Array Oper} {Q : Exit → Act → World → Prop} {rest : List Oper} {a a1 : Act} {W : World} {g : Nat} {o : Oper} {p : Tmp} (hop : o.op = .load 29 (.tmp p)) (hgd : o.guard = none) (hp : a.eval (.tmp p) = .pointer (some ⟨g, 0, none⟩)) (hk : W.heap[g]? = some (n.box s))
    (ha : a.put o.dst (n.val s) = a1) (h : wpList Tryd.prog ops Q rest a1 W) : wpList Tryd.prog ops Q (o :: rest) a W := by
  subst ha
  refine wpList_plain hgd fun K hK => ?_
  unfold Oper.wp
  rw [run_box n s hop hp hk]
  exact hK _ _ h
end Go.Proofs.YtohhaonjckfkaaaDoor.Hand
