/- Contracts of Go functions that the laws of this seat reach, by hand: each call returns what the Lean function of its name tells. Conditions: those that each theorem names, none else. -/
import Derived.Test.YtohhaonjckfkaaaDoorHandH14
namespace Go.Proofs.YtohhaonjckfkaaaDoor.Hand
open Go.RowKit Go.Proofs.YtohhaonjckfkaaaDoorW.PrintWords Go.Proofs.YtohhaonjckfkaaaDoorW.PrintLast Go.Proofs.YtohhaonjckfkaaaDoorW.PrintMore
attribute [local go_sem] max2_int min2_int max_two min_two max_three min_three max_four min_four
set_option linter.unusedVariables false
set_option linter.unusedSimpArgs false

attribute [local go_sem] guarded_true
/-- what a function knows whose node lies in block b (its result's block behind it), and whose Row of numbers lies in block g -/
structure Wst (w0 w W : World) (g : Nat) (L : List Int) (b : Nat) (n : Nd) (s : Ns) : Prop where
  row : RowAt w0 W g L
  below : Below w0.heap.size w0 W
  keep : KeepBut w W g none
  box : W.heap[b]? = some (n.box s)
  res : ∃ cs, W.heap[b + 1]? = some (.cells cs 29 (0, 0)) ∧ cs.size = 15
  gb : g < b
  wb : w.heap.size ≤ b
theorem Wst.next {w0 w W W' : World} {g : Nat} {L : List Int} {b : Nat} {n : Nd} {s : Ns} (h : Wst w0 w W g L b n s) (hI : RowAt w0 W' g L) (hB : Below w0.heap.size w0 W') (hK : KeepBut W W' g none) : Wst w0 w W' g L b n s := by
  obtain ⟨cs, h1, h2⟩ := h.res
  have hg := h.gb
  exact ⟨hI, hB, KeepBut.trans h.keep hK (.inl rfl), (hK.2 b (blk_lt h.box) (by omega) (by simp)).trans h.box, ⟨cs, (hK.2 (b + 1) (blk_lt h1) (by omega) (by simp)).trans h1, h2⟩, h.gb, h.wb⟩
theorem Wst.put {w0 w W : World} {g : Nat} {L : List Int} {b : Nat} {n : Nd} {s : Ns} (h : Wst w0 w W g L b n s) (hw0 : w0.heap.size ≤ w.heap.size) (j : Nat) (v : Value) (n' : Nd) (s' : Ns) (e : (n.cells s).setIfInBounds j v = n'.cells s') : Wst w0 w (W.setCell ⟨b, j, none⟩ v) g L b n' s' := by
  obtain ⟨cs, h1, h2⟩ := h.res
  obtain ⟨at_, hI, ha⟩ := h.row
  have hg := h.gb
  have hwb := h.wb
  exact ⟨⟨at_, IsS69.far hI (p := ⟨b, j, none⟩) (by show g ≠ b; omega) v, ha⟩, below_set h.below (by omega), keep_far h.keep (p := ⟨b, j, none⟩) hwb v, blk_put h.box j v e, ⟨cs, blk_far h1 (p := ⟨b, j, none⟩) (by show b + 1 ≠ b; omega) v, h2⟩, h.gb, h.wb⟩
/-- a number stored into a cell of a variable -/
theorem wl_put {ops : Array Oper} {Q : Exit → Act → World → Prop} {rest : List Oper} {a a1 : Act} {W : World} {b j : Nat} {t : TypeId} {cs : Array Value} {o : Oper} {p : Tmp} {x : Operand} {y : Int} (hop : o.op = .store 3 (.tmp p) x) (hgd : o.guard = none) (hp : a.eval (.tmp p) = .pointer (some ⟨b, j, none⟩)) (hx : a.eval x = .int .i64 y)
    (hk : W.heap[b]? = some (.cells cs t (0, 0))) (hj : j < cs.size) (ha : a.put o.dst undef = a1) (h : ∀ W1, W1 = W.setCell ⟨b, j, none⟩ (.int .i64 y) → wpList Tryd.prog ops Q rest a1 W1) : wpList Tryd.prog ops Q (o :: rest) a W := by
  subst ha
  refine wpList_plain hgd fun K hK => ?_
  have hc : W.cell? ⟨b, j, none⟩ = some cs[j] := by rw [blk_cell hk j, Array.getElem?_eq_getElem hj]
  have hf : W.frozen? ⟨b, j, none⟩ = false := blk_frozen hk j
  have hu := Tryd.underlying3
  have hr : (execOp a.eval o).run Tryd.prog W = .ok .skip (W.setCell ⟨b, j, none⟩ (.int .i64 y)) := by
    have hsz : (sizeOf 3).run Tryd.prog W = .ok 1 W := by unfold sizeOf typeInfo; kernel_rfl
    generalize a.eval = ρ at hp hx ⊢
    unfold execOp
    simp only [hop, hp, hx]
    simp [go_sem, Instr.storeAt, hsz, hc, hf]
  unfold Oper.wp
  rw [hr]
  exact hK _ _ (h _ rfl)
end Go.Proofs.YtohhaonjckfkaaaDoor.Hand
