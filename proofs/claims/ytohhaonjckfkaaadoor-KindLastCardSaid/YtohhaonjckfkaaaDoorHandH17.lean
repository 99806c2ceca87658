/- Contracts of Go functions that the laws of this seat reach, by hand: each call returns what the Lean function of its name tells. Conditions: those that each theorem names, none else. -/
import Derived.Test.YtohhaonjckfkaaaDoorHandH16
namespace Go.Proofs.YtohhaonjckfkaaaDoor.Hand
open Go.RowKit Go.Proofs.YtohhaonjckfkaaaDoorW.PrintWords Go.Proofs.YtohhaonjckfkaaaDoorW.PrintLast Go.Proofs.YtohhaonjckfkaaaDoorW.PrintMore
attribute [local go_sem] max2_int min2_int max_two min_two max_three min_three max_four min_four
set_option linter.unusedVariables false
set_option linter.unusedSimpArgs false

attribute [local go_sem] guarded_true
/-- a node's rows lie in other blocks than g -/
structure Far (n : Nd) (s : Ns) (g : Nat) : Prop where
  i : ∀ ad, s.ia = some ad → 0 < n.inn.length → ad.block ≠ g
  w : ∀ ad, s.wa = some ad → 0 < n.ws.length → ad.block ≠ g
  b : ∀ ad, s.ba = some ad → 0 < n.bs.length → ad.block ≠ g
theorem Nd.At.keep {n : Nd} {s : Ns} {W W' : World} {g : Nat} (h : n.At s W) (hk : KeepBut W W' g none) (hf : Far n s g) : n.At s W' :=
  ⟨Kd.C_keep (0 : Int) h.hi hk hf.i, h.ic, Kd.C_keep (0 : Int) h.hw hk hf.w, h.wc, Kd.C_keep (0 : Int) h.hb hk hf.b, h.bc⟩
/-- the elder blocks that are not those of a row that came in -/
def Old (w : World) (A1 : Option Addr) (n : Nat) (k : Nat) : Prop := k < w.heap.size ∧ ∀ ad, A1 = some ad → 0 < n → ad.block ≠ k
/-- what a function knows whose node lies in block b, its result in block c, and whose Row of numbers lies in block g -/
structure Mst (X : Nat → Prop) (w0 w W : World) (g : Nat) (L : List Int) (b c : Nat) (n : Nd) (s : Ns) : Prop where
  row : RowAt w0 W g L
  below : Below w0.heap.size w0 W
  keep : KeepBut w W g none
  box : W.heap[b]? = some (n.box s)
  res : ∃ cs, W.heap[c]? = some (.cells cs 29 (0, 0)) ∧ cs.size = 15
  gw : g < w.heap.size
  bw : w.heap.size ≤ b
  cw : w.heap.size ≤ c
  bc : b ≠ c
  at_ : n.At s W
  fg : Far n s g
  fb : Far n s b
  fc : Far n s c
  fo : ∀ k, X k → Far n s k
section
variable {X : Nat → Prop} {w0 w W W' : World} {g : Nat} {L : List Int} {b c : Nat} {n : Nd} {s : Ns}
theorem Mst.next (h : Mst X w0 w W g L b c n s) (hI : RowAt w0 W' g L) (hB : Below w0.heap.size w0 W') (hK : KeepBut W W' g none) : Mst X w0 w W' g L b c n s := by
  obtain ⟨cs, h1, h2⟩ := h.res
  have hg := h.gw
  have hb := h.bw
  have hc := h.cw
  exact ⟨hI, hB, KeepBut.trans h.keep hK (.inl rfl), (hK.2 b (blk_lt h.box) (by omega) (by simp)).trans h.box, ⟨cs, (hK.2 c (blk_lt h1) (by omega) (by simp)).trans h1, h2⟩, h.gw, h.bw, h.cw, h.bc, h.at_.keep hK h.fg, h.fg, h.fb, h.fc, h.fo⟩
theorem Mst.bel (h : Mst X w0 w W g L b c n s) (hb : Below W.heap.size W W') : Mst X w0 w W' g L b c n s := by
  obtain ⟨cs, h1, h2⟩ := h.res
  obtain ⟨a_, hI, ha⟩ := h.row
  exact ⟨⟨a_, hI.below hb, ha⟩, below_step h.below hb, ⟨Nat.le_trans h.keep.1 hb.size, fun i hi h0 hn => (hb.block i (Nat.lt_of_lt_of_le hi h.keep.1)).trans (h.keep.2 i hi h0 hn)⟩, blk_below h.box hb, ⟨cs, blk_below h1 hb, h2⟩, h.gw, h.bw, h.cw, h.bc, h.at_.below hb, h.fg, h.fb, h.fc, h.fo⟩
/-- a cell of the node's block is written; its rows are told anew -/
theorem Mst.put (h : Mst X w0 w W g L b c n s) (hw0 : w0.heap.size ≤ w.heap.size) (j : Nat) (v : Value) (n' : Nd) (s' : Ns) (e : (n.cells s).setIfInBounds j v = n'.cells s') (hA : n'.At s' W) (fg : Far n' s' g) (fb : Far n' s' b) (fc : Far n' s' c) (fo : ∀ k, X k → Far n' s' k) : Mst X w0 w (W.setCell ⟨b, j, none⟩ v) g L b c n' s' := by
  obtain ⟨cs, h1, h2⟩ := h.res
  obtain ⟨a_, hI, ha⟩ := h.row
  have hg := h.gw
  have hb := h.bw
  have hne := h.bc
  exact ⟨⟨a_, IsS69.far hI (p := ⟨b, j, none⟩) (by show g ≠ b; omega) v, ha⟩, below_set h.below (by omega), keep_far h.keep (p := ⟨b, j, none⟩) hb v, blk_put h.box j v e, ⟨cs, blk_far h1 (p := ⟨b, j, none⟩) (by show c ≠ b; omega) v, h2⟩, h.gw, h.bw, h.cw, h.bc, hA.keep (KeepBut.set_ (KeepBut.refl W b none) j v) fb, fg, fb, fc, fo⟩
/-- a number of the node is written -/
theorem Mst.num (h : Mst X w0 w W g L b c n s) (hw0 : w0.heap.size ≤ w.heap.size) (j : Nat) (v : Value) (n' : Nd) (e : (n.cells s).setIfInBounds j v = n'.cells s) (e1 : n'.inn = n.inn) (e2 : n'.ws = n.ws) (e3 : n'.bs = n.bs) : Mst X w0 w (W.setCell ⟨b, j, none⟩ v) g L b c n' s := by
  have hA : n'.At s W := ⟨e1 ▸ h.at_.hi, e1 ▸ h.at_.ic, e2 ▸ h.at_.hw, e2 ▸ h.at_.wc, e3 ▸ h.at_.hb, e3 ▸ h.at_.bc⟩
  have hF : ∀ k, Far n s k → Far n' s k := fun k f => ⟨e1 ▸ f.i, e2 ▸ f.w, e3 ▸ f.b⟩
  exact h.put hw0 j v n' s e hA (hF g h.fg) (hF b h.fb) (hF c h.fc) (fun k hk => hF k (h.fo k hk))
theorem keepRow (W : World) (g : Nat) (cs : Array Value) : KeepBut W (W.setRow g cs) g none := ⟨by rw [setRow_size]; exact Nat.le_refl _, fun i hi h0 hn => setRow_other W g i cs h0⟩
/-- the node's block is written whole -/
theorem Mst.whole (h : Mst X w0 w W g L b c n s) (hw0 : w0.heap.size ≤ w.heap.size) (n' : Nd) (s' : Ns) (hA : n'.At s' W) (fg : Far n' s' g) (fb : Far n' s' b) (fc : Far n' s' c) (fo : ∀ k, X k → Far n' s' k) : Mst X w0 w (W.setRow b (n'.cells s')) g L b c n' s' := by
  obtain ⟨cs, h1, h2⟩ := h.res
  have hg := h.gw
  have hb := h.bw
  have hne := h.bc
  exact ⟨h.row.row_ (by omega), below_setRow h.below (by omega) _, setRow_keep h.keep hb, setRow_box h.box, ⟨cs, setRow_far h1 (by omega), h2⟩, h.gw, h.bw, h.cw, h.bc, hA.keep (keepRow W b _) fb, fg, fb, fc, fo⟩
end
end Go.Proofs.YtohhaonjckfkaaaDoor.Hand
