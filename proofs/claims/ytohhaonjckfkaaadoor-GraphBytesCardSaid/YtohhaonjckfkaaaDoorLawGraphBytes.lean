/- The law GraphBytes returns true for every input, the table kind.kinds read as its initialiser lays it: the row's statement and its card, over the contract of this session's own texts. Conditions: none else. -/
import Derived.Test.YtohhaonjckfkaaaDoorCards
import Derived.Test.YtohhaonjckfkaaaDoorTie
import Derived.Test.YtohhaonjckfkaaaDoorZGraphBytes5
import Derived.WalkKit
import Derived.ProofKit
import Derived.OpenShut
import Derived.ShutString
import Derived.ChangeOld
import Derived.Below
import Derived.SizedLaws
import Derived.Deep.DeepHandedRow
import Derived.Lib.LaidTab
import Derived.ChangeMaps5
import Derived.Deep.Slices
import Derived.Laws.IdiomArrays
namespace Go.Proofs.YtohhaonjckfkaaaDoor.graphBytes
open Go.ChangeShapes Go.WideShapes Go.ChangeAt Go.RowKit
set_option linter.unusedVariables false
set_option linter.unusedSimpArgs false
theorem own : ownKnob Tryd.prog.godebug = none := by kernel_rfl
theorem laidOut : laidOutB Tryd.prog = true := by kernel_rfl
theorem gTab : Tryd.prog.globalNamed "earshot/kind.kinds" = some 0 := by kernel_rfl
theorem gTabType : (Tryd.prog.globals[0]?).map (·.type) = some 98 := by kernel_rfl
theorem cellsT : Tryd.prog.cellsOf 98 = 13 := by kernel_rfl
theorem cellsI : Tryd.prog.cellsOf 3 = 1 := by kernel_rfl
theorem table {W : World} (h : laidMetH Tryd.prog Rows.graphBytesRow.laid W) : Lib.TabIs Tryd.prog W "earshot/kind.kinds" .i64 [0, 7, 5, 1, 1, 0, 6, 8, 8, 32, 64, 0, 16] :=
  Lib.tabIs_of_head (rest := []) gTab gTabType Tryd.underlying98 Tryd.underlying3 cellsI cellsT h
theorem tab {W : World} (h : laidMetH Tryd.prog Rows.graphBytesRow.laid W) : Aw.Tab W := fun j v hj => by
  have hlt : j < ([0, 7, 5, 1, 1, 0, 6, 8, 8, 32, 64, 0, 16] : List Int).length := (List.getElem?_eq_some_iff.mp hj).1
  have := (table h).cell gTab j hlt
  rw [this, List.getD_eq_getElem?_getD, hj]
  rfl
def IsRow (k : IntKind) (w : World) (a : Option Addr) (len cap : Nat) (zs : List Int) : Prop :=
  (a = none ∧ len = 0 ∧ cap = 0 ∧ zs = []) ∨
  ∃ x, a = some x ∧ len ≤ cap ∧ cap ≤ maxLen ∧ zs.length = cap ∧ (∀ i, i < zs.length → w.cell? (x.add i) = some (.int k (zs.getD i 0))) ∧ ∀ n ∈ zs, (Lit.int k n).wf = true
set_option maxRecDepth 100000 in
set_option maxHeartbeats 1600000 in
theorem contract (H : Type) (enc : TypeId × Value → H) (W : World) (base : Nat) (args : Array Value) (ds gs : List (DataW H)) (before : List MemPlace)
    (hval : ∀ (j : Nat) t v, Tryd.f10.params[j]? = some t → args[j]? = some v → Value.okWide Tryd.prog W .any base t v)
    (hW : DataW.Whole enc Tryd.prog Tryd.f10.params.toList Rows.graphBytesSpec.vars false W args.toList ds gs before) (hL : laidMetH Tryd.prog Rows.graphBytesRow.laid W) :
    Calls Tryd.prog 10 args W fun e W' => ∃ v, e = .returned v ∧ Rows.graphBytesSpec.post enc Tryd.prog Tryd.f10 false true false false W args v W' := by
  have hW' := hW
  obtain ⟨p, q, hA0, hV, rfl, hfz, hnd⟩ := hW
  have hA : DataW.TrodAll enc Tryd.prog W 0 (fun _ => true) true Tryd.f10.params.toList args.toList ds p := hA0
  rw [Tryd.params10] at hA hval
  obtain ⟨v0, vs0, d0, ds0, p0, q0, hargs, rfl, rfl, h0, r0⟩ := trodAll_cons hA
  obtain ⟨v1, vs1, d1, ds1, p1, q1, rfl, rfl, rfl, h1, r1⟩ := trodAll_cons r0
  obtain ⟨rfl, rfl, rfl⟩ := trodAll_nil r1
  obtain rfl : args = #[v0, v1] := by cases args; simp_all
  obtain ⟨rfl, rfl⟩ := trodVars_none hV
  obtain ⟨a0, rfl, rfl, rfl, w0⟩ := Go.ChangeMaps.open_string Tryd.underlying9 (hval 0 9 v0 rfl rfl) h0
  obtain ⟨a1, len1, cap1, rfl⟩ := okWide_slice Tryd.underlying58 (hval 1 58 v1 rfl rfl)
  have k1 := h1
  have lt1 : ∀ x ∈ p1, x.block < W.heap.size := by obtain ⟨m, hm⟩ := k1; exact DataW.trod_lt m _ _ _ hm
  obtain ⟨z1, w1⟩ : ∃ Z : Nat → Int × Int × Int, (a1 = none ∧ len1 = 0 ∧ cap1 = 0) ∨ ∃ x, a1 = some x ∧ len1 ≤ cap1 ∧ ∀ i, i < len1 → W.cell? ((x.add (i * 3)).add 0) = some (.int .i64 (Z i).1) ∧ W.cell? ((x.add (i * 3)).add 1) = some (.int .i64 (Z i).2.1) ∧ W.cell? ((x.add (i * 3)).add 2) = some (.int .i64 (Z i).2.2) := by
    obtain ⟨fuel, hf⟩ := h1
    rcases Go.Deep.open_slice Tryd.underlying58 hf with ⟨hcs, _⟩ | ⟨x, l, c, m, n, D, Pl, hcs, _, hl, hm, hmm, _, hx⟩
    · simp [Value.cells] at hcs
      obtain ⟨rfl, rfl, rfl⟩ := hcs
      exact ⟨fun _ => (0, 0, 0), .inl ⟨rfl, rfl, rfl⟩⟩
    · simp [Value.cells] at hcs
      obtain ⟨rfl, rfl, rfl⟩ := hcs
      obtain ⟨Z, hZ⟩ := Go.Deep.choose_lt (α := Int × Int × Int) (p := fun i z => W.cell? ((x.add (i * 3)).add 0) = some (.int .i64 z.1) ∧ W.cell? ((x.add (i * 3)).add 1) = some (.int .i64 z.2.1) ∧ W.cell? ((x.add (i * 3)).add 2) = some (.int .i64 z.2.2)) (n := len1) (fun i hi => by
        obtain ⟨cs, g1, g2⟩ := hx i (by rw [hmm]; split <;> omega)
        rw [show Tryd.prog.cellsOf 62 = 3 by kernel_rfl] at g1
        obtain ⟨_, hlen, hg⟩ := World.cells?_some g1
        obtain ⟨c0, c1, c2, rfl⟩ : ∃ c0 c1 c2, cs = [c0, c1, c2] := by
          match cs, hlen with
          | [c0, c1, c2], _ => exact ⟨c0, c1, c2, rfl⟩
        obtain ⟨y0, y1, y2, n', _, t0, t1, t2⟩ := trod_array3 Tryd.underlying62 (by kernel_rfl) g2
        obtain ⟨b0, e0, _, _⟩ := DataW.trod_int Tryd.underlying3 t0
        obtain rfl : c0 = .int .i64 b0 := by simpa using e0
        obtain ⟨b1, e1, _, _⟩ := DataW.trod_int Tryd.underlying3 t1
        obtain rfl : c1 = .int .i64 b1 := by simpa using e1
        obtain ⟨b2, e2, _, _⟩ := DataW.trod_int Tryd.underlying3 t2
        obtain rfl : c2 = .int .i64 b2 := by simpa using e2
        exact ⟨(b0, b1, b2), hg 0 (by decide), hg 1 (by decide), hg 2 (by decide)⟩)
      exact ⟨Z, .inr ⟨_, rfl, hl, hZ⟩⟩
  clear hA0
  refine ((Aw.Cg.calls (Aw.GraphBytes_c Aw.KTab a0 ((List.range len1).map z1)) (fun _ _ _ _ h => Aw.RS_true h) _ (tab hL) (Aw.RSL_cons (Aw.RS_str a0) (Aw.RSL_cons (Aw.RS_d (Aw.Rd_t3 z1 w1)) Aw.RSL_nil)))).mono fun e W' ⟨he, bel⟩ => ?_
  subst he
  exact ⟨_, rfl, _, _, _, [], _, [], hW', trodAll_mk1 (shut_bool Tryd.underlying4 _), (trodAll_cons_mk (Go.ChangeMaps.shut_string Tryd.underlying9 w0) (trodAll_cons_mk (Below.trod laidOut (by kernel_rfl) (of_decide_eq_true (by kernel_rfl)) k1 bel lt1) trodAll_mk0)), rfl, bel.frame _, fun h => by cases h⟩
/-- A world for the witness: the settled one, the table holding what its initialiser lays. -/
noncomputable def laidWorld (os : Os) : World :=
  { World.holding Tryd.prog os ⟨#[], #[], []⟩ with heap := (World.holding Tryd.prog os ⟨#[], #[], []⟩).heap.modify 0 fun
      | .cells _ t frozen => .cells #[.int .i64 0, .int .i64 7, .int .i64 5, .int .i64 1, .int .i64 1, .int .i64 0, .int .i64 6, .int .i64 8, .int .i64 8, .int .i64 32, .int .i64 64, .int .i64 0, .int .i64 16] t frozen
      | o => o }
theorem laid_met (os : Os) : laidMet Tryd.prog Rows.graphBytesRow.laid ((laidWorld os).forCall (fun _ _ => 0) ⟨#[], #[.string "".toUTF8, .slice none 0 0], []⟩).memory :=
  laidMet_of_run' 8 (by kernel_rfl) (by kernel_rfl)
theorem reads (os : Os) {H : Type} (enc : TypeId × Value → H) : ∃ places, DataW.whole enc Tryd.prog ((laidWorld os).forCall (fun _ _ => 0) ⟨#[], #[.string "".toUTF8, .slice none 0 0], []⟩).memory Tryd.f10.params.toList Rows.graphBytesSpec.vars false (#[.string "".toUTF8, .slice none 0 0] : Array Value).toList 8 = some ([.lit (.string []), .nil], [], places) :=
  ⟨[], by kernel_rfl⟩
set_option maxRecDepth 100000 in
theorem lifted (os : Os) (started : os.Started) (H : Type) (enc : TypeId × Value → H) (F : Stop.Interp) :
    ReturnsInHanded {} Tryd.checked os 10 .any ((OpenSpec.ofChange Rows.graphBytesSpec).preRow enc Tryd.prog Tryd.f10 Rows.graphBytesRow.domain false Rows.graphBytesRow.laid) (((OpenSpec.ofChange Rows.graphBytesSpec).at F).post enc Tryd.prog Tryd.f10 false true false false) := by
  obtain ⟨places, hx⟩ := reads os enc
  refine returnsInHanded_of_row (C := Tryd.checked) (s := OpenSpec.ofChange Rows.graphBytesSpec) own started (by kernel_rfl) Tryd.func10
    (witness_row_at (enc := enc) (C := Tryd.checked) false (laidWorld os) #[.string "".toUTF8, .slice none 0 0] rfl (by kernel_rfl) (by kernel_rfl) (by kernel_rfl)
      (OpenSpec.preRow_of_cond 8 hx (by kernel_rfl) (fun k hk => by cases hk) (by kernel_rfl) (laid_met os))) ?_
  intro W base args ds gs before hval hW _ _ _ hL _ _
  exact contract H enc W base args ds gs before hval hW hL
theorem said : Rows.GraphBytesSaid :=
  OpenClaim.holds_of_cond 10 Tryd.f10 rfl rfl rfl rfl rfl rfl rfl ⟨rfl, rfl, rfl, rfl, rfl⟩ rfl rfl rfl rfl rfl (by kernel_rfl) Tryd.func10 (by kernel_rfl)
    (of_decide_eq_true (by kernel_rfl)) (by unfold Func.isWrapper; first | (rw [if_pos (by decide +kernel)]; kernel_rfl) | (rw [if_neg (by decide +kernel)]; exact ⟨rfl, rfl⟩))
    (fun os started H enc _ F => by rw [OpenClaim.pre_eq_preRow]; exact lifted os started H enc F)
theorem plain (f : FuncId) (fn : Func) (hf : Tryd.pinned.checked.prog.funcNamed "earshot/earshotlaw16.GraphBytes" = some f) (hfn : Tryd.pinned.checked.prog.funcs[f]? = some fn) :
    false = Tryd.pinned.checked.prog.looks [] ∧ ∀ (j : Nat) t, fn.params[j]? = some t → Tryd.pinned.checked.prog.wantsStandIn t = false := by
  obtain rfl : f = 10 := Option.some.inj ((show Tryd.prog.funcNamed "earshot/earshotlaw16.GraphBytes" = some 10 by kernel_rfl).symm.trans hf) |>.symm
  obtain rfl : fn = Tryd.f10 := (Option.some.inj (Tryd.func10.symm.trans hfn)).symm
  refine ⟨by kernel_rfl, fun j t ht => ?_⟩
  rw [Tryd.params10] at ht
  have hm := Array.mem_of_getElem? ht
  have h_ : t = 9 ∨ t = 58 := by simpa using hm
  rcases h_ with rfl | rfl
  · exact (show Tryd.prog.wantsStandIn 9 = false by kernel_rfl)
  · exact (show Tryd.prog.wantsStandIn 58 = false by kernel_rfl)
theorem card : Rows.GraphBytesCardSaid :=
  Claim7.holds_tied_plain_at .later [] _ _ _ _ said (fun _ h => by cases h) (by kernel_rfl) (fun _ h => by cases h) graphBytes_row_tie rfl ⟨rfl, rfl⟩ (by kernel_rfl) rfl plain (by kernel_rfl)
#print axioms card
end Go.Proofs.YtohhaonjckfkaaaDoor.graphBytes
namespace Go.Proofs.YtohhaonjckfkaaaDoor
/-- The card, under a short name, for the claim. -/
theorem graphBytes_holds : Rows.GraphBytesCardSaid := graphBytes.card
end Go.Proofs.YtohhaonjckfkaaaDoor
