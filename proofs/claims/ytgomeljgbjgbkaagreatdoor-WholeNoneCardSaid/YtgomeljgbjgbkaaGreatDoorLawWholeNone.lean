/- The law WholeNone returns true for every input, the table kind.kinds read as its initialiser lays it: the row's statement and its card, over the contract of this session's own texts. Conditions: none else. -/
import Derived.Test.YtgomeljgbjgbkaaGreatDoorCards
import Derived.Test.YtgomeljgbjgbkaaGreatDoorTie
import Derived.Test.YtgomeljgbjgbkaaGreatDoorZWholeNone7
import Derived.WalkKit
import Derived.ProofKit
import Derived.OpenShut
import Derived.ShutString
import Derived.ChangeOld
import Derived.Below
import Derived.SizedLaws
import Derived.Deep.DeepHandedRow
import Derived.Lib.LaidTab
import Derived.ChangeMaps5
import Derived.Deep.Slices
import Derived.Laws.IdiomArrays
namespace Go.Proofs.YtgomeljgbjgbkaaGreatDoor.wholeNone
open Go.ChangeShapes Go.WideShapes Go.ChangeAt Go.RowKit
set_option linter.unusedVariables false
set_option linter.unusedSimpArgs false
theorem own : ownKnob Tryz.prog.godebug = none := by kernel_rfl
theorem laidOut : laidOutB Tryz.prog = true := by kernel_rfl
theorem gTab : Tryz.prog.globalNamed "earshot/kind.kinds" = some 0 := by kernel_rfl
theorem gTabType : (Tryz.prog.globals[0]?).map (·.type) = some 108 := by kernel_rfl
theorem cellsT : Tryz.prog.cellsOf 108 = 13 := by kernel_rfl
theorem cellsI : Tryz.prog.cellsOf 3 = 1 := by kernel_rfl
theorem table {W : World} (h : laidMetH Tryz.prog Rows.wholeNoneRow.laid W) : Lib.TabIs Tryz.prog W "earshot/kind.kinds" .i64 [0, 7, 5, 1, 1, 0, 6, 8, 8, 32, 64, 0, 16] :=
  Lib.tabIs_of_head (rest := []) gTab gTabType Tryz.underlying108 Tryz.underlying3 cellsI cellsT h
theorem tab {W : World} (h : laidMetH Tryz.prog Rows.wholeNoneRow.laid W) : Aw.Tab W := fun j v hj => by
  have hlt : j < ([0, 7, 5, 1, 1, 0, 6, 8, 8, 32, 64, 0, 16] : List Int).length := (List.getElem?_eq_some_iff.mp hj).1
  have := (table h).cell gTab j hlt
  rw [this, List.getD_eq_getElem?_getD, hj]
  rfl
def IsRow (k : IntKind) (w : World) (a : Option Addr) (len cap : Nat) (zs : List Int) : Prop :=
  (a = none ∧ len = 0 ∧ cap = 0 ∧ zs = []) ∨
  ∃ x, a = some x ∧ len ≤ cap ∧ cap ≤ maxLen ∧ zs.length = cap ∧ (∀ i, i < zs.length → w.cell? (x.add i) = some (.int k (zs.getD i 0))) ∧ ∀ n ∈ zs, (Lit.int k n).wf = true
theorem arr3 {cs : Array Value} (h : cs.size = 3) : ∃ c0 c1 c2, cs = #[c0, c1, c2] := by
  obtain ⟨l⟩ := cs
  simp only [List.size_toArray] at h
  obtain ⟨c0, l, rfl⟩ := List.exists_cons_of_length_eq_add_one h
  replace h : l.length = 2 := by simpa using h
  obtain ⟨c1, l, rfl⟩ := List.exists_cons_of_length_eq_add_one h
  replace h : l.length = 1 := by simpa using h
  obtain ⟨c2, l, rfl⟩ := List.exists_cons_of_length_eq_add_one h
  replace h : l.length = 0 := by simpa using h
  obtain rfl := List.eq_nil_of_length_eq_zero h
  exact ⟨c0, c1, c2, rfl⟩
set_option maxRecDepth 100000 in
set_option maxHeartbeats 1600000 in
theorem contract (H : Type) (enc : TypeId × Value → H) (W : World) (base : Nat) (args : Array Value) (ds gs : List (DataW H)) (before : List MemPlace)
    (hval : ∀ (j : Nat) t v, Tryz.f4.params[j]? = some t → args[j]? = some v → Value.okWide Tryz.prog W .any base t v)
    (hW : DataW.Whole enc Tryz.prog Tryz.f4.params.toList Rows.wholeNoneSpec.vars false W args.toList ds gs before) (hL : laidMetH Tryz.prog Rows.wholeNoneRow.laid W) :
    Calls Tryz.prog 4 args W fun e W' => ∃ v, e = .returned v ∧ Rows.wholeNoneSpec.post enc Tryz.prog Tryz.f4 false true false false W args v W' := by
  have hW' := hW
  obtain ⟨p, q, hA0, hV, rfl, hfz, hnd⟩ := hW
  have hA : DataW.TrodAll enc Tryz.prog W 0 (fun _ => true) true Tryz.f4.params.toList args.toList ds p := hA0
  rw [Tryz.params4] at hA hval
  obtain ⟨v0, vs0, d0, ds0, p0, q0, hargs, rfl, rfl, h0, r0⟩ := trodAll_cons hA
  obtain ⟨v1, vs1, d1, ds1, p1, q1, rfl, rfl, rfl, h1, r1⟩ := trodAll_cons r0
  obtain ⟨v2, vs2, d2, ds2, p2, q2, rfl, rfl, rfl, h2, r2⟩ := trodAll_cons r1
  obtain ⟨rfl, rfl, rfl⟩ := trodAll_nil r2
  obtain rfl : args = #[v0, v1, v2] := by cases args; simp_all
  obtain ⟨rfl, rfl⟩ := trodVars_none hV
  obtain ⟨cs0, rfl, sz0⟩ : ∃ cs, v0 = .agg cs ∧ cs.size = Tryz.prog.cellsOf 24 := by
    have hv_ := (hval 0 24 v0 rfl rfl)
    simp only [Value.okWide, Tryz.underlying24] at hv_
    obtain ⟨cs, h1, h2, _⟩ := hv_
    exact ⟨cs, h1, h2⟩
  have k0 := h0
  have lt0 : ∀ x ∈ p0, x.block < W.heap.size := by obtain ⟨m, hm⟩ := k0; exact DataW.trod_lt m _ _ _ hm
  obtain ⟨u0_0, u0_1, u0_2, rfl⟩ := arr3 (sz0.trans (by kernel_rfl))
  obtain ⟨fuel0, hf0_⟩ := h0
  replace hf0_ : DataW.trod enc Tryz.prog W 0 (fun _ => true) true fuel0 24 [u0_0, u0_1, u0_2] = some (d0, p0) := hf0_
  obtain ⟨xs1, m1, _, _, _, hl1, hf1⟩ := DataW.trod_struct Tryz.underlying24 hf0_
  have g1_0 := hf1 0 _ rfl
  obtain ⟨y1_0, ey1_0⟩ : ∃ y, xs1[0]? = some y := ⟨_, List.getElem?_eq_getElem (by rw [hl1]; decide)⟩
  rw [ey1_0] at g1_0
  replace g1_0 : DataW.trod enc Tryz.prog W 0 (fun _ => true) true m1 22 [u0_0] = some y1_0 := by rw [← g1_0]; congr 1
  obtain ⟨a0_0, len0_0, cap0_0, z0_0, rfl, w0_0⟩ : ∃ a len cap zs, u0_0 = .slice a len cap ∧ IsRow .i64 W a len cap zs := by
    rcases open_ints Tryz.underlying22 Tryz.underlying3 (by kernel_rfl) g1_0 with ⟨hcs, _⟩ | ⟨x, l, c, zs, hcs, _, hl, hm, hz, _, hcell, hwz⟩
    · obtain rfl : u0_0 = .slice none 0 0 := by simpa using hcs
      exact ⟨_, _, _, [], rfl, .inl ⟨rfl, rfl, rfl, rfl⟩⟩
    · obtain rfl : u0_0 = .slice (some x) l c := by simpa using hcs
      exact ⟨_, _, _, zs, rfl, .inr ⟨_, rfl, hl, hm, by simpa using hz, hcell, hwz⟩⟩
  have g1_1 := hf1 1 _ rfl
  obtain ⟨y1_1, ey1_1⟩ : ∃ y, xs1[1]? = some y := ⟨_, List.getElem?_eq_getElem (by rw [hl1]; decide)⟩
  rw [ey1_1] at g1_1
  replace g1_1 : DataW.trod enc Tryz.prog W 0 (fun _ => true) true m1 22 [u0_1] = some y1_1 := by rw [← g1_1]; congr 1
  obtain ⟨a0_1, len0_1, cap0_1, z0_1, rfl, w0_1⟩ : ∃ a len cap zs, u0_1 = .slice a len cap ∧ IsRow .i64 W a len cap zs := by
    rcases open_ints Tryz.underlying22 Tryz.underlying3 (by kernel_rfl) g1_1 with ⟨hcs, _⟩ | ⟨x, l, c, zs, hcs, _, hl, hm, hz, _, hcell, hwz⟩
    · obtain rfl : u0_1 = .slice none 0 0 := by simpa using hcs
      exact ⟨_, _, _, [], rfl, .inl ⟨rfl, rfl, rfl, rfl⟩⟩
    · obtain rfl : u0_1 = .slice (some x) l c := by simpa using hcs
      exact ⟨_, _, _, zs, rfl, .inr ⟨_, rfl, hl, hm, by simpa using hz, hcell, hwz⟩⟩
  have g1_2 := hf1 2 _ rfl
  obtain ⟨y1_2, ey1_2⟩ : ∃ y, xs1[2]? = some y := ⟨_, List.getElem?_eq_getElem (by rw [hl1]; decide)⟩
  rw [ey1_2] at g1_2
  replace g1_2 : DataW.trod enc Tryz.prog W 0 (fun _ => true) true m1 3 [u0_2] = some y1_2 := by rw [← g1_2]; congr 1
  obtain ⟨a0_2, e4, _, w0_2⟩ := DataW.trod_int Tryz.underlying3 g1_2
  obtain rfl : u0_2 = .int .i64 a0_2 := by simpa using e4
  obtain ⟨a1, rfl, rfl, rfl, w1⟩ := open_int Tryz.underlying3 (hval 1 3 v1 rfl rfl) h1
  obtain ⟨a2, rfl, rfl, rfl, w2⟩ := open_int Tryz.underlying3 (hval 2 3 v2 rfl rfl) h2
  clear hA0
  refine ((Aw.Cg.calls (Aw.WholeNone_c Aw.KTab (z0_0.take len0_0) (z0_1.take len0_1) a0_2 a1 a2) (fun _ _ _ _ h => Aw.RS_true h) _ (tab hL) (Aw.RSL_cons (Aw.RS_agg (Aw.RSL_cons (Aw.RS_d (Aw.Rd_ints (w0_0.imp id fun ⟨x, h1, h2, h3, h4, h5, _⟩ => ⟨x, h1, h2, h3, h4, h5⟩))) (Aw.RSL_cons (Aw.RS_d (Aw.Rd_ints (w0_1.imp id fun ⟨x, h1, h2, h3, h4, h5, _⟩ => ⟨x, h1, h2, h3, h4, h5⟩))) (Aw.RSL_cons (Aw.RS_int .i64 a0_2) Aw.RSL_nil)))) (Aw.RSL_cons (Aw.RS_int .i64 a1) (Aw.RSL_cons (Aw.RS_int .i64 a2) Aw.RSL_nil))))).mono fun e W' ⟨he, bel⟩ => ?_
  subst he
  exact ⟨_, rfl, _, _, _, [], _, [], hW', trodAll_mk1 (shut_bool Tryz.underlying4 _), (trodAll_cons_mk (Below.trod laidOut (by kernel_rfl) (of_decide_eq_true (by kernel_rfl)) k0 bel lt0) (trodAll_cons_mk (shut_int Tryz.underlying3 w1) (trodAll_cons_mk (shut_int Tryz.underlying3 w2) trodAll_mk0))), rfl, bel.frame _, fun h => by cases h⟩
/-- A world for the witness: the settled one, the table holding what its initialiser lays. -/
noncomputable def laidWorld (os : Os) : World :=
  { World.holding Tryz.prog os ⟨#[], #[], []⟩ with heap := (World.holding Tryz.prog os ⟨#[], #[], []⟩).heap.modify 0 fun
      | .cells _ t frozen => .cells #[.int .i64 0, .int .i64 7, .int .i64 5, .int .i64 1, .int .i64 1, .int .i64 0, .int .i64 6, .int .i64 8, .int .i64 8, .int .i64 32, .int .i64 64, .int .i64 0, .int .i64 16] t frozen
      | o => o }
theorem laid_met (os : Os) : laidMet Tryz.prog Rows.wholeNoneRow.laid ((laidWorld os).forCall (fun _ _ => 0) ⟨#[], #[.agg #[.slice none 0 0, .slice none 0 0, .int .i64 0], .int .i64 0, .int .i64 0], []⟩).memory :=
  laidMet_of_run' 8 (by kernel_rfl) (by kernel_rfl)
theorem reads (os : Os) {H : Type} (enc : TypeId × Value → H) : ∃ places, DataW.whole enc Tryz.prog ((laidWorld os).forCall (fun _ _ => 0) ⟨#[], #[.agg #[.slice none 0 0, .slice none 0 0, .int .i64 0], .int .i64 0, .int .i64 0], []⟩).memory Tryz.f4.params.toList Rows.wholeNoneSpec.vars false (#[.agg #[.slice none 0 0, .slice none 0 0, .int .i64 0], .int .i64 0, .int .i64 0] : Array Value).toList 8 = some ([.agg [.nil, .nil, .lit (.int .i64 0)], .lit (.int .i64 0), .lit (.int .i64 0)], [], places) :=
  ⟨[], by kernel_rfl⟩
set_option maxRecDepth 100000 in
theorem lifted (os : Os) (started : os.Started) (H : Type) (enc : TypeId × Value → H) (F : Stop.Interp) :
    ReturnsInHanded {} Tryz.checked os 4 .any ((OpenSpec.ofChange Rows.wholeNoneSpec).preRow enc Tryz.prog Tryz.f4 Rows.wholeNoneRow.domain false Rows.wholeNoneRow.laid) (((OpenSpec.ofChange Rows.wholeNoneSpec).at F).post enc Tryz.prog Tryz.f4 false true false false) := by
  obtain ⟨places, hx⟩ := reads os enc
  refine returnsInHanded_of_row (C := Tryz.checked) (s := OpenSpec.ofChange Rows.wholeNoneSpec) own started (by kernel_rfl) Tryz.func4
    (witness_row_at (enc := enc) (C := Tryz.checked) false (laidWorld os) #[.agg #[.slice none 0 0, .slice none 0 0, .int .i64 0], .int .i64 0, .int .i64 0] rfl (by kernel_rfl) (by kernel_rfl) (by kernel_rfl)
      (OpenSpec.preRow_of_cond 8 hx (by kernel_rfl) (fun k hk => by cases hk) (by kernel_rfl) (laid_met os))) ?_
  intro W base args ds gs before hval hW _ _ _ hL _ _
  exact contract H enc W base args ds gs before hval hW hL
theorem said : Rows.WholeNoneSaid :=
  OpenClaim.holds_of_cond 4 Tryz.f4 rfl rfl rfl rfl rfl rfl rfl ⟨rfl, rfl, rfl, rfl, rfl⟩ rfl rfl rfl rfl rfl (by kernel_rfl) Tryz.func4 (by kernel_rfl)
    (of_decide_eq_true (by kernel_rfl)) (by unfold Func.isWrapper; first | (rw [if_pos (by decide +kernel)]; kernel_rfl) | (rw [if_neg (by decide +kernel)]; exact ⟨rfl, rfl⟩))
    (fun os started H enc _ F => by rw [OpenClaim.pre_eq_preRow]; exact lifted os started H enc F)
theorem plain (f : FuncId) (fn : Func) (hf : Tryz.pinned.checked.prog.funcNamed "earshot/earshotlaw18.WholeNone" = some f) (hfn : Tryz.pinned.checked.prog.funcs[f]? = some fn) :
    false = Tryz.pinned.checked.prog.looks [] ∧ ∀ (j : Nat) t, fn.params[j]? = some t → Tryz.pinned.checked.prog.wantsStandIn t = false := by
  obtain rfl : f = 4 := Option.some.inj ((show Tryz.prog.funcNamed "earshot/earshotlaw18.WholeNone" = some 4 by kernel_rfl).symm.trans hf) |>.symm
  obtain rfl : fn = Tryz.f4 := (Option.some.inj (Tryz.func4.symm.trans hfn)).symm
  refine ⟨by kernel_rfl, fun j t ht => ?_⟩
  rw [Tryz.params4] at ht
  have hm := Array.mem_of_getElem? ht
  have h_ : t = 24 ∨ t = 3 ∨ t = 3 := by simpa using hm
  rcases h_ with rfl | rfl | rfl
  · exact (show Tryz.prog.wantsStandIn 24 = false by kernel_rfl)
  · exact (show Tryz.prog.wantsStandIn 3 = false by kernel_rfl)
  · exact (show Tryz.prog.wantsStandIn 3 = false by kernel_rfl)
theorem card : Rows.WholeNoneCardSaid :=
  Claim7.holds_tied_plain_at .later [] _ _ _ _ said (fun _ h => by cases h) (by kernel_rfl) (fun _ h => by cases h) wholeNone_row_tie rfl ⟨rfl, rfl⟩ (by kernel_rfl) rfl plain (by kernel_rfl)
#print axioms card
end Go.Proofs.YtgomeljgbjgbkaaGreatDoor.wholeNone
namespace Go.Proofs.YtgomeljgbjgbkaaGreatDoor
/-- The card, under a short name, for the claim. -/
theorem wholeNone_holds : Rows.WholeNoneCardSaid := wholeNone.card
end Go.Proofs.YtgomeljgbjgbkaaGreatDoor
