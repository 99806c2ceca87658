/- Written by xp.py, a program of this session: contracts of the Go functions that a law reaches: each call returns what the Lean function of its name tells. Conditions: those that each theorem names, none else. -/
import Derived.Test.YtpaednaeehlofaaRows
import Derived.Test.YtpaednaeehlofaaPRoundOrderx2
import Derived.Test.YtpaednaeehlofaaPureRoundOrder
import Derived.WalkKit
import Derived.ProofKit
import Derived.OpenShut
import Derived.ShutString
import Derived.ChangeOld
import Derived.Below
import Derived.SizedLaws
import Derived.Test.YtpaednaeehlofaaWSized
namespace Go.Proofs.Ytpaednaeehlofaa.roundOrder
open Go.ChangeShapes Go.WideShapes Go.ChangeAt Go.RowKit
open Go.ChangeMaps (open_string shut_string)
set_option linter.unusedVariables false
set_option linter.unusedSimpArgs false
theorem own : ownKnob Try.prog.godebug = none := by kernel_rfl
theorem laidOut : laidOutB Try.prog = true := by kernel_rfl
def IsRow (k : IntKind) (w : World) (a : Option Addr) (len cap : Nat) (zs : List Int) : Prop :=
  (a = none ∧ len = 0 ∧ cap = 0 ∧ zs = []) ∨
  ∃ x, a = some x ∧ len ≤ cap ∧ cap ≤ maxLen ∧ zs.length = cap ∧ (∀ i, i < zs.length → w.cell? (x.add i) = some (.int k (zs.getD i 0))) ∧ ∀ n ∈ zs, (Lit.int k n).wf = true
theorem arr2 {cs : Array Value} (h : cs.size = 2) : ∃ c0 c1, cs = #[c0, c1] := by
  obtain ⟨l⟩ := cs
  simp only [List.size_toArray] at h
  obtain ⟨c0, l, rfl⟩ := List.exists_cons_of_length_eq_add_one h
  replace h : l.length = 1 := by simpa using h
  obtain ⟨c1, l, rfl⟩ := List.exists_cons_of_length_eq_add_one h
  replace h : l.length = 0 := by simpa using h
  obtain rfl := List.eq_nil_of_length_eq_zero h
  exact ⟨c0, c1, rfl⟩
set_option maxRecDepth 100000 in
theorem lifted (os : Os) (started : os.Started) (H : Type) (enc : TypeId × Value → H) :
    ReturnsInHanded {} Try.checked os 9 .any (Rows.roundOrderSpec.pre6 enc Try.prog Try.f9 Rows.roundOrderRow.domain false) (Rows.roundOrderSpec.post enc Try.prog Try.f9 false true false false) := by
  refine returnsInHanded_of_change_sized (C := Try.checked) own started (by kernel_rfl) Try.func9
    (ChangeSpec.witness6 (enc := enc) (C := Try.checked) false ⟨#[], #[.agg #[.int .i64 0, .int .i64 0], .int .i64 0, .agg #[.int .i64 0, .int .i64 0]], []⟩ 8 (by kernel_rfl) (by kernel_rfl) (by kernel_rfl) (by kernel_rfl)) ?_
  intro W base args ds gs before hval0 hW hcnd hsz0 _
  have hsz : (DataW.weightsEach Try.prog (Try.f9.params.toList ++ Rows.roundOrderSpec.plain.varTypes Try.prog) (ds ++ gs)).all (· ≤ reachBytes) = true := hsz0
  have hval : ∀ (j : Nat) t v, Try.f9.params[j]? = some t → args[j]? = some v → Value.okWide Try.prog W .any base t v := hval0
  have hW' := hW
  obtain ⟨p, q, hA0, hV, rfl, hfz, hnd⟩ := hW
  have hA : DataW.TrodAll enc Try.prog W 0 (fun _ => true) true Try.f9.params.toList args.toList ds p := hA0
  rw [Try.params9] at hA hval hsz
  obtain ⟨v0, vs0, d0, ds0, p0, q0, hargs, rfl, rfl, h0, r0⟩ := trodAll_cons hA
  obtain ⟨v1, vs1, d1, ds1, p1, q1, rfl, rfl, rfl, h1, r1⟩ := trodAll_cons r0
  obtain ⟨v2, vs2, d2, ds2, p2, q2, rfl, rfl, rfl, h2, r2⟩ := trodAll_cons r1
  obtain ⟨rfl, rfl, rfl⟩ := trodAll_nil r2
  obtain rfl : args = #[v0, v1, v2] := by cases args; simp_all
  obtain ⟨rfl, rfl⟩ := trodVars_none hV
  obtain ⟨cs0, rfl, sz0⟩ : ∃ cs, v0 = .agg cs ∧ cs.size = Try.prog.cellsOf 47 := by
    have hv_ := (hval 0 47 v0 rfl rfl)
    simp only [Value.okWide, Try.underlying47] at hv_
    obtain ⟨cs, h1, h2, _⟩ := hv_
    exact ⟨cs, h1, h2⟩
  have k0 := h0
  have lt0 : ∀ x ∈ p0, x.block < W.heap.size := by obtain ⟨m, hm⟩ := k0; exact DataW.trod_lt m _ _ _ hm
  obtain ⟨u0_0, u0_1, rfl⟩ := arr2 (sz0.trans (by kernel_rfl))
  obtain ⟨fuel0, hf0_⟩ := h0
  replace hf0_ : DataW.trod enc Try.prog W 0 (fun _ => true) true fuel0 47 [u0_0, u0_1] = some (d0, p0) := hf0_
  obtain ⟨xs1, m1, _, _, _, hl1, hf1⟩ := DataW.trod_array Try.underlying47 hf0_
  have g1_0 := hf1 0 (by decide)
  obtain ⟨y1_0, ey1_0⟩ : ∃ y, xs1[0]? = some y := ⟨_, List.getElem?_eq_getElem (by rw [hl1]; decide)⟩
  rw [ey1_0] at g1_0
  replace g1_0 : DataW.trod enc Try.prog W 0 (fun _ => true) true m1 3 [u0_0] = some y1_0 := by rw [← g1_0]; congr 1
  obtain ⟨a0_0, e2, _, w0_0⟩ := DataW.trod_int Try.underlying3 g1_0
  obtain rfl : u0_0 = .int .i64 a0_0 := by simpa using e2
  have g1_1 := hf1 1 (by decide)
  obtain ⟨y1_1, ey1_1⟩ : ∃ y, xs1[1]? = some y := ⟨_, List.getElem?_eq_getElem (by rw [hl1]; decide)⟩
  rw [ey1_1] at g1_1
  replace g1_1 : DataW.trod enc Try.prog W 0 (fun _ => true) true m1 3 [u0_1] = some y1_1 := by rw [← g1_1]; congr 1
  obtain ⟨a0_1, e3, _, w0_1⟩ := DataW.trod_int Try.underlying3 g1_1
  obtain rfl : u0_1 = .int .i64 a0_1 := by simpa using e3
  obtain ⟨a1, rfl, rfl, rfl, w1⟩ := open_int Try.underlying3 (hval 1 3 v1 rfl rfl) h1
  obtain ⟨cs2, rfl, sz2⟩ : ∃ cs, v2 = .agg cs ∧ cs.size = Try.prog.cellsOf 47 := by
    have hv_ := (hval 2 47 v2 rfl rfl)
    simp only [Value.okWide, Try.underlying47] at hv_
    obtain ⟨cs, h1, h2, _⟩ := hv_
    exact ⟨cs, h1, h2⟩
  have k2 := h2
  have lt2 : ∀ x ∈ p2, x.block < W.heap.size := by obtain ⟨m, hm⟩ := k2; exact DataW.trod_lt m _ _ _ hm
  obtain ⟨u2_0, u2_1, rfl⟩ := arr2 (sz2.trans (by kernel_rfl))
  obtain ⟨fuel2, hf2_⟩ := h2
  replace hf2_ : DataW.trod enc Try.prog W 0 (fun _ => true) true fuel2 47 [u2_0, u2_1] = some (d2, p2) := hf2_
  obtain ⟨xs4, m4, _, _, _, hl4, hf4⟩ := DataW.trod_array Try.underlying47 hf2_
  have g4_0 := hf4 0 (by decide)
  obtain ⟨y4_0, ey4_0⟩ : ∃ y, xs4[0]? = some y := ⟨_, List.getElem?_eq_getElem (by rw [hl4]; decide)⟩
  rw [ey4_0] at g4_0
  replace g4_0 : DataW.trod enc Try.prog W 0 (fun _ => true) true m4 3 [u2_0] = some y4_0 := by rw [← g4_0]; congr 1
  obtain ⟨a2_0, e5, _, w2_0⟩ := DataW.trod_int Try.underlying3 g4_0
  obtain rfl : u2_0 = .int .i64 a2_0 := by simpa using e5
  have g4_1 := hf4 1 (by decide)
  obtain ⟨y4_1, ey4_1⟩ : ∃ y, xs4[1]? = some y := ⟨_, List.getElem?_eq_getElem (by rw [hl4]; decide)⟩
  rw [ey4_1] at g4_1
  replace g4_1 : DataW.trod enc Try.prog W 0 (fun _ => true) true m4 3 [u2_1] = some y4_1 := by rw [← g4_1]; congr 1
  obtain ⟨a2_1, e6, _, w2_1⟩ := DataW.trod_int Try.underlying3 g4_1
  obtain rfl : u2_1 = .int .i64 a2_1 := by simpa using e6
  clear hA0 hval0 hsz0 hsz
  refine (PRoundOrder.earshotlaw02_RoundOrder.walk Pure.RoundOrder a0_0 a0_1 a1 a2_0 a2_1 W w0_0 w0_1 w1 w2_0 w2_1).mono fun e W' ⟨he, bel⟩ => ?_
  subst he
  exact ⟨_, rfl, _, _, _, [], _, [], hW', trodAll_mk1 (shut_bool Try.underlying4 _), (trodAll_cons_mk (Below.trod laidOut (by kernel_rfl) (of_decide_eq_true (by kernel_rfl)) k0 bel lt0) (trodAll_cons_mk (shut_int Try.underlying3 w1) (trodAll_cons_mk (Below.trod laidOut (by kernel_rfl) (of_decide_eq_true (by kernel_rfl)) k2 bel lt2) trodAll_mk0))), rfl, bel.frame _, fun h => by cases h⟩
theorem over : Rows.roundOrderRow.holds Try.pinned (OpenSpec.ofChange Rows.roundOrderSpec) :=
  OpenClaim.holds_of_wide 9 Try.f9 rfl rfl rfl rfl rfl rfl rfl ⟨rfl, rfl, rfl, rfl, rfl⟩ rfl rfl rfl rfl rfl (by kernel_rfl) Try.func9 (by kernel_rfl)
    (of_decide_eq_true (by kernel_rfl)) (by unfold Func.isWrapper; first | (rw [if_pos (by decide +kernel)]; kernel_rfl) | (rw [if_neg (by decide +kernel)]; exact ⟨rfl, rfl⟩))
    (fun os started H enc _ => lifted os started H enc)
theorem proved : Rows.RoundOrderSaid := over
#print axioms proved
end Go.Proofs.Ytpaednaeehlofaa.roundOrder
namespace Go.Proofs.Ytpaednaeehlofaa
/-- The row, under a short name, for the claim. -/
theorem roundOrder_holds : Rows.RoundOrderSaid := roundOrder.proved
end Go.Proofs.Ytpaednaeehlofaa
