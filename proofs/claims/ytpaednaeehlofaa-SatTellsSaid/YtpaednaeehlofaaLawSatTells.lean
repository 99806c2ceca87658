/- Written by xp.py, a program of this session: contracts of the Go functions that a law reaches: each call returns what the Lean function of its name tells. Conditions: those that each theorem names, none else. -/
import Derived.Test.YtpaednaeehlofaaRows
import Derived.Test.YtpaednaeehlofaaPSatTellsx3
import Derived.Test.YtpaednaeehlofaaPureSatTells
import Derived.WalkKit
import Derived.ProofKit
import Derived.OpenShut
import Derived.ShutString
import Derived.ChangeOld
import Derived.Below
import Derived.SizedLaws
import Derived.Test.YtpaednaeehlofaaWSized
namespace Go.Proofs.Ytpaednaeehlofaa.satTells
open Go.ChangeShapes Go.WideShapes Go.ChangeAt Go.RowKit
open Go.ChangeMaps (open_string shut_string)
set_option linter.unusedVariables false
set_option linter.unusedSimpArgs false
theorem own : ownKnob Try.prog.godebug = none := by kernel_rfl
theorem laidOut : laidOutB Try.prog = true := by kernel_rfl
def IsRow (k : IntKind) (w : World) (a : Option Addr) (len cap : Nat) (zs : List Int) : Prop :=
  (a = none ∧ len = 0 ∧ cap = 0 ∧ zs = []) ∨
  ∃ x, a = some x ∧ len ≤ cap ∧ cap ≤ maxLen ∧ zs.length = cap ∧ (∀ i, i < zs.length → w.cell? (x.add i) = some (.int k (zs.getD i 0))) ∧ ∀ n ∈ zs, (Lit.int k n).wf = true
theorem arr3 {cs : Array Value} (h : cs.size = 3) : ∃ c0 c1 c2, cs = #[c0, c1, c2] := by
  obtain ⟨l⟩ := cs
  simp only [List.size_toArray] at h
  obtain ⟨c0, l, rfl⟩ := List.exists_cons_of_length_eq_add_one h
  replace h : l.length = 2 := by simpa using h
  obtain ⟨c1, l, rfl⟩ := List.exists_cons_of_length_eq_add_one h
  replace h : l.length = 1 := by simpa using h
  obtain ⟨c2, l, rfl⟩ := List.exists_cons_of_length_eq_add_one h
  replace h : l.length = 0 := by simpa using h
  obtain rfl := List.eq_nil_of_length_eq_zero h
  exact ⟨c0, c1, c2, rfl⟩
set_option maxRecDepth 100000 in
theorem lifted (os : Os) (started : os.Started) (H : Type) (enc : TypeId × Value → H) :
    ReturnsInHanded {} Try.checked os 6 .any (Rows.satTellsSpec.pre6 enc Try.prog Try.f6 Rows.satTellsRow.domain false) (Rows.satTellsSpec.post enc Try.prog Try.f6 false true false false) := by
  refine returnsInHanded_of_change_sized (C := Try.checked) own started (by kernel_rfl) Try.func6
    (ChangeSpec.witness6 (enc := enc) (C := Try.checked) false ⟨#[], #[.agg #[.int .i64 0, .int .i64 0, .int .i64 0], .int .i64 0, .slice none 0 0], []⟩ 8 (by kernel_rfl) (by kernel_rfl) (by kernel_rfl) (by kernel_rfl)) ?_
  intro W base args ds gs before hval0 hW hcnd hsz0 _
  have hsz : (DataW.weightsEach Try.prog (Try.f6.params.toList ++ Rows.satTellsSpec.plain.varTypes Try.prog) (ds ++ gs)).all (· ≤ reachBytes) = true := hsz0
  have hval : ∀ (j : Nat) t v, Try.f6.params[j]? = some t → args[j]? = some v → Value.okWide Try.prog W .any base t v := hval0
  have hW' := hW
  obtain ⟨p, q, hA0, hV, rfl, hfz, hnd⟩ := hW
  have hA : DataW.TrodAll enc Try.prog W 0 (fun _ => true) true Try.f6.params.toList args.toList ds p := hA0
  rw [Try.params6] at hA hval hsz
  obtain ⟨v0, vs0, d0, ds0, p0, q0, hargs, rfl, rfl, h0, r0⟩ := trodAll_cons hA
  obtain ⟨v1, vs1, d1, ds1, p1, q1, rfl, rfl, rfl, h1, r1⟩ := trodAll_cons r0
  obtain ⟨v2, vs2, d2, ds2, p2, q2, rfl, rfl, rfl, h2, r2⟩ := trodAll_cons r1
  obtain ⟨rfl, rfl, rfl⟩ := trodAll_nil r2
  obtain rfl : args = #[v0, v1, v2] := by cases args; simp_all
  obtain ⟨rfl, rfl⟩ := trodVars_none hV
  obtain ⟨cs0, rfl, sz0⟩ : ∃ cs, v0 = .agg cs ∧ cs.size = Try.prog.cellsOf 35 := by
    have hv_ := (hval 0 35 v0 rfl rfl)
    simp only [Value.okWide, Try.underlying35] at hv_
    obtain ⟨cs, h1, h2, _⟩ := hv_
    exact ⟨cs, h1, h2⟩
  have k0 := h0
  have lt0 : ∀ x ∈ p0, x.block < W.heap.size := by obtain ⟨m, hm⟩ := k0; exact DataW.trod_lt m _ _ _ hm
  obtain ⟨u0_0, u0_1, u0_2, rfl⟩ := arr3 (sz0.trans (by kernel_rfl))
  obtain ⟨fuel0, hf0_⟩ := h0
  replace hf0_ : DataW.trod enc Try.prog W 0 (fun _ => true) true fuel0 35 [u0_0, u0_1, u0_2] = some (d0, p0) := hf0_
  obtain ⟨xs1, m1, _, _, _, hl1, hf1⟩ := DataW.trod_array Try.underlying35 hf0_
  have g1_0 := hf1 0 (by decide)
  obtain ⟨y1_0, ey1_0⟩ : ∃ y, xs1[0]? = some y := ⟨_, List.getElem?_eq_getElem (by rw [hl1]; decide)⟩
  rw [ey1_0] at g1_0
  replace g1_0 : DataW.trod enc Try.prog W 0 (fun _ => true) true m1 3 [u0_0] = some y1_0 := by rw [← g1_0]; congr 1
  obtain ⟨a0_0, e2, _, w0_0⟩ := DataW.trod_int Try.underlying3 g1_0
  obtain rfl : u0_0 = .int .i64 a0_0 := by simpa using e2
  have g1_1 := hf1 1 (by decide)
  obtain ⟨y1_1, ey1_1⟩ : ∃ y, xs1[1]? = some y := ⟨_, List.getElem?_eq_getElem (by rw [hl1]; decide)⟩
  rw [ey1_1] at g1_1
  replace g1_1 : DataW.trod enc Try.prog W 0 (fun _ => true) true m1 3 [u0_1] = some y1_1 := by rw [← g1_1]; congr 1
  obtain ⟨a0_1, e3, _, w0_1⟩ := DataW.trod_int Try.underlying3 g1_1
  obtain rfl : u0_1 = .int .i64 a0_1 := by simpa using e3
  have g1_2 := hf1 2 (by decide)
  obtain ⟨y1_2, ey1_2⟩ : ∃ y, xs1[2]? = some y := ⟨_, List.getElem?_eq_getElem (by rw [hl1]; decide)⟩
  rw [ey1_2] at g1_2
  replace g1_2 : DataW.trod enc Try.prog W 0 (fun _ => true) true m1 3 [u0_2] = some y1_2 := by rw [← g1_2]; congr 1
  obtain ⟨a0_2, e4, _, w0_2⟩ := DataW.trod_int Try.underlying3 g1_2
  obtain rfl : u0_2 = .int .i64 a0_2 := by simpa using e4
  obtain ⟨a1, rfl, rfl, rfl, w1⟩ := open_int Try.underlying3 (hval 1 3 v1 rfl rfl) h1
  obtain ⟨a2, len2, cap2, rfl⟩ := okWide_slice Try.underlying27 (hval 2 27 v2 rfl rfl)
  have k2 := h2
  have lt2 : ∀ x ∈ p2, x.block < W.heap.size := by obtain ⟨m, hm⟩ := k2; exact DataW.trod_lt m _ _ _ hm
  obtain ⟨z2, w2⟩ : ∃ zs, IsRow .i64 W a2 len2 cap2 zs := by
    obtain ⟨fuel, hf⟩ := h2
    rcases open_ints Try.underlying27 Try.underlying3 (by kernel_rfl) hf with ⟨hcs, _⟩ | ⟨x, l, c, zs, hcs, _, hl, hm, hz, _, hcell, hwz⟩
    · simp [Value.cells] at hcs
      obtain ⟨rfl, rfl, rfl⟩ := hcs
      exact ⟨[], .inl ⟨rfl, rfl, rfl, rfl⟩⟩
    · simp [Value.cells] at hcs
      obtain ⟨rfl, rfl, rfl⟩ := hcs
      exact ⟨zs, .inr ⟨_, rfl, hl, hm, by simpa using hz, hcell, hwz⟩⟩
  have y2 : len2 * 8 ≤ 140737488351232 := Go.Proofs.YtpaednaeehlofaaW.PrintWords.sized_ints hsz (j := 2) (t := 27) rfl rfl Try.underlying27 Try.underlying3 (by kernel_rfl) (by kernel_rfl) h2
  clear hA0 hval0 hsz0 hsz
  refine (PSatTells.earshotlaw01_SatTells.walk Pure.SatTells a0_0 a0_1 a0_2 a1 a2 len2 cap2 z2 W w0_0 w0_1 w0_2 w1 w2 y2).mono fun e W' ⟨he, bel⟩ => ?_
  subst he
  exact ⟨_, rfl, _, _, _, [], _, [], hW', trodAll_mk1 (shut_bool Try.underlying4 _), (trodAll_cons_mk (Below.trod laidOut (by kernel_rfl) (of_decide_eq_true (by kernel_rfl)) k0 bel lt0) (trodAll_cons_mk (shut_int Try.underlying3 w1) (trodAll_cons_mk (Below.trod laidOut (by kernel_rfl) (of_decide_eq_true (by kernel_rfl)) k2 bel lt2) trodAll_mk0))), rfl, bel.frame _, fun h => by cases h⟩
theorem over : Rows.satTellsRow.holds Try.pinned (OpenSpec.ofChange Rows.satTellsSpec) :=
  OpenClaim.holds_of_wide 6 Try.f6 rfl rfl rfl rfl rfl rfl rfl ⟨rfl, rfl, rfl, rfl, rfl⟩ rfl rfl rfl rfl rfl (by kernel_rfl) Try.func6 (by kernel_rfl)
    (of_decide_eq_true (by kernel_rfl)) (by unfold Func.isWrapper; first | (rw [if_pos (by decide +kernel)]; kernel_rfl) | (rw [if_neg (by decide +kernel)]; exact ⟨rfl, rfl⟩))
    (fun os started H enc _ => lifted os started H enc)
theorem proved : Rows.SatTellsSaid := over
#print axioms proved
end Go.Proofs.Ytpaednaeehlofaa.satTells
namespace Go.Proofs.Ytpaednaeehlofaa
/-- The row, under a short name, for the claim. -/
theorem satTells_holds : Rows.SatTellsSaid := satTells.proved
end Go.Proofs.Ytpaednaeehlofaa
