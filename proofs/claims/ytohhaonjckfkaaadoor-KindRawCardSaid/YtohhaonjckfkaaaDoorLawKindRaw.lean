/- The law KindRaw returns true for every input, the table kind.kinds read as its initialiser lays it: the row's statement and its card, over the contract of this session's own texts. Conditions: none else. -/
import Derived.Test.YtohhaonjckfkaaaDoorCards
import Derived.Test.YtohhaonjckfkaaaDoorTie
import Derived.Test.YtohhaonjckfkaaaDoorHandH13
import Derived.WalkKit
import Derived.ProofKit
import Derived.OpenShut
import Derived.ShutString
import Derived.ChangeOld
import Derived.Below
import Derived.SizedLaws
import Derived.Deep.DeepHandedRow
import Derived.Lib.LaidTab
namespace Go.Proofs.YtohhaonjckfkaaaDoor.kindRaw
open Go.ChangeShapes Go.WideShapes Go.ChangeAt Go.RowKit Go.Proofs.YtohhaonjckfkaaaDoorW.PrintWords
set_option linter.unusedVariables false
set_option linter.unusedSimpArgs false
theorem own : ownKnob Tryd.prog.godebug = none := by kernel_rfl
theorem laidOut : laidOutB Tryd.prog = true := by kernel_rfl
theorem gTab : Tryd.prog.globalNamed "earshot/kind.kinds" = some 0 := by kernel_rfl
theorem gTabType : (Tryd.prog.globals[0]?).map (·.type) = some 98 := by kernel_rfl
theorem cellsT : Tryd.prog.cellsOf 98 = 13 := by kernel_rfl
theorem cellsI : Tryd.prog.cellsOf 3 = 1 := by kernel_rfl
theorem table {W : World} (h : laidMetH Tryd.prog Rows.kindRawRow.laid W) : Lib.TabIs Tryd.prog W "earshot/kind.kinds" .i64 [0, 7, 5, 1, 1, 0, 6, 8, 8, 32, 64, 0, 16] :=
  Lib.tabIs_of_head (rest := []) gTab gTabType Tryd.underlying98 Tryd.underlying3 cellsI cellsT h
theorem tab {W : World} (h : laidMetH Tryd.prog Rows.kindRawRow.laid W) : Hand.Tab W := fun j v hj => by
  have hlt : j < ([0, 7, 5, 1, 1, 0, 6, 8, 8, 32, 64, 0, 16] : List Int).length := (List.getElem?_eq_some_iff.mp hj).1
  have := (table h).cell gTab j hlt
  rw [this, List.getD_eq_getElem?_getD, hj]
  rfl
def IsRow (k : IntKind) (w : World) (a : Option Addr) (len cap : Nat) (zs : List Int) : Prop :=
  (a = none ∧ len = 0 ∧ cap = 0 ∧ zs = []) ∨
  ∃ x, a = some x ∧ len ≤ cap ∧ cap ≤ maxLen ∧ zs.length = cap ∧ (∀ i, i < zs.length → w.cell? (x.add i) = some (.int k (zs.getD i 0))) ∧ ∀ n ∈ zs, (Lit.int k n).wf = true
theorem arr15 {cs : Array Value} (h : cs.size = 15) : ∃ c0 c1 c2 c3 c4 c5 c6 c7 c8 c9 c10 c11 c12 c13 c14, cs = #[c0, c1, c2, c3, c4, c5, c6, c7, c8, c9, c10, c11, c12, c13, c14] := by
  obtain ⟨l⟩ := cs
  simp only [List.size_toArray] at h
  obtain ⟨c0, l, rfl⟩ := List.exists_cons_of_length_eq_add_one h
  replace h : l.length = 14 := by simpa using h
  obtain ⟨c1, l, rfl⟩ := List.exists_cons_of_length_eq_add_one h
  replace h : l.length = 13 := by simpa using h
  obtain ⟨c2, l, rfl⟩ := List.exists_cons_of_length_eq_add_one h
  replace h : l.length = 12 := by simpa using h
  obtain ⟨c3, l, rfl⟩ := List.exists_cons_of_length_eq_add_one h
  replace h : l.length = 11 := by simpa using h
  obtain ⟨c4, l, rfl⟩ := List.exists_cons_of_length_eq_add_one h
  replace h : l.length = 10 := by simpa using h
  obtain ⟨c5, l, rfl⟩ := List.exists_cons_of_length_eq_add_one h
  replace h : l.length = 9 := by simpa using h
  obtain ⟨c6, l, rfl⟩ := List.exists_cons_of_length_eq_add_one h
  replace h : l.length = 8 := by simpa using h
  obtain ⟨c7, l, rfl⟩ := List.exists_cons_of_length_eq_add_one h
  replace h : l.length = 7 := by simpa using h
  obtain ⟨c8, l, rfl⟩ := List.exists_cons_of_length_eq_add_one h
  replace h : l.length = 6 := by simpa using h
  obtain ⟨c9, l, rfl⟩ := List.exists_cons_of_length_eq_add_one h
  replace h : l.length = 5 := by simpa using h
  obtain ⟨c10, l, rfl⟩ := List.exists_cons_of_length_eq_add_one h
  replace h : l.length = 4 := by simpa using h
  obtain ⟨c11, l, rfl⟩ := List.exists_cons_of_length_eq_add_one h
  replace h : l.length = 3 := by simpa using h
  obtain ⟨c12, l, rfl⟩ := List.exists_cons_of_length_eq_add_one h
  replace h : l.length = 2 := by simpa using h
  obtain ⟨c13, l, rfl⟩ := List.exists_cons_of_length_eq_add_one h
  replace h : l.length = 1 := by simpa using h
  obtain ⟨c14, l, rfl⟩ := List.exists_cons_of_length_eq_add_one h
  replace h : l.length = 0 := by simpa using h
  obtain rfl := List.eq_nil_of_length_eq_zero h
  exact ⟨c0, c1, c2, c3, c4, c5, c6, c7, c8, c9, c10, c11, c12, c13, c14, rfl⟩
set_option maxRecDepth 100000 in
set_option maxHeartbeats 1600000 in
theorem contract (H : Type) (enc : TypeId × Value → H) (W : World) (base : Nat) (args : Array Value) (ds gs : List (DataW H)) (before : List MemPlace)
    (hval : ∀ (j : Nat) t v, Tryd.f7.params[j]? = some t → args[j]? = some v → Value.okWide Tryd.prog W .any base t v)
    (hW : DataW.Whole enc Tryd.prog Tryd.f7.params.toList Rows.kindRawSpec.vars false W args.toList ds gs before) (hL : laidMetH Tryd.prog Rows.kindRawRow.laid W) :
    Calls Tryd.prog 7 args W fun e W' => ∃ v, e = .returned v ∧ Rows.kindRawSpec.post enc Tryd.prog Tryd.f7 false true false false W args v W' := by
  have hW' := hW
  obtain ⟨p, q, hA0, hV, rfl, hfz, hnd⟩ := hW
  have hA : DataW.TrodAll enc Tryd.prog W 0 (fun _ => true) true Tryd.f7.params.toList args.toList ds p := hA0
  rw [Tryd.params7] at hA hval
  obtain ⟨v0, vs0, d0, ds0, p0, q0, hargs, rfl, rfl, h0, r0⟩ := trodAll_cons hA
  obtain ⟨v1, vs1, d1, ds1, p1, q1, rfl, rfl, rfl, h1, r1⟩ := trodAll_cons r0
  obtain ⟨rfl, rfl, rfl⟩ := trodAll_nil r1
  obtain rfl : args = #[v0, v1] := by cases args; simp_all
  obtain ⟨rfl, rfl⟩ := trodVars_none hV
  obtain ⟨cs0, rfl, sz0⟩ : ∃ cs, v0 = .agg cs ∧ cs.size = Tryd.prog.cellsOf 29 := by
    have hv_ := (hval 0 29 v0 rfl rfl)
    simp only [Value.okWide, Tryd.underlying29] at hv_
    obtain ⟨cs, h1, h2, _⟩ := hv_
    exact ⟨cs, h1, h2⟩
  have k0 := h0
  have lt0 : ∀ x ∈ p0, x.block < W.heap.size := by obtain ⟨m, hm⟩ := k0; exact DataW.trod_lt m _ _ _ hm
  obtain ⟨u0_0, u0_1, u0_2, u0_3, u0_4, u0_5, u0_6, u0_7, u0_8, u0_9, u0_10, u0_11, u0_12, u0_13, u0_14, rfl⟩ := arr15 (sz0.trans (by kernel_rfl))
  obtain ⟨fuel0, hf0_⟩ := h0
  replace hf0_ : DataW.trod enc Tryd.prog W 0 (fun _ => true) true fuel0 29 [u0_0, u0_1, u0_2, u0_3, u0_4, u0_5, u0_6, u0_7, u0_8, u0_9, u0_10, u0_11, u0_12, u0_13, u0_14] = some (d0, p0) := hf0_
  obtain ⟨xs1, m1, _, _, _, hl1, hf1⟩ := DataW.trod_struct Tryd.underlying29 hf0_
  have g1_0 := hf1 0 _ rfl
  obtain ⟨y1_0, ey1_0⟩ : ∃ y, xs1[0]? = some y := ⟨_, List.getElem?_eq_getElem (by rw [hl1]; decide)⟩
  rw [ey1_0] at g1_0
  replace g1_0 : DataW.trod enc Tryd.prog W 0 (fun _ => true) true m1 3 [u0_0] = some y1_0 := by rw [← g1_0]; congr 1
  obtain ⟨a0_0, e2, _, w0_0⟩ := DataW.trod_int Tryd.underlying3 g1_0
  obtain rfl : u0_0 = .int .i64 a0_0 := by simpa using e2
  have g1_1 := hf1 1 _ rfl
  obtain ⟨y1_1, ey1_1⟩ : ∃ y, xs1[1]? = some y := ⟨_, List.getElem?_eq_getElem (by rw [hl1]; decide)⟩
  rw [ey1_1] at g1_1
  replace g1_1 : DataW.trod enc Tryd.prog W 0 (fun _ => true) true m1 22 [u0_1] = some y1_1 := by rw [← g1_1]; congr 1
  obtain ⟨a0_1, len0_1, cap0_1, z0_1, rfl, w0_1⟩ : ∃ a len cap zs, u0_1 = .slice a len cap ∧ IsRow .i64 W a len cap zs := by
    rcases open_ints Tryd.underlying22 Tryd.underlying3 (by kernel_rfl) g1_1 with ⟨hcs, _⟩ | ⟨x, l, c, zs, hcs, _, hl, hm, hz, _, hcell, hwz⟩
    · obtain rfl : u0_1 = .slice none 0 0 := by simpa using hcs
      exact ⟨_, _, _, [], rfl, .inl ⟨rfl, rfl, rfl, rfl⟩⟩
    · obtain rfl : u0_1 = .slice (some x) l c := by simpa using hcs
      exact ⟨_, _, _, zs, rfl, .inr ⟨_, rfl, hl, hm, by simpa using hz, hcell, hwz⟩⟩
  have g1_2 := hf1 2 _ rfl
  obtain ⟨y1_2, ey1_2⟩ : ∃ y, xs1[2]? = some y := ⟨_, List.getElem?_eq_getElem (by rw [hl1]; decide)⟩
  rw [ey1_2] at g1_2
  replace g1_2 : DataW.trod enc Tryd.prog W 0 (fun _ => true) true m1 3 [u0_2] = some y1_2 := by rw [← g1_2]; congr 1
  obtain ⟨a0_2, e4, _, w0_2⟩ := DataW.trod_int Tryd.underlying3 g1_2
  obtain rfl : u0_2 = .int .i64 a0_2 := by simpa using e4
  have g1_3 := hf1 3 _ rfl
  obtain ⟨y1_3, ey1_3⟩ : ∃ y, xs1[3]? = some y := ⟨_, List.getElem?_eq_getElem (by rw [hl1]; decide)⟩
  rw [ey1_3] at g1_3
  replace g1_3 : DataW.trod enc Tryd.prog W 0 (fun _ => true) true m1 3 [u0_3] = some y1_3 := by rw [← g1_3]; congr 1
  obtain ⟨a0_3, e5, _, w0_3⟩ := DataW.trod_int Tryd.underlying3 g1_3
  obtain rfl : u0_3 = .int .i64 a0_3 := by simpa using e5
  have g1_4 := hf1 4 _ rfl
  obtain ⟨y1_4, ey1_4⟩ : ∃ y, xs1[4]? = some y := ⟨_, List.getElem?_eq_getElem (by rw [hl1]; decide)⟩
  rw [ey1_4] at g1_4
  replace g1_4 : DataW.trod enc Tryd.prog W 0 (fun _ => true) true m1 3 [u0_4] = some y1_4 := by rw [← g1_4]; congr 1
  obtain ⟨a0_4, e6, _, w0_4⟩ := DataW.trod_int Tryd.underlying3 g1_4
  obtain rfl : u0_4 = .int .i64 a0_4 := by simpa using e6
  have g1_5 := hf1 5 _ rfl
  obtain ⟨y1_5, ey1_5⟩ : ∃ y, xs1[5]? = some y := ⟨_, List.getElem?_eq_getElem (by rw [hl1]; decide)⟩
  rw [ey1_5] at g1_5
  replace g1_5 : DataW.trod enc Tryd.prog W 0 (fun _ => true) true m1 3 [u0_5] = some y1_5 := by rw [← g1_5]; congr 1
  obtain ⟨a0_5, e7, _, w0_5⟩ := DataW.trod_int Tryd.underlying3 g1_5
  obtain rfl : u0_5 = .int .i64 a0_5 := by simpa using e7
  have g1_6 := hf1 6 _ rfl
  obtain ⟨y1_6, ey1_6⟩ : ∃ y, xs1[6]? = some y := ⟨_, List.getElem?_eq_getElem (by rw [hl1]; decide)⟩
  rw [ey1_6] at g1_6
  replace g1_6 : DataW.trod enc Tryd.prog W 0 (fun _ => true) true m1 3 [u0_6] = some y1_6 := by rw [← g1_6]; congr 1
  obtain ⟨a0_6, e8, _, w0_6⟩ := DataW.trod_int Tryd.underlying3 g1_6
  obtain rfl : u0_6 = .int .i64 a0_6 := by simpa using e8
  have g1_7 := hf1 7 _ rfl
  obtain ⟨y1_7, ey1_7⟩ : ∃ y, xs1[7]? = some y := ⟨_, List.getElem?_eq_getElem (by rw [hl1]; decide)⟩
  rw [ey1_7] at g1_7
  replace g1_7 : DataW.trod enc Tryd.prog W 0 (fun _ => true) true m1 3 [u0_7] = some y1_7 := by rw [← g1_7]; congr 1
  obtain ⟨a0_7, e9, _, w0_7⟩ := DataW.trod_int Tryd.underlying3 g1_7
  obtain rfl : u0_7 = .int .i64 a0_7 := by simpa using e9
  have g1_8 := hf1 8 _ rfl
  obtain ⟨y1_8, ey1_8⟩ : ∃ y, xs1[8]? = some y := ⟨_, List.getElem?_eq_getElem (by rw [hl1]; decide)⟩
  rw [ey1_8] at g1_8
  replace g1_8 : DataW.trod enc Tryd.prog W 0 (fun _ => true) true m1 22 [u0_8] = some y1_8 := by rw [← g1_8]; congr 1
  obtain ⟨a0_8, len0_8, cap0_8, z0_8, rfl, w0_8⟩ : ∃ a len cap zs, u0_8 = .slice a len cap ∧ IsRow .i64 W a len cap zs := by
    rcases open_ints Tryd.underlying22 Tryd.underlying3 (by kernel_rfl) g1_8 with ⟨hcs, _⟩ | ⟨x, l, c, zs, hcs, _, hl, hm, hz, _, hcell, hwz⟩
    · obtain rfl : u0_8 = .slice none 0 0 := by simpa using hcs
      exact ⟨_, _, _, [], rfl, .inl ⟨rfl, rfl, rfl, rfl⟩⟩
    · obtain rfl : u0_8 = .slice (some x) l c := by simpa using hcs
      exact ⟨_, _, _, zs, rfl, .inr ⟨_, rfl, hl, hm, by simpa using hz, hcell, hwz⟩⟩
  have g1_9 := hf1 9 _ rfl
  obtain ⟨y1_9, ey1_9⟩ : ∃ y, xs1[9]? = some y := ⟨_, List.getElem?_eq_getElem (by rw [hl1]; decide)⟩
  rw [ey1_9] at g1_9
  replace g1_9 : DataW.trod enc Tryd.prog W 0 (fun _ => true) true m1 22 [u0_9] = some y1_9 := by rw [← g1_9]; congr 1
  obtain ⟨a0_9, len0_9, cap0_9, z0_9, rfl, w0_9⟩ : ∃ a len cap zs, u0_9 = .slice a len cap ∧ IsRow .i64 W a len cap zs := by
    rcases open_ints Tryd.underlying22 Tryd.underlying3 (by kernel_rfl) g1_9 with ⟨hcs, _⟩ | ⟨x, l, c, zs, hcs, _, hl, hm, hz, _, hcell, hwz⟩
    · obtain rfl : u0_9 = .slice none 0 0 := by simpa using hcs
      exact ⟨_, _, _, [], rfl, .inl ⟨rfl, rfl, rfl, rfl⟩⟩
    · obtain rfl : u0_9 = .slice (some x) l c := by simpa using hcs
      exact ⟨_, _, _, zs, rfl, .inr ⟨_, rfl, hl, hm, by simpa using hz, hcell, hwz⟩⟩
  have g1_10 := hf1 10 _ rfl
  obtain ⟨y1_10, ey1_10⟩ : ∃ y, xs1[10]? = some y := ⟨_, List.getElem?_eq_getElem (by rw [hl1]; decide)⟩
  rw [ey1_10] at g1_10
  replace g1_10 : DataW.trod enc Tryd.prog W 0 (fun _ => true) true m1 3 [u0_10] = some y1_10 := by rw [← g1_10]; congr 1
  obtain ⟨a0_10, e12, _, w0_10⟩ := DataW.trod_int Tryd.underlying3 g1_10
  obtain rfl : u0_10 = .int .i64 a0_10 := by simpa using e12
  have g1_11 := hf1 11 _ rfl
  obtain ⟨y1_11, ey1_11⟩ : ∃ y, xs1[11]? = some y := ⟨_, List.getElem?_eq_getElem (by rw [hl1]; decide)⟩
  rw [ey1_11] at g1_11
  replace g1_11 : DataW.trod enc Tryd.prog W 0 (fun _ => true) true m1 3 [u0_11] = some y1_11 := by rw [← g1_11]; congr 1
  obtain ⟨a0_11, e13, _, w0_11⟩ := DataW.trod_int Tryd.underlying3 g1_11
  obtain rfl : u0_11 = .int .i64 a0_11 := by simpa using e13
  have g1_12 := hf1 12 _ rfl
  obtain ⟨y1_12, ey1_12⟩ : ∃ y, xs1[12]? = some y := ⟨_, List.getElem?_eq_getElem (by rw [hl1]; decide)⟩
  rw [ey1_12] at g1_12
  replace g1_12 : DataW.trod enc Tryd.prog W 0 (fun _ => true) true m1 3 [u0_12] = some y1_12 := by rw [← g1_12]; congr 1
  obtain ⟨a0_12, e14, _, w0_12⟩ := DataW.trod_int Tryd.underlying3 g1_12
  obtain rfl : u0_12 = .int .i64 a0_12 := by simpa using e14
  have g1_13 := hf1 13 _ rfl
  obtain ⟨y1_13, ey1_13⟩ : ∃ y, xs1[13]? = some y := ⟨_, List.getElem?_eq_getElem (by rw [hl1]; decide)⟩
  rw [ey1_13] at g1_13
  replace g1_13 : DataW.trod enc Tryd.prog W 0 (fun _ => true) true m1 3 [u0_13] = some y1_13 := by rw [← g1_13]; congr 1
  obtain ⟨a0_13, e15, _, w0_13⟩ := DataW.trod_int Tryd.underlying3 g1_13
  obtain rfl : u0_13 = .int .i64 a0_13 := by simpa using e15
  have g1_14 := hf1 14 _ rfl
  obtain ⟨y1_14, ey1_14⟩ : ∃ y, xs1[14]? = some y := ⟨_, List.getElem?_eq_getElem (by rw [hl1]; decide)⟩
  rw [ey1_14] at g1_14
  replace g1_14 : DataW.trod enc Tryd.prog W 0 (fun _ => true) true m1 3 [u0_14] = some y1_14 := by rw [← g1_14]; congr 1
  obtain ⟨a0_14, e16, _, w0_14⟩ := DataW.trod_int Tryd.underlying3 g1_14
  obtain rfl : u0_14 = .int .i64 a0_14 := by simpa using e16
  obtain ⟨a1, len1, cap1, rfl⟩ := okWide_slice Tryd.underlying22 (hval 1 22 v1 rfl rfl)
  have k1 := h1
  have lt1 : ∀ x ∈ p1, x.block < W.heap.size := by obtain ⟨m, hm⟩ := k1; exact DataW.trod_lt m _ _ _ hm
  obtain ⟨z1, w1⟩ : ∃ zs, IsRow .i64 W a1 len1 cap1 zs := by
    obtain ⟨fuel, hf⟩ := h1
    rcases open_ints Tryd.underlying22 Tryd.underlying3 (by kernel_rfl) hf with ⟨hcs, _⟩ | ⟨x, l, c, zs, hcs, _, hl, hm, hz, _, hcell, hwz⟩
    · simp [Value.cells] at hcs
      obtain ⟨rfl, rfl, rfl⟩ := hcs
      exact ⟨[], .inl ⟨rfl, rfl, rfl, rfl⟩⟩
    · simp [Value.cells] at hcs
      obtain ⟨rfl, rfl, rfl⟩ := hcs
      exact ⟨zs, .inr ⟨_, rfl, hl, hm, by simpa using hz, hcell, hwz⟩⟩
  obtain ⟨l0_1, rfl, hr0_1, _, _, c0_1⟩ := ReadsInt.ofRowC w0_1
  have rd0_1 := Kd.C_of_reads (d := (0 : Int)) (h1 := fun _ => rfl) hr0_1
  obtain ⟨l0_8, rfl, hr0_8, _, _, c0_8⟩ := ReadsInt.ofRowC w0_8
  have rd0_8 := Kd.C_of_reads (d := (0 : Int)) (h1 := fun _ => rfl) hr0_8
  obtain ⟨l0_9, rfl, hr0_9, _, _, c0_9⟩ := ReadsInt.ofRowC w0_9
  have rd0_9 := Kd.C_of_reads (d := (0 : Int)) (h1 := fun _ => rfl) hr0_9
  obtain ⟨l1, rfl, hr1, _, _, c1⟩ := ReadsInt.ofRowC w1
  have rd1 := Kd.C_of_reads (d := (0 : Int)) (h1 := fun _ => rfl) hr1
  clear hA0
  refine (Hand.KindRaw_c ⟨a0_0, l0_1, a0_2, a0_3, a0_4, a0_5, a0_6, a0_7, l0_8, l0_9, a0_10, a0_11, a0_12, a0_13, a0_14⟩ ⟨a0_1, cap0_1, a0_8, cap0_8, a0_9, cap0_9⟩ a1 cap1 l1 W (tab hL) ⟨rd0_1, c0_1, rd0_8, c0_8, rd0_9, c0_9⟩ rd1 c1).mono fun e W' ⟨he, bel⟩ => ?_
  subst he
  exact ⟨_, rfl, _, _, _, [], _, [], hW', trodAll_mk1 (shut_bool Tryd.underlying4 _), (trodAll_cons_mk (Below.trod laidOut (by kernel_rfl) (of_decide_eq_true (by kernel_rfl)) k0 bel lt0) (trodAll_cons_mk (Below.trod laidOut (by kernel_rfl) (of_decide_eq_true (by kernel_rfl)) k1 bel lt1) trodAll_mk0)), rfl, bel.frame _, fun h => by cases h⟩
/-- A world for the witness: the settled one, the table holding what its initialiser lays. -/
noncomputable def laidWorld (os : Os) : World :=
  { World.holding Tryd.prog os ⟨#[], #[], []⟩ with heap := (World.holding Tryd.prog os ⟨#[], #[], []⟩).heap.modify 0 fun
      | .cells _ t frozen => .cells #[.int .i64 0, .int .i64 7, .int .i64 5, .int .i64 1, .int .i64 1, .int .i64 0, .int .i64 6, .int .i64 8, .int .i64 8, .int .i64 32, .int .i64 64, .int .i64 0, .int .i64 16] t frozen
      | o => o }
theorem laid_met (os : Os) : laidMet Tryd.prog Rows.kindRawRow.laid ((laidWorld os).forCall (fun _ _ => 0) ⟨#[], #[.agg #[.int .i64 0, .slice none 0 0, .int .i64 0, .int .i64 0, .int .i64 0, .int .i64 0, .int .i64 0, .int .i64 0, .slice none 0 0, .slice none 0 0, .int .i64 0, .int .i64 0, .int .i64 0, .int .i64 0, .int .i64 0], .slice none 0 0], []⟩).memory :=
  laidMet_of_run' 8 (by kernel_rfl) (by kernel_rfl)
theorem reads (os : Os) {H : Type} (enc : TypeId × Value → H) : ∃ places, DataW.whole enc Tryd.prog ((laidWorld os).forCall (fun _ _ => 0) ⟨#[], #[.agg #[.int .i64 0, .slice none 0 0, .int .i64 0, .int .i64 0, .int .i64 0, .int .i64 0, .int .i64 0, .int .i64 0, .slice none 0 0, .slice none 0 0, .int .i64 0, .int .i64 0, .int .i64 0, .int .i64 0, .int .i64 0], .slice none 0 0], []⟩).memory Tryd.f7.params.toList Rows.kindRawSpec.vars false (#[.agg #[.int .i64 0, .slice none 0 0, .int .i64 0, .int .i64 0, .int .i64 0, .int .i64 0, .int .i64 0, .int .i64 0, .slice none 0 0, .slice none 0 0, .int .i64 0, .int .i64 0, .int .i64 0, .int .i64 0, .int .i64 0], .slice none 0 0] : Array Value).toList 8 = some ([.agg [.lit (.int .i64 0), .nil, .lit (.int .i64 0), .lit (.int .i64 0), .lit (.int .i64 0), .lit (.int .i64 0), .lit (.int .i64 0), .lit (.int .i64 0), .nil, .nil, .lit (.int .i64 0), .lit (.int .i64 0), .lit (.int .i64 0), .lit (.int .i64 0), .lit (.int .i64 0)], .nil], [], places) :=
  ⟨[], by kernel_rfl⟩
set_option maxRecDepth 100000 in
theorem lifted (os : Os) (started : os.Started) (H : Type) (enc : TypeId × Value → H) (F : Stop.Interp) :
    ReturnsInHanded {} Tryd.checked os 7 .any ((OpenSpec.ofChange Rows.kindRawSpec).preRow enc Tryd.prog Tryd.f7 Rows.kindRawRow.domain false Rows.kindRawRow.laid) (((OpenSpec.ofChange Rows.kindRawSpec).at F).post enc Tryd.prog Tryd.f7 false true false false) := by
  obtain ⟨places, hx⟩ := reads os enc
  refine returnsInHanded_of_row (C := Tryd.checked) (s := OpenSpec.ofChange Rows.kindRawSpec) own started (by kernel_rfl) Tryd.func7
    (witness_row_at (enc := enc) (C := Tryd.checked) false (laidWorld os) #[.agg #[.int .i64 0, .slice none 0 0, .int .i64 0, .int .i64 0, .int .i64 0, .int .i64 0, .int .i64 0, .int .i64 0, .slice none 0 0, .slice none 0 0, .int .i64 0, .int .i64 0, .int .i64 0, .int .i64 0, .int .i64 0], .slice none 0 0] rfl (by kernel_rfl) (by kernel_rfl) (by kernel_rfl)
      (OpenSpec.preRow_of_cond 8 hx (by kernel_rfl) (fun k hk => by cases hk) (by kernel_rfl) (laid_met os))) ?_
  intro W base args ds gs before hval hW _ _ _ hL _ _
  exact contract H enc W base args ds gs before hval hW hL
theorem said : Rows.KindRawSaid :=
  OpenClaim.holds_of_cond 7 Tryd.f7 rfl rfl rfl rfl rfl rfl rfl ⟨rfl, rfl, rfl, rfl, rfl⟩ rfl rfl rfl rfl rfl (by kernel_rfl) Tryd.func7 (by kernel_rfl)
    (of_decide_eq_true (by kernel_rfl)) (by unfold Func.isWrapper; first | (rw [if_pos (by decide +kernel)]; kernel_rfl) | (rw [if_neg (by decide +kernel)]; exact ⟨rfl, rfl⟩))
    (fun os started H enc _ F => by rw [OpenClaim.pre_eq_preRow]; exact lifted os started H enc F)
theorem plain (f : FuncId) (fn : Func) (hf : Tryd.pinned.checked.prog.funcNamed "earshot/earshotlaw14.KindRaw" = some f) (hfn : Tryd.pinned.checked.prog.funcs[f]? = some fn) :
    false = Tryd.pinned.checked.prog.looks [] ∧ ∀ (j : Nat) t, fn.params[j]? = some t → Tryd.pinned.checked.prog.wantsStandIn t = false := by
  obtain rfl : f = 7 := Option.some.inj ((show Tryd.prog.funcNamed "earshot/earshotlaw14.KindRaw" = some 7 by kernel_rfl).symm.trans hf) |>.symm
  obtain rfl : fn = Tryd.f7 := (Option.some.inj (Tryd.func7.symm.trans hfn)).symm
  refine ⟨by kernel_rfl, fun j t ht => ?_⟩
  rw [Tryd.params7] at ht
  have hm := Array.mem_of_getElem? ht
  have h_ : t = 29 ∨ t = 22 := by simpa using hm
  rcases h_ with rfl | rfl
  · exact (show Tryd.prog.wantsStandIn 29 = false by kernel_rfl)
  · exact (show Tryd.prog.wantsStandIn 22 = false by kernel_rfl)
theorem card : Rows.KindRawCardSaid :=
  Claim7.holds_tied_plain_at .later [] _ _ _ _ said (fun _ h => by cases h) (by kernel_rfl) (fun _ h => by cases h) kindRaw_row_tie rfl ⟨rfl, rfl⟩ (by kernel_rfl) rfl plain (by kernel_rfl)
#print axioms card
end Go.Proofs.YtohhaonjckfkaaaDoor.kindRaw
namespace Go.Proofs.YtohhaonjckfkaaaDoor
/-- The card, under a short name, for the claim. -/
theorem kindRaw_holds : Rows.KindRawCardSaid := kindRaw.card
end Go.Proofs.YtohhaonjckfkaaaDoor
