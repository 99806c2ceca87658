/- Contracts of Go functions that the laws of this seat reach, by hand: each call returns what the Lean function of its name tells. Conditions: those that each theorem names, none else. -/
import Derived.Test.YtohhaonjckfkaaaDoorHandH7
namespace Go.Proofs.YtohhaonjckfkaaaDoor.Hand
open Go.RowKit Go.Proofs.YtohhaonjckfkaaaDoorW.PrintWords Go.Proofs.YtohhaonjckfkaaaDoorW.PrintLast Go.Proofs.YtohhaonjckfkaaaDoorW.PrintMore
attribute [local go_sem] max2_int min2_int max_two min_two max_three min_three max_four min_four
set_option linter.unusedVariables false
set_option linter.unusedSimpArgs false

attribute [local go_sem] guarded_true
theorem C1 (W : World) (x : Int) (t : TypeId) : Kd.C (Kd.int .i64) (W.alloc (.cells #[.int .i64 x] t)) (some ⟨W.heap.size, 0, none⟩) ([x] : List Int).length [x] :=
  Kd.C_of_reads (d := (0 : Int)) (h1 := fun _ => rfl) ⟨rfl, by rw [List.length_singleton]; omega, fun _ => ⟨_, rfl, fun j hj => by
    obtain rfl : j = 0 := by simpa using hj
    rw [Addr.add_zero']
    exact (blk_cell (blk_new W _) 0).trans rfl⟩⟩
theorem C0 (W : World) : Kd.C (Kd.int .i64) W none ([] : List Int).length [] :=
  Kd.C_of_reads (d := (0 : Int)) (h1 := fun _ => rfl) ⟨rfl, by decide, fun h => absurd h (by decide)⟩
def nA : Nd := { k := 3, inn := [0], wid := 0, size := 3, step := 2, gap := 2, left := 1, right := 2, ws := [], bs := [], mult := 0, shift := 0, low := 0, high := 0, post := 0 }
theorem nA1 : nA.span = 5 := by kernel_rfl
theorem nA2 : nA.first 1 = 1 := by kernel_rfl
theorem nA3 : nA.ready [7] = 2 := by kernel_rfl
theorem nA4 : nA.count [7] = 3 := by kernel_rfl
theorem nA5 : nA.chk [4] = 0 := by kernel_rfl
theorem nA6 : nA.stp ≠ 0 := by rw [show nA.stp = 2 by kernel_rfl]; decide
theorem keepA {w W : World} {g : Nat} {o : Obj} (h : Below w.heap.size w W ∧ W.heap[g]? = some o) (o' : Obj) : Below w.heap.size w (W.alloc o') ∧ (W.alloc o').heap[g]? = some o := ⟨below_alloc h.1 _, blk_alloc h.2 _⟩

theorem wl_boxg {n : Nd} {s : Ns} {ops : Array Oper} {Q : Exit → Act → World → Prop} {rest : List Oper} {a a1 : Act} {W : World} {g : Nat} {o : Oper} {p : Tmp} (hop : o.op = .load 29 (.tmp p)) (hw : Region.wanted o (yielded ops a.tmps) = true) (hp : a.eval (.tmp p) = .pointer (some ⟨g, 0, none⟩)) (hk : W.heap[g]? = some (n.box s))
    (ha : a.put o.dst (n.val s) = a1) (h : wpList Tryd.prog ops Q rest a1 W) : wpList Tryd.prog ops Q (o :: rest) a W := by
  subst ha
  unfold wpList
  rw [if_pos hw]
  refine .inl ?_
  unfold Oper.wp
  rw [run_box n s hop hp hk]
  exact h
set_option maxHeartbeats 4000000 in
set_option maxRecDepth 100000 in
theorem awake_c (w : World) (hG : Tab w) :
    Calls Tryd.prog 14 #[] w fun e w' => e = .returned (.bool true) ∧ Below w.heap.size w w' := by
  have huN := Tryd.underlying29
  have HG := Aside0.mk hG
  clear hG
  go_enter Tryd.func14, Tryd.ntmps14
  go_upto_region 2 with (fail)
  obtain ⟨n, hn⟩ : ∃ n : Nd, n = nA := ⟨_, rfl⟩
  have g1 : n.span = 5 := hn ▸ nA1
  have g2 : n.first 1 = 1 := hn ▸ nA2
  have g3 : n.ready [7] = 2 := hn ▸ nA3
  have g4 : n.count [7] = 3 := hn ▸ nA4
  have g5 : n.chk [4] = 0 := hn ▸ nA5
  have g6 : n.stp ≠ 0 := hn ▸ nA6
  have g7 : n.Short := hn ▸ ⟨by decide, by decide, by decide⟩
  obtain ⟨sA, hsA⟩ : ∃ sA : Ns, sA = { ia := some ⟨w.heap.size, 0, none⟩, ic := 1, wa := none, wc := 0, ba := none, bc := 0 } := ⟨_, rfl⟩
  have BK : Aside0 (Below w.heap.size w ((w.alloc (.cells #[.int .i64 0] 3)).alloc (n.box sA)) ∧ ((w.alloc (.cells #[.int .i64 0] 3)).alloc (n.box sA)).heap[w.heap.size + 1]? = some (n.box sA)) :=
    ⟨below_alloc (below_alloc (Below.refl _ _) _) _, by have h := blk_new (w.alloc (.cells #[.int .i64 0] 3)) (n.box sA); rwa [show (w.alloc (.cells #[.int .i64 0] 3)).heap.size = w.heap.size + 1 by simp] at h⟩
  have HAt : Aside0 (n.At sA ((w.alloc (.cells #[.int .i64 0] 3)).alloc (n.box sA))) := by
    subst hsA hn
    exact ⟨(⟨C1 w 0 _, Nat.le_refl _, C0 _, Nat.le_refl _, C0 _, Nat.le_refl _⟩ : nA.At _ (w.alloc (.cells #[.int .i64 0] 3))).below (below_alloc (Below.refl _ _) _)⟩
  have hw0 : (Obj.cells #[.int .i64 3, .slice (some ⟨w.heap.size, 0, none⟩) 1 1, .int .i64 0, .int .i64 3, .int .i64 2, .int .i64 2, .int .i64 1, .int .i64 2, .slice none 0 0, .slice none 0 0, .int .i64 0, .int .i64 0, .int .i64 0, .int .i64 0, .int .i64 0] 29 (0, 0)) = n.box sA := by subst hsA hn; rfl
  rw [hw0]
  clear hw0 hn hsA
  generalize (w.alloc (.cells #[.int .i64 0] 3)).alloc (n.box sA) = w1 at BK HAt ⊢
  go_wp2_with (first | (refine wl_boxg (a1 := ?_) rfl (by first | exact wanted_none rfl | exact (ow_wt rfl rfl).trans rfl) rfl BK.out.2 ?_ ?_; rotate_left 1; (· simp only [Act.put, List.setIfInBounds_toArray, List.set_cons_zero, List.set_cons_succ, guarded_true, i64_w, i32_w]; with_reducible rfl)) | (go_at_call 19; refine (Span_c n sA _ (Tab.below HG.out BK.out.1)).mono ?_; rintro e w2 ⟨he, hb⟩; rw [g1] at he; subst he; have BK' := Aside0.mk (keepB BK.out hb); have HAt' := Aside0.mk (HAt.out.below hb); clear BK HAt hb; have BK := BK'; have HAt := HAt'; clear BK' HAt') | (go_at_call 22; refine (First_c n sA _ _ (Tab.below HG.out BK.out.1)).mono ?_; rintro e w2 ⟨he, hb⟩; rw [g2] at he; subst he; have BK' := Aside0.mk (keepB BK.out hb); have HAt' := Aside0.mk (HAt.out.below hb); clear BK HAt hb; have BK := BK'; have HAt := HAt'; clear BK' HAt') | (go_at_call 20; refine (Ready_c n sA _ _ [7] _ (Tab.below HG.out (keepA BK.out _).1) (C1 _ 7 _) (by decide) (by decide) g6).mono ?_; rintro e w2 ⟨he, hb⟩; rw [g3] at he; subst he; have BK' := Aside0.mk (keepB (keepA BK.out _) hb); have HAt' := Aside0.mk ((HAt.out.below (below_alloc (Below.refl _ _) _)).below hb); clear BK HAt hb; have BK := BK'; have HAt := HAt'; clear BK' HAt') | (go_at_call 21; refine (Count_c n sA _ _ [7] _ (Tab.below HG.out (keepA BK.out _).1) (C1 _ 7 _) (by decide) (by decide) g6).mono ?_; rintro e w2 ⟨he, hb⟩; rw [g4] at he; subst he; have BK' := Aside0.mk (keepB (keepA BK.out _) hb); have HAt' := Aside0.mk ((HAt.out.below (below_alloc (Below.refl _ _) _)).below hb); clear BK HAt hb; have BK := BK'; have HAt := HAt'; clear BK' HAt') | (go_at_call 35; refine (Check_c n sA _ _ [4] _ (Tab.below HG.out (keepA BK.out _).1) (HAt.out.below (below_alloc (Below.refl _ _) _)) g7 (C1 _ 4 _) (by decide) (by decide)).mono ?_; rintro e w2 ⟨he, hb⟩; rw [g5] at he; subst he; have BK' := Aside0.mk (keepB (keepA BK.out _) hb); have HAt' := Aside0.mk ((HAt.out.below (below_alloc (Below.refl _ _) _)).below hb); clear BK HAt hb; have BK := BK'; have HAt := HAt'; clear BK' HAt'))

  go_ret
  exact ⟨rfl, BK.out.1⟩
end Go.Proofs.YtohhaonjckfkaaaDoor.Hand
