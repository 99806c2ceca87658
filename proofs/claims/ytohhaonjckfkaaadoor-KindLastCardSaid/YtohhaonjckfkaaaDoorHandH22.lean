/- Contracts of Go functions that the laws of this seat reach, by hand: each call returns what the Lean function of its name tells. Conditions: those that each theorem names, none else. -/
import Derived.Test.YtohhaonjckfkaaaDoorHandHP
namespace Go.Proofs.YtohhaonjckfkaaaDoor.Hand
open Go.RowKit Go.Proofs.YtohhaonjckfkaaaDoorW.PrintWords Go.Proofs.YtohhaonjckfkaaaDoorW.PrintLast Go.Proofs.YtohhaonjckfkaaaDoorW.PrintMore
attribute [local go_sem] max2_int min2_int max_two min_two max_three min_three max_four min_four
set_option linter.unusedVariables false
set_option linter.unusedSimpArgs false

attribute [local go_sem] guarded_true
/-- what spoilt knows: its node, its turn, its result -/
structure Pst (n : Nd) (s : Ns) (how nn : Int) (w W : World) : Prop where
  bel : Below w.heap.size w W
  box : W.heap[w.heap.size]? = some (n.box s)
  q : W.heap[w.heap.size + 1]? = some (.cells #[.int .i64 how, .int .i64 nn] 26 (0, 0))
  res : W.heap[w.heap.size + 2]? = some (zN.box zS)
section
variable {n : Nd} {s : Ns} {how nn : Int} {w W W' : World}
theorem Pst.step (h : Pst n s how nn w W) (hb : Below W.heap.size W W') : Pst n s how nn w W' := ⟨below_step h.bel hb, blk_below h.box hb, blk_below h.q hb, blk_below h.res hb⟩
theorem Pst.put (h : Pst n s how nn w W) (j : Nat) (v : Value) (n' : Nd) (s' : Ns) (e : (n.cells s).setIfInBounds j v = n'.cells s') : Pst n' s' how nn w (W.setCell ⟨w.heap.size, j, none⟩ v) :=
  ⟨below_set h.bel (Nat.le_refl _), blk_put h.box j v e, blk_far h.q (p := ⟨w.heap.size, j, none⟩) (by show w.heap.size + 1 ≠ w.heap.size; omega) v, blk_far h.res (p := ⟨w.heap.size, j, none⟩) (by show w.heap.size + 2 ≠ w.heap.size; omega) v⟩
theorem Pst.far (h : Pst n s how nn w W) (g : Nat) (hg : w.heap.size + 2 < g) (j : Nat) (v : Value) : Pst n s how nn w (W.setCell ⟨g, j, none⟩ v) :=
  ⟨below_set h.bel (by omega), blk_far h.box (p := ⟨g, j, none⟩) (by show w.heap.size ≠ g; omega) v, blk_far h.q (p := ⟨g, j, none⟩) (by show w.heap.size + 1 ≠ g; omega) v, blk_far h.res (p := ⟨g, j, none⟩) (by show w.heap.size + 2 ≠ g; omega) v⟩
end
/-- a node spoilt once: it still lies where it says, and no row is much longer -/
def More1 (n n' : Nd) : Prop := n'.inn.length ≤ n.inn.length + 1 ∧ n'.ws.length ≤ n.ws.length + 1 ∧ n'.bs.length ≤ n.bs.length + 1
set_option maxHeartbeats 8000000 in
set_option maxRecDepth 100000 in
theorem spoilt_c (n : Nd) (s : Ns) (how nn : Int) (w : World) (hA : n.At s w) (hi_ : n.inn.length ≤ 5000) (hw_ : n.ws.length ≤ 5000) (hb_ : n.bs.length ≤ 5000) :
    Calls Tryd.prog 16 #[n.val s, .agg #[.int .i64 how, .int .i64 nn]] w fun e w' => ∃ n' s', e = .returned (n'.val s') ∧ n'.At s' w' ∧ More1 n n' ∧ Below w.heap.size w w' := by
  have huN := Tryd.underlying29
  have HA := Aside0.mk hA
  clear hA
  go_enter Tryd.func16, Tryd.ntmps16
  go_upto_region 1 with (fail)
  rw [zbox]
  have PS : Aside0 (Pst n s how nn w (((w.alloc (n.box s)).alloc (.cells #[.int .i64 how, .int .i64 nn] 26)).alloc (zN.box zS))) := by
    have h1 := blk_alloc (blk_new (w.alloc (n.box s)) (.cells #[.int .i64 how, .int .i64 nn] 26)) (zN.box zS)
    have h2 := blk_new ((w.alloc (n.box s)).alloc (.cells #[.int .i64 how, .int .i64 nn] 26)) (zN.box zS)
    rw [size_alloc] at h1
    rw [size_alloc, size_alloc] at h2
    exact ⟨⟨below_alloc (below_alloc (below_alloc (Below.refl _ _) _) _) _, blk_alloc (blk_alloc (blk_new w _) _) _, h1, h2⟩⟩
  generalize ((w.alloc (n.box s)).alloc (.cells #[.int .i64 how, .int .i64 nn] 26)).alloc (zN.box zS) = W0 at PS ⊢
  have hcz := bcs15 PS.out.box
  have hcq := bcs2 PS.out.q
  have hz : 0 ≤ Go.bits .and .i64 how 15 ∧ Go.bits .and .i64 how 15 ≤ 15 := by
    have e : Go.bits .and .i64 how 15 = how % 16 := and_mask how 4 (by decide)
    rw [e]; omega
  go_upto_region 3 with (fail)
  generalize Go.bits .and .i64 how 15 = z at hz ⊢
  have hzz : z = 0 ∨ z = 1 ∨ z = 2 ∨ z = 3 ∨ z = 4 ∨ z = 5 ∨ z = 6 ∨ z = 7 ∨ z = 8 ∨ z = 9 ∨ z = 10 ∨ z = 11 ∨ z = 12 ∨ z = 13 ∨ z = 14 ∨ z = 15 := by omega
  clear hz
  rcases hzz with rfl | rfl | rfl | rfl | rfl | rfl | rfl | rfl | rfl | rfl | rfl | rfl | rfl | rfl | rfl | rfl
  · go_upto_region 36 with (fail)
    have PS' : Aside0 (Pst { n with k := nn } s how nn w (W0.setCell ⟨w.heap.size, 0, none⟩ (.int .i64 nn))) := ⟨PS.out.put 0 _ _ _ rfl⟩
    clear PS hcz hcq
    generalize W0.setCell ⟨w.heap.size, 0, none⟩ (.int .i64 nn) = W1 at PS' ⊢
    obtain ⟨n1, hn1⟩ : ∃ n_ : Nd, n_ = { n with k := nn } := ⟨_, rfl⟩
    rw [← hn1] at PS'
    have PS := PS'
    clear PS'
    have Hn1 := Aside0.mk hn1
    clear hn1
    have hcz := bcs15 PS.out.box
    go_wp2_with (first | (refine wl_box (a1 := ?_) rfl rfl rfl PS.out.box ?_ ?_; rotate_left 1; (· simp only [Act.put, List.setIfInBounds_toArray, List.set_cons_zero, List.set_cons_succ, guarded_true, i64_w, i32_w]; with_reducible rfl)) | (refine wl_stbox (n := n1) (s := s) (a1 := ?_) rfl rfl rfl rfl PS.out.res rfl ?_ ?_; rotate_left 1; (· simp only [Act.put, List.setIfInBounds_toArray, List.set_cons_zero, List.set_cons_succ]; with_reducible rfl)))
    have hi : (Tryd.prog.info? 29).map (·.size) = some (n1.cells s).size := (show (Tryd.prog.info? 29).map (·.size) = some 15 by kernel_rfl)
    (try simp only [Exit.inBlock, Exit.then])
    refine bodyPost_ret (results_cell_row rfl _ _ (w.heap.size + 2) 29 (n1.cells s) (0, 0) _ rfl (setRow_box PS.out.res) huN rfl hi) rfl ?_
    refine ⟨n1, s, rfl, ?_, ?_, below_setRow PS.out.bel (by omega) _⟩
    · exact (HA.out.below (below_setRow PS.out.bel (by omega) _)).same (by rw [Hn1.out]) (by rw [Hn1.out]) (by rw [Hn1.out])
    · rw [Hn1.out]; exact ⟨Nat.le_succ _, Nat.le_succ _, Nat.le_succ _⟩
  · go_upto_region 36 with (fail)
    have PS' : Aside0 (Pst { n with wid := nn } s how nn w (W0.setCell ⟨w.heap.size, 2, none⟩ (.int .i64 nn))) := ⟨PS.out.put 2 _ _ _ rfl⟩
    clear PS hcz hcq
    generalize W0.setCell ⟨w.heap.size, 2, none⟩ (.int .i64 nn) = W1 at PS' ⊢
    obtain ⟨n1, hn1⟩ : ∃ n_ : Nd, n_ = { n with wid := nn } := ⟨_, rfl⟩
    rw [← hn1] at PS'
    have PS := PS'
    clear PS'
    have Hn1 := Aside0.mk hn1
    clear hn1
    have hcz := bcs15 PS.out.box
    go_wp2_with (first | (refine wl_box (a1 := ?_) rfl rfl rfl PS.out.box ?_ ?_; rotate_left 1; (· simp only [Act.put, List.setIfInBounds_toArray, List.set_cons_zero, List.set_cons_succ, guarded_true, i64_w, i32_w]; with_reducible rfl)) | (refine wl_stbox (n := n1) (s := s) (a1 := ?_) rfl rfl rfl rfl PS.out.res rfl ?_ ?_; rotate_left 1; (· simp only [Act.put, List.setIfInBounds_toArray, List.set_cons_zero, List.set_cons_succ]; with_reducible rfl)))
    have hi : (Tryd.prog.info? 29).map (·.size) = some (n1.cells s).size := (show (Tryd.prog.info? 29).map (·.size) = some 15 by kernel_rfl)
    (try simp only [Exit.inBlock, Exit.then])
    refine bodyPost_ret (results_cell_row rfl _ _ (w.heap.size + 2) 29 (n1.cells s) (0, 0) _ rfl (setRow_box PS.out.res) huN rfl hi) rfl ?_
    refine ⟨n1, s, rfl, ?_, ?_, below_setRow PS.out.bel (by omega) _⟩
    · exact (HA.out.below (below_setRow PS.out.bel (by omega) _)).same (by rw [Hn1.out]) (by rw [Hn1.out]) (by rw [Hn1.out])
    · rw [Hn1.out]; exact ⟨Nat.le_succ _, Nat.le_succ _, Nat.le_succ _⟩
  · go_upto_region 36 with (fail)
    have PS' : Aside0 (Pst { n with size := nn } s how nn w (W0.setCell ⟨w.heap.size, 3, none⟩ (.int .i64 nn))) := ⟨PS.out.put 3 _ _ _ rfl⟩
    clear PS hcz hcq
    generalize W0.setCell ⟨w.heap.size, 3, none⟩ (.int .i64 nn) = W1 at PS' ⊢
    obtain ⟨n1, hn1⟩ : ∃ n_ : Nd, n_ = { n with size := nn } := ⟨_, rfl⟩
    rw [← hn1] at PS'
    have PS := PS'
    clear PS'
    have Hn1 := Aside0.mk hn1
    clear hn1
    have hcz := bcs15 PS.out.box
    go_wp2_with (first | (refine wl_box (a1 := ?_) rfl rfl rfl PS.out.box ?_ ?_; rotate_left 1; (· simp only [Act.put, List.setIfInBounds_toArray, List.set_cons_zero, List.set_cons_succ, guarded_true, i64_w, i32_w]; with_reducible rfl)) | (refine wl_stbox (n := n1) (s := s) (a1 := ?_) rfl rfl rfl rfl PS.out.res rfl ?_ ?_; rotate_left 1; (· simp only [Act.put, List.setIfInBounds_toArray, List.set_cons_zero, List.set_cons_succ]; with_reducible rfl)))
    have hi : (Tryd.prog.info? 29).map (·.size) = some (n1.cells s).size := (show (Tryd.prog.info? 29).map (·.size) = some 15 by kernel_rfl)
    (try simp only [Exit.inBlock, Exit.then])
    refine bodyPost_ret (results_cell_row rfl _ _ (w.heap.size + 2) 29 (n1.cells s) (0, 0) _ rfl (setRow_box PS.out.res) huN rfl hi) rfl ?_
    refine ⟨n1, s, rfl, ?_, ?_, below_setRow PS.out.bel (by omega) _⟩
    · exact (HA.out.below (below_setRow PS.out.bel (by omega) _)).same (by rw [Hn1.out]) (by rw [Hn1.out]) (by rw [Hn1.out])
    · rw [Hn1.out]; exact ⟨Nat.le_succ _, Nat.le_succ _, Nat.le_succ _⟩
  · go_upto_region 36 with (fail)
    have PS' : Aside0 (Pst { n with step := nn } s how nn w (W0.setCell ⟨w.heap.size, 4, none⟩ (.int .i64 nn))) := ⟨PS.out.put 4 _ _ _ rfl⟩
    clear PS hcz hcq
    generalize W0.setCell ⟨w.heap.size, 4, none⟩ (.int .i64 nn) = W1 at PS' ⊢
    obtain ⟨n1, hn1⟩ : ∃ n_ : Nd, n_ = { n with step := nn } := ⟨_, rfl⟩
    rw [← hn1] at PS'
    have PS := PS'
    clear PS'
    have Hn1 := Aside0.mk hn1
    clear hn1
    have hcz := bcs15 PS.out.box
    go_wp2_with (first | (refine wl_box (a1 := ?_) rfl rfl rfl PS.out.box ?_ ?_; rotate_left 1; (· simp only [Act.put, List.setIfInBounds_toArray, List.set_cons_zero, List.set_cons_succ, guarded_true, i64_w, i32_w]; with_reducible rfl)) | (refine wl_stbox (n := n1) (s := s) (a1 := ?_) rfl rfl rfl rfl PS.out.res rfl ?_ ?_; rotate_left 1; (· simp only [Act.put, List.setIfInBounds_toArray, List.set_cons_zero, List.set_cons_succ]; with_reducible rfl)))
    have hi : (Tryd.prog.info? 29).map (·.size) = some (n1.cells s).size := (show (Tryd.prog.info? 29).map (·.size) = some 15 by kernel_rfl)
    (try simp only [Exit.inBlock, Exit.then])
    refine bodyPost_ret (results_cell_row rfl _ _ (w.heap.size + 2) 29 (n1.cells s) (0, 0) _ rfl (setRow_box PS.out.res) huN rfl hi) rfl ?_
    refine ⟨n1, s, rfl, ?_, ?_, below_setRow PS.out.bel (by omega) _⟩
    · exact (HA.out.below (below_setRow PS.out.bel (by omega) _)).same (by rw [Hn1.out]) (by rw [Hn1.out]) (by rw [Hn1.out])
    · rw [Hn1.out]; exact ⟨Nat.le_succ _, Nat.le_succ _, Nat.le_succ _⟩
  · go_upto_region 36 with (fail)
    have PS' : Aside0 (Pst { n with gap := nn } s how nn w (W0.setCell ⟨w.heap.size, 5, none⟩ (.int .i64 nn))) := ⟨PS.out.put 5 _ _ _ rfl⟩
    clear PS hcz hcq
    generalize W0.setCell ⟨w.heap.size, 5, none⟩ (.int .i64 nn) = W1 at PS' ⊢
    obtain ⟨n1, hn1⟩ : ∃ n_ : Nd, n_ = { n with gap := nn } := ⟨_, rfl⟩
    rw [← hn1] at PS'
    have PS := PS'
    clear PS'
    have Hn1 := Aside0.mk hn1
    clear hn1
    have hcz := bcs15 PS.out.box
    go_wp2_with (first | (refine wl_box (a1 := ?_) rfl rfl rfl PS.out.box ?_ ?_; rotate_left 1; (· simp only [Act.put, List.setIfInBounds_toArray, List.set_cons_zero, List.set_cons_succ, guarded_true, i64_w, i32_w]; with_reducible rfl)) | (refine wl_stbox (n := n1) (s := s) (a1 := ?_) rfl rfl rfl rfl PS.out.res rfl ?_ ?_; rotate_left 1; (· simp only [Act.put, List.setIfInBounds_toArray, List.set_cons_zero, List.set_cons_succ]; with_reducible rfl)))
    have hi : (Tryd.prog.info? 29).map (·.size) = some (n1.cells s).size := (show (Tryd.prog.info? 29).map (·.size) = some 15 by kernel_rfl)
    (try simp only [Exit.inBlock, Exit.then])
    refine bodyPost_ret (results_cell_row rfl _ _ (w.heap.size + 2) 29 (n1.cells s) (0, 0) _ rfl (setRow_box PS.out.res) huN rfl hi) rfl ?_
    refine ⟨n1, s, rfl, ?_, ?_, below_setRow PS.out.bel (by omega) _⟩
    · exact (HA.out.below (below_setRow PS.out.bel (by omega) _)).same (by rw [Hn1.out]) (by rw [Hn1.out]) (by rw [Hn1.out])
    · rw [Hn1.out]; exact ⟨Nat.le_succ _, Nat.le_succ _, Nat.le_succ _⟩
  · go_upto_region 36 with (fail)
    have PS' : Aside0 (Pst { n with left := nn } s how nn w (W0.setCell ⟨w.heap.size, 6, none⟩ (.int .i64 nn))) := ⟨PS.out.put 6 _ _ _ rfl⟩
    clear PS hcz hcq
    generalize W0.setCell ⟨w.heap.size, 6, none⟩ (.int .i64 nn) = W1 at PS' ⊢
    obtain ⟨n1, hn1⟩ : ∃ n_ : Nd, n_ = { n with left := nn } := ⟨_, rfl⟩
    rw [← hn1] at PS'
    have PS := PS'
    clear PS'
    have Hn1 := Aside0.mk hn1
    clear hn1
    have hcz := bcs15 PS.out.box
    go_wp2_with (first | (refine wl_box (a1 := ?_) rfl rfl rfl PS.out.box ?_ ?_; rotate_left 1; (· simp only [Act.put, List.setIfInBounds_toArray, List.set_cons_zero, List.set_cons_succ, guarded_true, i64_w, i32_w]; with_reducible rfl)) | (refine wl_stbox (n := n1) (s := s) (a1 := ?_) rfl rfl rfl rfl PS.out.res rfl ?_ ?_; rotate_left 1; (· simp only [Act.put, List.setIfInBounds_toArray, List.set_cons_zero, List.set_cons_succ]; with_reducible rfl)))
    have hi : (Tryd.prog.info? 29).map (·.size) = some (n1.cells s).size := (show (Tryd.prog.info? 29).map (·.size) = some 15 by kernel_rfl)
    (try simp only [Exit.inBlock, Exit.then])
    refine bodyPost_ret (results_cell_row rfl _ _ (w.heap.size + 2) 29 (n1.cells s) (0, 0) _ rfl (setRow_box PS.out.res) huN rfl hi) rfl ?_
    refine ⟨n1, s, rfl, ?_, ?_, below_setRow PS.out.bel (by omega) _⟩
    · exact (HA.out.below (below_setRow PS.out.bel (by omega) _)).same (by rw [Hn1.out]) (by rw [Hn1.out]) (by rw [Hn1.out])
    · rw [Hn1.out]; exact ⟨Nat.le_succ _, Nat.le_succ _, Nat.le_succ _⟩
  · go_upto_region 36 with (fail)
    have PS' : Aside0 (Pst { n with right := nn } s how nn w (W0.setCell ⟨w.heap.size, 7, none⟩ (.int .i64 nn))) := ⟨PS.out.put 7 _ _ _ rfl⟩
    clear PS hcz hcq
    generalize W0.setCell ⟨w.heap.size, 7, none⟩ (.int .i64 nn) = W1 at PS' ⊢
    obtain ⟨n1, hn1⟩ : ∃ n_ : Nd, n_ = { n with right := nn } := ⟨_, rfl⟩
    rw [← hn1] at PS'
    have PS := PS'
    clear PS'
    have Hn1 := Aside0.mk hn1
    clear hn1
    have hcz := bcs15 PS.out.box
    go_wp2_with (first | (refine wl_box (a1 := ?_) rfl rfl rfl PS.out.box ?_ ?_; rotate_left 1; (· simp only [Act.put, List.setIfInBounds_toArray, List.set_cons_zero, List.set_cons_succ, guarded_true, i64_w, i32_w]; with_reducible rfl)) | (refine wl_stbox (n := n1) (s := s) (a1 := ?_) rfl rfl rfl rfl PS.out.res rfl ?_ ?_; rotate_left 1; (· simp only [Act.put, List.setIfInBounds_toArray, List.set_cons_zero, List.set_cons_succ]; with_reducible rfl)))
    have hi : (Tryd.prog.info? 29).map (·.size) = some (n1.cells s).size := (show (Tryd.prog.info? 29).map (·.size) = some 15 by kernel_rfl)
    (try simp only [Exit.inBlock, Exit.then])
    refine bodyPost_ret (results_cell_row rfl _ _ (w.heap.size + 2) 29 (n1.cells s) (0, 0) _ rfl (setRow_box PS.out.res) huN rfl hi) rfl ?_
    refine ⟨n1, s, rfl, ?_, ?_, below_setRow PS.out.bel (by omega) _⟩
    · exact (HA.out.below (below_setRow PS.out.bel (by omega) _)).same (by rw [Hn1.out]) (by rw [Hn1.out]) (by rw [Hn1.out])
    · rw [Hn1.out]; exact ⟨Nat.le_succ _, Nat.le_succ _, Nat.le_succ _⟩
  · go_upto_region 36 with (fail)
    have PS' : Aside0 (Pst { n with mult := nn } s how nn w (W0.setCell ⟨w.heap.size, 10, none⟩ (.int .i64 nn))) := ⟨PS.out.put 10 _ _ _ rfl⟩
    clear PS hcz hcq
    generalize W0.setCell ⟨w.heap.size, 10, none⟩ (.int .i64 nn) = W1 at PS' ⊢
    obtain ⟨n1, hn1⟩ : ∃ n_ : Nd, n_ = { n with mult := nn } := ⟨_, rfl⟩
    rw [← hn1] at PS'
    have PS := PS'
    clear PS'
    have Hn1 := Aside0.mk hn1
    clear hn1
    have hcz := bcs15 PS.out.box
    go_wp2_with (first | (refine wl_box (a1 := ?_) rfl rfl rfl PS.out.box ?_ ?_; rotate_left 1; (· simp only [Act.put, List.setIfInBounds_toArray, List.set_cons_zero, List.set_cons_succ, guarded_true, i64_w, i32_w]; with_reducible rfl)) | (refine wl_stbox (n := n1) (s := s) (a1 := ?_) rfl rfl rfl rfl PS.out.res rfl ?_ ?_; rotate_left 1; (· simp only [Act.put, List.setIfInBounds_toArray, List.set_cons_zero, List.set_cons_succ]; with_reducible rfl)))
    have hi : (Tryd.prog.info? 29).map (·.size) = some (n1.cells s).size := (show (Tryd.prog.info? 29).map (·.size) = some 15 by kernel_rfl)
    (try simp only [Exit.inBlock, Exit.then])
    refine bodyPost_ret (results_cell_row rfl _ _ (w.heap.size + 2) 29 (n1.cells s) (0, 0) _ rfl (setRow_box PS.out.res) huN rfl hi) rfl ?_
    refine ⟨n1, s, rfl, ?_, ?_, below_setRow PS.out.bel (by omega) _⟩
    · exact (HA.out.below (below_setRow PS.out.bel (by omega) _)).same (by rw [Hn1.out]) (by rw [Hn1.out]) (by rw [Hn1.out])
    · rw [Hn1.out]; exact ⟨Nat.le_succ _, Nat.le_succ _, Nat.le_succ _⟩
  · go_upto_region 36 with (fail)
    have PS' : Aside0 (Pst { n with shift := nn } s how nn w (W0.setCell ⟨w.heap.size, 11, none⟩ (.int .i64 nn))) := ⟨PS.out.put 11 _ _ _ rfl⟩
    clear PS hcz hcq
    generalize W0.setCell ⟨w.heap.size, 11, none⟩ (.int .i64 nn) = W1 at PS' ⊢
    obtain ⟨n1, hn1⟩ : ∃ n_ : Nd, n_ = { n with shift := nn } := ⟨_, rfl⟩
    rw [← hn1] at PS'
    have PS := PS'
    clear PS'
    have Hn1 := Aside0.mk hn1
    clear hn1
    have hcz := bcs15 PS.out.box
    go_wp2_with (first | (refine wl_box (a1 := ?_) rfl rfl rfl PS.out.box ?_ ?_; rotate_left 1; (· simp only [Act.put, List.setIfInBounds_toArray, List.set_cons_zero, List.set_cons_succ, guarded_true, i64_w, i32_w]; with_reducible rfl)) | (refine wl_stbox (n := n1) (s := s) (a1 := ?_) rfl rfl rfl rfl PS.out.res rfl ?_ ?_; rotate_left 1; (· simp only [Act.put, List.setIfInBounds_toArray, List.set_cons_zero, List.set_cons_succ]; with_reducible rfl)))
    have hi : (Tryd.prog.info? 29).map (·.size) = some (n1.cells s).size := (show (Tryd.prog.info? 29).map (·.size) = some 15 by kernel_rfl)
    (try simp only [Exit.inBlock, Exit.then])
    refine bodyPost_ret (results_cell_row rfl _ _ (w.heap.size + 2) 29 (n1.cells s) (0, 0) _ rfl (setRow_box PS.out.res) huN rfl hi) rfl ?_
    refine ⟨n1, s, rfl, ?_, ?_, below_setRow PS.out.bel (by omega) _⟩
    · exact (HA.out.below (below_setRow PS.out.bel (by omega) _)).same (by rw [Hn1.out]) (by rw [Hn1.out]) (by rw [Hn1.out])
    · rw [Hn1.out]; exact ⟨Nat.le_succ _, Nat.le_succ _, Nat.le_succ _⟩
  · go_upto_region 36 with (fail)
    have PS' : Aside0 (Pst { n with low := nn } s how nn w (W0.setCell ⟨w.heap.size, 12, none⟩ (.int .i64 nn))) := ⟨PS.out.put 12 _ _ _ rfl⟩
    clear PS hcz hcq
    generalize W0.setCell ⟨w.heap.size, 12, none⟩ (.int .i64 nn) = W1 at PS' ⊢
    obtain ⟨n1, hn1⟩ : ∃ n_ : Nd, n_ = { n with low := nn } := ⟨_, rfl⟩
    rw [← hn1] at PS'
    have PS := PS'
    clear PS'
    have Hn1 := Aside0.mk hn1
    clear hn1
    have hcz := bcs15 PS.out.box
    go_wp2_with (first | (refine wl_box (a1 := ?_) rfl rfl rfl PS.out.box ?_ ?_; rotate_left 1; (· simp only [Act.put, List.setIfInBounds_toArray, List.set_cons_zero, List.set_cons_succ, guarded_true, i64_w, i32_w]; with_reducible rfl)) | (refine wl_stbox (n := n1) (s := s) (a1 := ?_) rfl rfl rfl rfl PS.out.res rfl ?_ ?_; rotate_left 1; (· simp only [Act.put, List.setIfInBounds_toArray, List.set_cons_zero, List.set_cons_succ]; with_reducible rfl)))
    have hi : (Tryd.prog.info? 29).map (·.size) = some (n1.cells s).size := (show (Tryd.prog.info? 29).map (·.size) = some 15 by kernel_rfl)
    (try simp only [Exit.inBlock, Exit.then])
    refine bodyPost_ret (results_cell_row rfl _ _ (w.heap.size + 2) 29 (n1.cells s) (0, 0) _ rfl (setRow_box PS.out.res) huN rfl hi) rfl ?_
    refine ⟨n1, s, rfl, ?_, ?_, below_setRow PS.out.bel (by omega) _⟩
    · exact (HA.out.below (below_setRow PS.out.bel (by omega) _)).same (by rw [Hn1.out]) (by rw [Hn1.out]) (by rw [Hn1.out])
    · rw [Hn1.out]; exact ⟨Nat.le_succ _, Nat.le_succ _, Nat.le_succ _⟩
  · go_upto_region 36 with (fail)
    have PS' : Aside0 (Pst { n with high := nn } s how nn w (W0.setCell ⟨w.heap.size, 13, none⟩ (.int .i64 nn))) := ⟨PS.out.put 13 _ _ _ rfl⟩
    clear PS hcz hcq
    generalize W0.setCell ⟨w.heap.size, 13, none⟩ (.int .i64 nn) = W1 at PS' ⊢
    obtain ⟨n1, hn1⟩ : ∃ n_ : Nd, n_ = { n with high := nn } := ⟨_, rfl⟩
    rw [← hn1] at PS'
    have PS := PS'
    clear PS'
    have Hn1 := Aside0.mk hn1
    clear hn1
    have hcz := bcs15 PS.out.box
    go_wp2_with (first | (refine wl_box (a1 := ?_) rfl rfl rfl PS.out.box ?_ ?_; rotate_left 1; (· simp only [Act.put, List.setIfInBounds_toArray, List.set_cons_zero, List.set_cons_succ, guarded_true, i64_w, i32_w]; with_reducible rfl)) | (refine wl_stbox (n := n1) (s := s) (a1 := ?_) rfl rfl rfl rfl PS.out.res rfl ?_ ?_; rotate_left 1; (· simp only [Act.put, List.setIfInBounds_toArray, List.set_cons_zero, List.set_cons_succ]; with_reducible rfl)))
    have hi : (Tryd.prog.info? 29).map (·.size) = some (n1.cells s).size := (show (Tryd.prog.info? 29).map (·.size) = some 15 by kernel_rfl)
    (try simp only [Exit.inBlock, Exit.then])
    refine bodyPost_ret (results_cell_row rfl _ _ (w.heap.size + 2) 29 (n1.cells s) (0, 0) _ rfl (setRow_box PS.out.res) huN rfl hi) rfl ?_
    refine ⟨n1, s, rfl, ?_, ?_, below_setRow PS.out.bel (by omega) _⟩
    · exact (HA.out.below (below_setRow PS.out.bel (by omega) _)).same (by rw [Hn1.out]) (by rw [Hn1.out]) (by rw [Hn1.out])
    · rw [Hn1.out]; exact ⟨Nat.le_succ _, Nat.le_succ _, Nat.le_succ _⟩
  · go_upto_region 36 with (fail)
    have PS' : Aside0 (Pst { n with post := nn } s how nn w (W0.setCell ⟨w.heap.size, 14, none⟩ (.int .i64 nn))) := ⟨PS.out.put 14 _ _ _ rfl⟩
    clear PS hcz hcq
    generalize W0.setCell ⟨w.heap.size, 14, none⟩ (.int .i64 nn) = W1 at PS' ⊢
    obtain ⟨n1, hn1⟩ : ∃ n_ : Nd, n_ = { n with post := nn } := ⟨_, rfl⟩
    rw [← hn1] at PS'
    have PS := PS'
    clear PS'
    have Hn1 := Aside0.mk hn1
    clear hn1
    have hcz := bcs15 PS.out.box
    go_wp2_with (first | (refine wl_box (a1 := ?_) rfl rfl rfl PS.out.box ?_ ?_; rotate_left 1; (· simp only [Act.put, List.setIfInBounds_toArray, List.set_cons_zero, List.set_cons_succ, guarded_true, i64_w, i32_w]; with_reducible rfl)) | (refine wl_stbox (n := n1) (s := s) (a1 := ?_) rfl rfl rfl rfl PS.out.res rfl ?_ ?_; rotate_left 1; (· simp only [Act.put, List.setIfInBounds_toArray, List.set_cons_zero, List.set_cons_succ]; with_reducible rfl)))
    have hi : (Tryd.prog.info? 29).map (·.size) = some (n1.cells s).size := (show (Tryd.prog.info? 29).map (·.size) = some 15 by kernel_rfl)
    (try simp only [Exit.inBlock, Exit.then])
    refine bodyPost_ret (results_cell_row rfl _ _ (w.heap.size + 2) 29 (n1.cells s) (0, 0) _ rfl (setRow_box PS.out.res) huN rfl hi) rfl ?_
    refine ⟨n1, s, rfl, ?_, ?_, below_setRow PS.out.bel (by omega) _⟩
    · exact (HA.out.below (below_setRow PS.out.bel (by omega) _)).same (by rw [Hn1.out]) (by rw [Hn1.out]) (by rw [Hn1.out])
    · rw [Hn1.out]; exact ⟨Nat.le_succ _, Nat.le_succ _, Nat.le_succ _⟩
  · go_upto_region 28 with (fail)
    refine pl_ (id := 28) (S := fun W' => Below W0.heap.size W0 W') (.p 1 (.p 2 (.p 4 (.p 5 (.d 0 (.d 3 (.c 6 (.c 7 (.p 8 (.l [9])))) 6 (.c 3 (.c 7 (.p 8 (.l [9]))))) 6 (.c 0 (.c 3 (.c 7 (.p 8 (.l [9]))))))))))  [9] (by kernel_rfl) (by kernel_rfl) (below_drew1 (Below.refl _ _)) ?_
    intro w3 hS
    clear hcz hcq
    (refine pl_p (v := ?_) (a1 := ?_) (by simp only [List.getElem?_toArray, List.getElem?_cons_zero, List.getElem?_cons_succ]; rfl) rfl ?_ ?_ ?_ ?_; rotate_left 2; (· intro w_ hS_; have hcz := bcs15 (blk_below PS.out.box hS_); have hcq := bcs2 (blk_below PS.out.q hS_); go_simp; with_reducible rfl); (· simp only [Act.put, List.setIfInBounds_toArray, List.set_cons_zero, List.set_cons_succ, guarded_true, i64_w, i32_w]; with_reducible rfl); (· exact fun _ _ _ h => h))
    (refine pl_p (v := ?_) (a1 := ?_) (by simp only [List.getElem?_toArray, List.getElem?_cons_zero, List.getElem?_cons_succ]; rfl) rfl ?_ ?_ ?_ ?_; rotate_left 2; (· intro w_ hS_; have hcz := bcs15 (blk_below PS.out.box hS_); have hcq := bcs2 (blk_below PS.out.q hS_); go_simp; with_reducible rfl); (· simp only [Act.put, List.setIfInBounds_toArray, List.set_cons_zero, List.set_cons_succ, guarded_true, i64_w, i32_w]; with_reducible rfl); (· exact fun _ _ _ h => h))
    (refine pl_p (v := ?_) (a1 := ?_) (by simp only [List.getElem?_toArray, List.getElem?_cons_zero, List.getElem?_cons_succ]; rfl) rfl ?_ ?_ ?_ ?_; rotate_left 2; (· intro w_ hS_; have hcz := bcs15 (blk_below PS.out.box hS_); have hcq := bcs2 (blk_below PS.out.q hS_); go_simp; with_reducible rfl); (· simp only [Act.put, List.setIfInBounds_toArray, List.set_cons_zero, List.set_cons_succ, guarded_true, i64_w, i32_w]; with_reducible rfl); (· exact fun _ _ _ h => h))
    (refine pl_p (v := ?_) (a1 := ?_) (by simp only [List.getElem?_toArray, List.getElem?_cons_zero, List.getElem?_cons_succ]; rfl) rfl ?_ ?_ ?_ ?_; rotate_left 2; (· intro w_ hS_; have hcz := bcs15 (blk_below PS.out.box hS_); have hcq := bcs2 (blk_below PS.out.q hS_); go_simp; with_reducible rfl); (· simp only [Act.put, List.setIfInBounds_toArray, List.set_cons_zero, List.set_cons_succ, guarded_true, i64_w, i32_w]; with_reducible rfl); (· exact fun _ _ _ h => h))
    have h3 : W0.heap.size ≤ w3.heap.size := hS.size
    refine pl_d ?_ ?_
    · refine st_lit0 (w0 := W0) W0.heap.size (by simp only [List.getElem?_toArray, List.getElem?_cons_zero, List.getElem?_cons_succ]; rfl) rfl (by go_simp) hS h3 ?_
      intro v0 w4 hR4 hB4 hn4 ho4
      refine ⟨hB4, ?_⟩
      refine pl_norm (a1 := ?_) ?_ ?_
      rotate_left 1
      (· simp only [Act.put, List.setIfInBounds_toArray, List.set_cons_zero, List.set_cons_succ, guarded_true, i64_w, i32_w]; with_reducible rfl)
      have h4 : W0.heap.size ≤ w4.heap.size := hB4.size
      refine pl_d ?_ ?_
      · refine st_app (w0 := W0) W0.heap.size (.tmp 79) (.tmp 81) [] n.ws (by simp only [List.getElem?_toArray, List.getElem?_cons_zero, List.getElem?_cons_succ]; rfl) rfl rfl rfl rfl hR4 (Kd.C_below HA.out.hw (below_step PS.out.bel hB4)) hB4 h4 (by show 0 + n.ws.length ≤ 10000; omega) ?_
        intro v1 w5 hR5 hB5 hg5
        refine ⟨hB5, ?_⟩
        refine pl_norm (a1 := ?_) ?_ ?_
        rotate_left 1
        (· simp only [Act.put, List.setIfInBounds_toArray, List.set_cons_zero, List.set_cons_succ, guarded_true, i64_w, i32_w]; with_reducible rfl)
        have h5 : W0.heap.size ≤ w5.heap.size := hB5.size
        refine pl_c ?_
        refine st_lit1 (w0 := W0) W0.heap.size nn (by simp only [List.getElem?_toArray, List.getElem?_cons_zero, List.getElem?_cons_succ]; rfl) rfl (by go_simp) hB5 h5 ?_
        intro b w6 hb hb6 hB6 hn6
        refine ⟨hB6, ?_⟩
        refine pl_norm (a1 := ?_) ?_ ?_
        rotate_left 1
        (· simp only [Act.put, List.setIfInBounds_toArray, List.set_cons_zero, List.set_cons_succ, guarded_true, i64_w, i32_w]; with_reducible rfl)
        have hR6 := Kd.R_below hR5 hn6
        clear hR4 hB4 hn4 ho4 hR5 hB5 hg5 hn6 hb hS
        have h6 : W0.heap.size ≤ w6.heap.size := hB6.size
        refine pl_c ?_
        refine st_app (w0 := W0) W0.heap.size (.tmp 82) (.tmp 85) ([] ++ n.ws) [nn] (by simp only [List.getElem?_toArray, List.getElem?_cons_zero, List.getElem?_cons_succ]; rfl) rfl rfl rfl rfl hR6 (C1b hb6) hB6 h6 (by show n.ws.length + 1 ≤ 10000; omega) ?_
        intro v2 w7 hR7 hB7 hg7
        refine ⟨hB7, ?_⟩
        refine pl_norm (a1 := ?_) ?_ ?_
        rotate_left 1
        (· simp only [Act.put, List.setIfInBounds_toArray, List.set_cons_zero, List.set_cons_succ, guarded_true, i64_w, i32_w]; with_reducible rfl)
        (refine pl_p (v := ?_) (a1 := ?_) (by simp only [List.getElem?_toArray, List.getElem?_cons_zero, List.getElem?_cons_succ]; rfl) rfl ?_ ?_ ?_ ?_; rotate_left 2; (· intro w_ hS_; have hcz := bcs15 (blk_below PS.out.box hS_); have hcq := bcs2 (blk_below PS.out.q hS_); go_simp; with_reducible rfl); (· simp only [Act.put, List.setIfInBounds_toArray, List.set_cons_zero, List.set_cons_succ, guarded_true, i64_w, i32_w]; with_reducible rfl); (· exact fun _ _ _ h => h))
        have hlen : (([] ++ n.ws) ++ [nn]).length ≤ n.ws.length + 1 := by simp
        obtain ⟨A, c, rfl, hcl, hC, hfar⟩ := rowfar hR7
        clear hR7
        generalize ([] ++ n.ws) ++ [nn] = xs at hcl hC hfar hlen ⊢
        have hlt0 := blk_lt PS.out.res
        have PS7 := Aside0.mk (PS.out.step hB7)
        have hcz := bcs15 PS7.out.box
        refine pl_l ?_
        refine st_s (w1 := w7.setCell ⟨w.heap.size, 8, none⟩ (.slice A xs.length c)) (a1 := ?_) (by simp only [List.getElem?_toArray, List.getElem?_cons_zero, List.getElem?_cons_succ]; rfl) rfl (by go_simp) ?_ ⟨trivial, ?_⟩
        rotate_left 1
        (· simp only [Act.put, List.setIfInBounds_toArray, List.set_cons_zero, List.set_cons_succ, guarded_true, i64_w, i32_w]; with_reducible rfl)
        refine l_e ?_
        have PS' : Aside0 (Pst { n with ws := xs } { s with wa := A, wc := c } how nn w (w7.setCell ⟨w.heap.size, 8, none⟩ (.slice A xs.length c))) := ⟨PS7.out.put 8 _ _ _ rfl⟩
        have hC1 : Kd.C (Kd.int .i64) (w7.setCell ⟨w.heap.size, 8, none⟩ (.slice A xs.length c)) A xs.length xs := Kd.C_keep (0 : Int) hC (KeepBut.set_ (KeepBut.refl _ w.heap.size none) 8 _) (fun ad e h0 => by have := hfar ad e h0; omega)
        have hf1 : ∀ ad, A = some ad → 0 < xs.length → ad.block ≠ w.heap.size + 2 := fun ad e h0 => by have := hfar ad e h0; omega
        clear PS PS7 hcz hC hfar hb6 hR6 hB6 hB7 hg7
        generalize w7.setCell ⟨w.heap.size, 8, none⟩ (.slice A xs.length c) = W1 at PS' hC1 ⊢
        obtain ⟨n1, hn1⟩ : ∃ n_ : Nd, n_ = { n with ws := xs } := ⟨_, rfl⟩
        obtain ⟨s1, hs1⟩ : ∃ s_ : Ns, s_ = { s with wa := A, wc := c } := ⟨_, rfl⟩
        rw [← hn1, ← hs1] at PS'
        have PS := PS'
        clear PS'
        have HC1 := Aside0.mk hC1
        have HN1 := Aside0.mk (And.intro hn1 hs1)
        clear hC1 hn1 hs1
        go_upto_region 36 with (fail)
        have hcz := bcs15 PS.out.box
        go_wp2_with (first | (refine wl_box (a1 := ?_) rfl rfl rfl PS.out.box ?_ ?_; rotate_left 1; (· simp only [Act.put, List.setIfInBounds_toArray, List.set_cons_zero, List.set_cons_succ, guarded_true, i64_w, i32_w]; with_reducible rfl)) | (refine wl_stbox (n := n1) (s := s1) (a1 := ?_) rfl rfl rfl rfl PS.out.res rfl ?_ ?_; rotate_left 1; (· simp only [Act.put, List.setIfInBounds_toArray, List.set_cons_zero, List.set_cons_succ]; with_reducible rfl)))
        have hi : (Tryd.prog.info? 29).map (·.size) = some (n1.cells s1).size := (show (Tryd.prog.info? 29).map (·.size) = some 15 by kernel_rfl)
        (try simp only [Exit.inBlock, Exit.then])
        refine bodyPost_ret (results_cell_row rfl _ _ (w.heap.size + 2) 29 (n1.cells s1) (0, 0) _ rfl (setRow_box PS.out.res) huN rfl hi) rfl ?_
        refine ⟨n1, s1, rfl, ?_, ?_, below_setRow PS.out.bel (by omega) _⟩
        · have h := HA.out.below (below_setRow PS.out.bel (Nat.le_add_right _ 2) (n1.cells s1))
          have hC2 := Kd.C_keep (0 : Int) HC1.out (keepRow W1 (w.heap.size + 2) (n1.cells s1)) hf1
          obtain ⟨hn1, hs1⟩ := HN1.out
          rw [hn1, hs1] at h hC2 ⊢
          exact ⟨h.hi, h.ic, hC2, hcl, h.hb, h.bc⟩
        · rw [HN1.out.1]; exact ⟨Nat.le_succ _, hlen, Nat.le_succ _⟩
      · refine st_lit1 (w0 := W0) W0.heap.size nn (by simp only [List.getElem?_toArray, List.getElem?_cons_zero, List.getElem?_cons_succ]; rfl) rfl (by go_simp) hB4 h4 ?_
        intro b w5 hb hb5 hB5 hn5
        refine ⟨hB5, ?_⟩
        refine pl_norm (a1 := ?_) ?_ ?_
        rotate_left 1
        (· simp only [Act.put, List.setIfInBounds_toArray, List.set_cons_zero, List.set_cons_succ, guarded_true, i64_w, i32_w]; with_reducible rfl)
        have h5 : W0.heap.size ≤ w5.heap.size := hB5.size
        have hR5 := Kd.R_below hR4 hn5
        have hbne : some b ≠ v0.ownBlock := fun e => by have := Kd.R_lt hR4 b e.symm; omega
        refine pl_c ?_
        refine st_app (w0 := W0) W0.heap.size (.tmp 79) (.tmp 81) [] n.ws (by simp only [List.getElem?_toArray, List.getElem?_cons_zero, List.getElem?_cons_succ]; rfl) rfl rfl rfl rfl hR5 (Kd.C_below HA.out.hw (below_step PS.out.bel hB5)) hB5 h5 (by show 0 + n.ws.length ≤ 10000; omega) ?_
        intro v1 w6 hR6 hB6 hg6
        refine ⟨hB6, ?_⟩
        refine pl_norm (a1 := ?_) ?_ ?_
        rotate_left 1
        (· simp only [Act.put, List.setIfInBounds_toArray, List.set_cons_zero, List.set_cons_succ, guarded_true, i64_w, i32_w]; with_reducible rfl)
        have hb6 := blk_grown hb5 hg6 hbne
        clear hR4 hB4 hn4 ho4 hR5 hB5 hn5 hb5 hg6 hbne hb hS
        have h6 : W0.heap.size ≤ w6.heap.size := hB6.size
        refine pl_c ?_
        refine st_app (w0 := W0) W0.heap.size (.tmp 82) (.tmp 85) ([] ++ n.ws) [nn] (by simp only [List.getElem?_toArray, List.getElem?_cons_zero, List.getElem?_cons_succ]; rfl) rfl rfl rfl rfl hR6 (C1b hb6) hB6 h6 (by show n.ws.length + 1 ≤ 10000; omega) ?_
        intro v2 w7 hR7 hB7 hg7
        refine ⟨hB7, ?_⟩
        refine pl_norm (a1 := ?_) ?_ ?_
        rotate_left 1
        (· simp only [Act.put, List.setIfInBounds_toArray, List.set_cons_zero, List.set_cons_succ, guarded_true, i64_w, i32_w]; with_reducible rfl)
        (refine pl_p (v := ?_) (a1 := ?_) (by simp only [List.getElem?_toArray, List.getElem?_cons_zero, List.getElem?_cons_succ]; rfl) rfl ?_ ?_ ?_ ?_; rotate_left 2; (· intro w_ hS_; have hcz := bcs15 (blk_below PS.out.box hS_); have hcq := bcs2 (blk_below PS.out.q hS_); go_simp; with_reducible rfl); (· simp only [Act.put, List.setIfInBounds_toArray, List.set_cons_zero, List.set_cons_succ, guarded_true, i64_w, i32_w]; with_reducible rfl); (· exact fun _ _ _ h => h))
        have hlen : (([] ++ n.ws) ++ [nn]).length ≤ n.ws.length + 1 := by simp
        obtain ⟨A, c, rfl, hcl, hC, hfar⟩ := rowfar hR7
        clear hR7
        generalize ([] ++ n.ws) ++ [nn] = xs at hcl hC hfar hlen ⊢
        have hlt0 := blk_lt PS.out.res
        have PS7 := Aside0.mk (PS.out.step hB7)
        have hcz := bcs15 PS7.out.box
        refine pl_l ?_
        refine st_s (w1 := w7.setCell ⟨w.heap.size, 8, none⟩ (.slice A xs.length c)) (a1 := ?_) (by simp only [List.getElem?_toArray, List.getElem?_cons_zero, List.getElem?_cons_succ]; rfl) rfl (by go_simp) ?_ ⟨trivial, ?_⟩
        rotate_left 1
        (· simp only [Act.put, List.setIfInBounds_toArray, List.set_cons_zero, List.set_cons_succ, guarded_true, i64_w, i32_w]; with_reducible rfl)
        refine l_e ?_
        have PS' : Aside0 (Pst { n with ws := xs } { s with wa := A, wc := c } how nn w (w7.setCell ⟨w.heap.size, 8, none⟩ (.slice A xs.length c))) := ⟨PS7.out.put 8 _ _ _ rfl⟩
        have hC1 : Kd.C (Kd.int .i64) (w7.setCell ⟨w.heap.size, 8, none⟩ (.slice A xs.length c)) A xs.length xs := Kd.C_keep (0 : Int) hC (KeepBut.set_ (KeepBut.refl _ w.heap.size none) 8 _) (fun ad e h0 => by have := hfar ad e h0; omega)
        have hf1 : ∀ ad, A = some ad → 0 < xs.length → ad.block ≠ w.heap.size + 2 := fun ad e h0 => by have := hfar ad e h0; omega
        clear PS PS7 hcz hC hfar hb6 hR6 hB6 hB7 hg7
        generalize w7.setCell ⟨w.heap.size, 8, none⟩ (.slice A xs.length c) = W1 at PS' hC1 ⊢
        obtain ⟨n1, hn1⟩ : ∃ n_ : Nd, n_ = { n with ws := xs } := ⟨_, rfl⟩
        obtain ⟨s1, hs1⟩ : ∃ s_ : Ns, s_ = { s with wa := A, wc := c } := ⟨_, rfl⟩
        rw [← hn1, ← hs1] at PS'
        have PS := PS'
        clear PS'
        have HC1 := Aside0.mk hC1
        have HN1 := Aside0.mk (And.intro hn1 hs1)
        clear hC1 hn1 hs1
        go_upto_region 36 with (fail)
        have hcz := bcs15 PS.out.box
        go_wp2_with (first | (refine wl_box (a1 := ?_) rfl rfl rfl PS.out.box ?_ ?_; rotate_left 1; (· simp only [Act.put, List.setIfInBounds_toArray, List.set_cons_zero, List.set_cons_succ, guarded_true, i64_w, i32_w]; with_reducible rfl)) | (refine wl_stbox (n := n1) (s := s1) (a1 := ?_) rfl rfl rfl rfl PS.out.res rfl ?_ ?_; rotate_left 1; (· simp only [Act.put, List.setIfInBounds_toArray, List.set_cons_zero, List.set_cons_succ]; with_reducible rfl)))
        have hi : (Tryd.prog.info? 29).map (·.size) = some (n1.cells s1).size := (show (Tryd.prog.info? 29).map (·.size) = some 15 by kernel_rfl)
        (try simp only [Exit.inBlock, Exit.then])
        refine bodyPost_ret (results_cell_row rfl _ _ (w.heap.size + 2) 29 (n1.cells s1) (0, 0) _ rfl (setRow_box PS.out.res) huN rfl hi) rfl ?_
        refine ⟨n1, s1, rfl, ?_, ?_, below_setRow PS.out.bel (by omega) _⟩
        · have h := HA.out.below (below_setRow PS.out.bel (Nat.le_add_right _ 2) (n1.cells s1))
          have hC2 := Kd.C_keep (0 : Int) HC1.out (keepRow W1 (w.heap.size + 2) (n1.cells s1)) hf1
          obtain ⟨hn1, hs1⟩ := HN1.out
          rw [hn1, hs1] at h hC2 ⊢
          exact ⟨h.hi, h.ic, hC2, hcl, h.hb, h.bc⟩
        · rw [HN1.out.1]; exact ⟨Nat.le_succ _, hlen, Nat.le_succ _⟩
    · refine st_lit1 (w0 := W0) W0.heap.size nn (by simp only [List.getElem?_toArray, List.getElem?_cons_zero, List.getElem?_cons_succ]; rfl) rfl (by go_simp) hS h3 ?_
      intro b w4 hb hb4 hB4 hn4
      refine ⟨hB4, ?_⟩
      refine pl_norm (a1 := ?_) ?_ ?_
      rotate_left 1
      (· simp only [Act.put, List.setIfInBounds_toArray, List.set_cons_zero, List.set_cons_succ, guarded_true, i64_w, i32_w]; with_reducible rfl)
      have h4 : W0.heap.size ≤ w4.heap.size := hB4.size
      refine pl_c ?_
      refine st_lit0 (w0 := W0) W0.heap.size (by simp only [List.getElem?_toArray, List.getElem?_cons_zero, List.getElem?_cons_succ]; rfl) rfl (by go_simp) hB4 h4 ?_
      intro v0 w5 hR5 hB5 hn5 ho5
      refine ⟨hB5, ?_⟩
      refine pl_norm (a1 := ?_) ?_ ?_
      rotate_left 1
      (· simp only [Act.put, List.setIfInBounds_toArray, List.set_cons_zero, List.set_cons_succ, guarded_true, i64_w, i32_w]; with_reducible rfl)
      have h5 : W0.heap.size ≤ w5.heap.size := hB5.size
      have hb5 := blk_below hb4 hn5
      have hbne : some b ≠ v0.ownBlock := fun e => by have := ho5 b e.symm; have := blk_lt hb4; omega
      refine pl_c ?_
      refine st_app (w0 := W0) W0.heap.size (.tmp 79) (.tmp 81) [] n.ws (by simp only [List.getElem?_toArray, List.getElem?_cons_zero, List.getElem?_cons_succ]; rfl) rfl rfl rfl rfl hR5 (Kd.C_below HA.out.hw (below_step PS.out.bel hB5)) hB5 h5 (by show 0 + n.ws.length ≤ 10000; omega) ?_
      intro v1 w6 hR6 hB6 hg6
      refine ⟨hB6, ?_⟩
      refine pl_norm (a1 := ?_) ?_ ?_
      rotate_left 1
      (· simp only [Act.put, List.setIfInBounds_toArray, List.set_cons_zero, List.set_cons_succ, guarded_true, i64_w, i32_w]; with_reducible rfl)
      have hb6 := blk_grown hb5 hg6 hbne
      clear hB4 hn4 hR5 hB5 hn5 ho5 hb4 hb5 hg6 hbne hb hS
      have h6 : W0.heap.size ≤ w6.heap.size := hB6.size
      refine pl_c ?_
      refine st_app (w0 := W0) W0.heap.size (.tmp 82) (.tmp 85) ([] ++ n.ws) [nn] (by simp only [List.getElem?_toArray, List.getElem?_cons_zero, List.getElem?_cons_succ]; rfl) rfl rfl rfl rfl hR6 (C1b hb6) hB6 h6 (by show n.ws.length + 1 ≤ 10000; omega) ?_
      intro v2 w7 hR7 hB7 hg7
      refine ⟨hB7, ?_⟩
      refine pl_norm (a1 := ?_) ?_ ?_
      rotate_left 1
      (· simp only [Act.put, List.setIfInBounds_toArray, List.set_cons_zero, List.set_cons_succ, guarded_true, i64_w, i32_w]; with_reducible rfl)
      (refine pl_p (v := ?_) (a1 := ?_) (by simp only [List.getElem?_toArray, List.getElem?_cons_zero, List.getElem?_cons_succ]; rfl) rfl ?_ ?_ ?_ ?_; rotate_left 2; (· intro w_ hS_; have hcz := bcs15 (blk_below PS.out.box hS_); have hcq := bcs2 (blk_below PS.out.q hS_); go_simp; with_reducible rfl); (· simp only [Act.put, List.setIfInBounds_toArray, List.set_cons_zero, List.set_cons_succ, guarded_true, i64_w, i32_w]; with_reducible rfl); (· exact fun _ _ _ h => h))
      have hlen : (([] ++ n.ws) ++ [nn]).length ≤ n.ws.length + 1 := by simp
      obtain ⟨A, c, rfl, hcl, hC, hfar⟩ := rowfar hR7
      clear hR7
      generalize ([] ++ n.ws) ++ [nn] = xs at hcl hC hfar hlen ⊢
      have hlt0 := blk_lt PS.out.res
      have PS7 := Aside0.mk (PS.out.step hB7)
      have hcz := bcs15 PS7.out.box
      refine pl_l ?_
      refine st_s (w1 := w7.setCell ⟨w.heap.size, 8, none⟩ (.slice A xs.length c)) (a1 := ?_) (by simp only [List.getElem?_toArray, List.getElem?_cons_zero, List.getElem?_cons_succ]; rfl) rfl (by go_simp) ?_ ⟨trivial, ?_⟩
      rotate_left 1
      (· simp only [Act.put, List.setIfInBounds_toArray, List.set_cons_zero, List.set_cons_succ, guarded_true, i64_w, i32_w]; with_reducible rfl)
      refine l_e ?_
      have PS' : Aside0 (Pst { n with ws := xs } { s with wa := A, wc := c } how nn w (w7.setCell ⟨w.heap.size, 8, none⟩ (.slice A xs.length c))) := ⟨PS7.out.put 8 _ _ _ rfl⟩
      have hC1 : Kd.C (Kd.int .i64) (w7.setCell ⟨w.heap.size, 8, none⟩ (.slice A xs.length c)) A xs.length xs := Kd.C_keep (0 : Int) hC (KeepBut.set_ (KeepBut.refl _ w.heap.size none) 8 _) (fun ad e h0 => by have := hfar ad e h0; omega)
      have hf1 : ∀ ad, A = some ad → 0 < xs.length → ad.block ≠ w.heap.size + 2 := fun ad e h0 => by have := hfar ad e h0; omega
      clear PS PS7 hcz hC hfar hb6 hR6 hB6 hB7 hg7
      generalize w7.setCell ⟨w.heap.size, 8, none⟩ (.slice A xs.length c) = W1 at PS' hC1 ⊢
      obtain ⟨n1, hn1⟩ : ∃ n_ : Nd, n_ = { n with ws := xs } := ⟨_, rfl⟩
      obtain ⟨s1, hs1⟩ : ∃ s_ : Ns, s_ = { s with wa := A, wc := c } := ⟨_, rfl⟩
      rw [← hn1, ← hs1] at PS'
      have PS := PS'
      clear PS'
      have HC1 := Aside0.mk hC1
      have HN1 := Aside0.mk (And.intro hn1 hs1)
      clear hC1 hn1 hs1
      go_upto_region 36 with (fail)
      have hcz := bcs15 PS.out.box
      go_wp2_with (first | (refine wl_box (a1 := ?_) rfl rfl rfl PS.out.box ?_ ?_; rotate_left 1; (· simp only [Act.put, List.setIfInBounds_toArray, List.set_cons_zero, List.set_cons_succ, guarded_true, i64_w, i32_w]; with_reducible rfl)) | (refine wl_stbox (n := n1) (s := s1) (a1 := ?_) rfl rfl rfl rfl PS.out.res rfl ?_ ?_; rotate_left 1; (· simp only [Act.put, List.setIfInBounds_toArray, List.set_cons_zero, List.set_cons_succ]; with_reducible rfl)))
      have hi : (Tryd.prog.info? 29).map (·.size) = some (n1.cells s1).size := (show (Tryd.prog.info? 29).map (·.size) = some 15 by kernel_rfl)
      (try simp only [Exit.inBlock, Exit.then])
      refine bodyPost_ret (results_cell_row rfl _ _ (w.heap.size + 2) 29 (n1.cells s1) (0, 0) _ rfl (setRow_box PS.out.res) huN rfl hi) rfl ?_
      refine ⟨n1, s1, rfl, ?_, ?_, below_setRow PS.out.bel (by omega) _⟩
      · have h := HA.out.below (below_setRow PS.out.bel (Nat.le_add_right _ 2) (n1.cells s1))
        have hC2 := Kd.C_keep (0 : Int) HC1.out (keepRow W1 (w.heap.size + 2) (n1.cells s1)) hf1
        obtain ⟨hn1, hs1⟩ := HN1.out
        rw [hn1, hs1] at h hC2 ⊢
        exact ⟨h.hi, h.ic, hC2, hcl, h.hb, h.bc⟩
      · rw [HN1.out.1]; exact ⟨Nat.le_succ _, hlen, Nat.le_succ _⟩
  · by_cases h0 : 0 < n.ws.length
    · have h0b : decide (0 < (n.ws.length : Int)) = true := decide_eq_true (by omega)
      have h0n : decide (0 < n.ws.length) = true := decide_eq_true h0
      go_upto_region 36 with (fail)
      obtain ⟨A2, hA2⟩ : ∃ A_ : Option Addr, A_ = (if s.wc = 1 then s.wa else Option.map (fun x => ({ block := x.block, off := x.off + 1 } : Addr)) s.wa) := ⟨_, rfl⟩
      rw [← hA2]
      have hlen : (n.ws.drop 1).length ≤ n.ws.length + 1 := by rw [List.length_drop]; omega
      have hcl : (n.ws.drop 1).length ≤ s.wc - 1 := by rw [List.length_drop]; have := HA.out.wc; omega
      rw [show n.ws.length - 1 = (n.ws.drop 1).length by rw [List.length_drop]]
      have hC : Kd.C (Kd.int .i64) w A2 (n.ws.drop 1).length (n.ws.drop 1) := by
        have h := Kd.C_drop HA.out.hw (m := 1) (c := s.wc) h0 HA.out.wc
        rw [hA2]
        exact h
      generalize n.ws.drop 1 = xs at hlen hcl hC ⊢
      have PS' : Aside0 (Pst { n with ws := xs } { s with wa := A2, wc := s.wc - 1 } how nn w (W0.setCell ⟨w.heap.size, 8, none⟩ (.slice A2 xs.length (s.wc - 1)))) := ⟨PS.out.put 8 _ _ _ rfl⟩
      clear PS hcz hcq hA2
      generalize W0.setCell ⟨w.heap.size, 8, none⟩ (.slice A2 xs.length (s.wc - 1)) = W1 at PS' ⊢
      obtain ⟨n1, hn1⟩ : ∃ n_ : Nd, n_ = { n with ws := xs } := ⟨_, rfl⟩
      obtain ⟨s1, hs1⟩ : ∃ s_ : Ns, s_ = { s with wa := A2, wc := s.wc - 1 } := ⟨_, rfl⟩
      rw [← hn1, ← hs1] at PS'
      have PS := PS'
      clear PS'
      have HC1 := Aside0.mk hC
      have HN1 := Aside0.mk (And.intro hn1 hs1)
      clear hC hn1 hs1
      have hcz := bcs15 PS.out.box
      go_wp2_with (first | (refine wl_box (a1 := ?_) rfl rfl rfl PS.out.box ?_ ?_; rotate_left 1; (· simp only [Act.put, List.setIfInBounds_toArray, List.set_cons_zero, List.set_cons_succ, guarded_true, i64_w, i32_w]; with_reducible rfl)) | (refine wl_stbox (n := n1) (s := s1) (a1 := ?_) rfl rfl rfl rfl PS.out.res rfl ?_ ?_; rotate_left 1; (· simp only [Act.put, List.setIfInBounds_toArray, List.set_cons_zero, List.set_cons_succ]; with_reducible rfl)))
      have hi : (Tryd.prog.info? 29).map (·.size) = some (n1.cells s1).size := (show (Tryd.prog.info? 29).map (·.size) = some 15 by kernel_rfl)
      (try simp only [Exit.inBlock, Exit.then])
      refine bodyPost_ret (results_cell_row rfl _ _ (w.heap.size + 2) 29 (n1.cells s1) (0, 0) _ rfl (setRow_box PS.out.res) huN rfl hi) rfl ?_
      refine ⟨n1, s1, rfl, ?_, ?_, below_setRow PS.out.bel (by omega) _⟩
      · have h := HA.out.below (below_setRow PS.out.bel (Nat.le_add_right _ 2) (n1.cells s1))
        have hC2 := Kd.C_below HC1.out (below_setRow PS.out.bel (Nat.le_add_right _ 2) (n1.cells s1))
        obtain ⟨hn1, hs1⟩ := HN1.out
        rw [hn1, hs1] at h hC2 ⊢
        exact ⟨h.hi, h.ic, hC2, hcl, h.hb, h.bc⟩
      · rw [HN1.out.1]; exact ⟨Nat.le_succ _, hlen, Nat.le_succ _⟩
    · have h0b : decide (0 < (n.ws.length : Int)) = false := decide_eq_false (by omega)
      have h0n : decide (0 < n.ws.length) = false := decide_eq_false h0
      go_upto_region 36 with (fail)
      have hcz := bcs15 PS.out.box
      go_wp2_with (first | (refine wl_box (a1 := ?_) rfl rfl rfl PS.out.box ?_ ?_; rotate_left 1; (· simp only [Act.put, List.setIfInBounds_toArray, List.set_cons_zero, List.set_cons_succ, guarded_true, i64_w, i32_w]; with_reducible rfl)) | (refine wl_stbox (n := n) (s := s) (a1 := ?_) rfl rfl rfl rfl PS.out.res rfl ?_ ?_; rotate_left 1; (· simp only [Act.put, List.setIfInBounds_toArray, List.set_cons_zero, List.set_cons_succ]; with_reducible rfl)))
      have hi : (Tryd.prog.info? 29).map (·.size) = some (n.cells s).size := (show (Tryd.prog.info? 29).map (·.size) = some 15 by kernel_rfl)
      (try simp only [Exit.inBlock, Exit.then])
      refine bodyPost_ret (results_cell_row rfl _ _ (w.heap.size + 2) 29 (n.cells s) (0, 0) _ rfl (setRow_box PS.out.res) huN rfl hi) rfl ?_
      refine ⟨n, s, rfl, ?_, ?_, below_setRow PS.out.bel (by omega) _⟩
      · exact HA.out.below (below_setRow PS.out.bel (Nat.le_add_right _ 2) _)
      · exact ⟨Nat.le_succ _, Nat.le_succ _, Nat.le_succ _⟩
  · have hlt0 := blk_lt PS.out.res
    by_cases h0 : 0 < n.bs.length
    · have h0b : decide (0 < (n.bs.length : Int)) = true := decide_eq_true (by omega)
      have h0n : decide (0 < n.bs.length) = true := decide_eq_true h0
      have hcz2 := bcs15 (blk_alloc PS.out.box (.cells #[] 3))
      go_upto_region 34 with (first | ((with_reducible refine gate_builtin (b := .append) (xs := #[.tmp 100, .tmp 102]) rfl ?_); at_builtin; refine Kd.R_append_row (Value.int .i64) (0 : Int) (w0 := W0) W0.heap.size rfl (.tmp 100) (.tmp 102) 22 3 (.int .i64 0) 8 rfl Tryd.underlying22 info3 rfl (by decide) (.slice (some ⟨W0.heap.size, 0, none⟩) 0 0) [] n.bs s.ba n.bs.length s.bc (fun _ => True) rfl rfl (fun _ _ => trivial) (R0 W0 W0.heap.size (Nat.le_refl _)) (Kd.C_alloc (Kd.C_below HA.out.hb PS.out.bel) _) (below_alloc (Below.refl _ _) _) (Below.alloc_size _ _) (by show (0 + n.bs.length) * 8 ≤ 140737488355328; omega) ?_; intro v1 w1 hR hB hgr hat; refine stay_ ?_))
      have hR' : Kd.R (Kd.int .i64) 3 w1 W0.heap.size (fun _ => True) v1 n.bs := hR
      clear hcz hcq hcz2
      have PS1 := Aside0.mk (PS.out.step hB)
      have hlt1 : W0.heap.size ≤ w1.heap.size := hB.size
      clear hR PS hB hgr hat
      obtain ⟨inner, ho⟩ := Kd.R_own hR'
      rcases ho.2 with ⟨rfl, hn⟩ | ⟨g1, cap1, cur, rfl, hg1, hh1, hnc, hcm, hr⟩
      · exfalso; omega
      clear hr hcm hh1 ho
      have hcz := bcs15 PS1.out.box
      unfold Stay
      go_upto_region 34 with (fail)
      have PS' : Aside0 (Pst { n with bs := n.bs } { s with ba := some ⟨g1, 0, none⟩, bc := cap1 } how nn w (w1.setCell ⟨w.heap.size, 9, none⟩ (.slice (some ⟨g1, 0, none⟩) n.bs.length cap1))) := ⟨PS1.out.put 9 _ _ _ rfl⟩
      have hR2 := Kd.R_set hR' PS1.out.box (by decide) 9 (.slice (some ⟨g1, 0, none⟩) n.bs.length cap1)
      clear PS1 hR' hcz
      generalize w1.setCell ⟨w.heap.size, 9, none⟩ (.slice (some ⟨g1, 0, none⟩) n.bs.length cap1) = W2 at PS' hR2 ⊢
      obtain ⟨s1, hs1⟩ : ∃ s_ : Ns, s_ = { s with ba := some ⟨g1, 0, none⟩, bc := cap1 } := ⟨_, rfl⟩
      rw [← hs1] at PS'
      have PS := PS'
      clear PS'
      have HS1 := Aside0.mk hs1
      have hcz := bcs15 PS.out.box
      have hcq := bcs2 PS.out.q
      have hg1W := Kd.R_lt hR2 g1 (by simp [Value.ownBlock])
      obtain ⟨hx0, hy0⟩ := Kd.R_cell (0 : Int) hR2 0 (by omega) (by omega)
      rw [show ((0 : Int)).toNat = 0 from rfl] at hx0 hy0
      go_upto_region 36 with (fail)
      have PS' : Aside0 (Pst { n with bs := n.bs.set 0 nn } s1 how nn w (W2.setCell ⟨g1, 0, none⟩ (.int .i64 nn))) := by
        have h := PS.out.far g1 (by omega) 0 (.int .i64 nn)
        refine ⟨⟨h.bel, h.box.trans ?_, h.q, h.res⟩⟩
        show some (Obj.cells _ _ _) = some (Obj.cells _ _ _)
        simp only [Nd.cells, List.length_set]
      have hR3 := (Kd.R_put hR2 0 nn).1
      rw [show ((0 : Int)).toNat = 0 from rfl] at hR3
      obtain ⟨A, c, hAe, hcl, hC, hfar⟩ := rowfar hR3
      injection hAe with hA1 hA2 hA3
      clear PS hcz hcq hx0 hy0 hR2 hR3 hA2
      have hC1 : Kd.C (Kd.int .i64) (W2.setCell ⟨g1, 0, none⟩ (.int .i64 nn)) (some ⟨g1, 0, none⟩) (n.bs.set 0 nn).length (n.bs.set 0 nn) := by rw [hA1]; exact hC
      rw [← hA3] at hcl
      have hln : (n.bs.set 0 nn).length = n.bs.length := List.length_set
      clear hC hfar hA1 hA3
      generalize n.bs.set 0 nn = xs at PS' hC1 hcl hln ⊢
      generalize W2.setCell ⟨g1, 0, none⟩ (.int .i64 nn) = W1 at PS' hC1 ⊢
      obtain ⟨n1, hn1⟩ : ∃ n_ : Nd, n_ = { n with bs := xs } := ⟨_, rfl⟩
      rw [← hn1] at PS'
      have PS := PS'
      clear PS'
      have HC1 := Aside0.mk hC1
      have HN1 := Aside0.mk (And.intro hn1 HS1.out)
      clear hC1 hn1
      have hcz := bcs15 PS.out.box
      go_wp2_with (first | (refine wl_box (a1 := ?_) rfl rfl rfl PS.out.box ?_ ?_; rotate_left 1; (· simp only [Act.put, List.setIfInBounds_toArray, List.set_cons_zero, List.set_cons_succ, guarded_true, i64_w, i32_w]; with_reducible rfl)) | (refine wl_stbox (n := n1) (s := s1) (a1 := ?_) rfl rfl rfl rfl PS.out.res rfl ?_ ?_; rotate_left 1; (· simp only [Act.put, List.setIfInBounds_toArray, List.set_cons_zero, List.set_cons_succ]; with_reducible rfl)))
      have hi : (Tryd.prog.info? 29).map (·.size) = some (n1.cells s1).size := (show (Tryd.prog.info? 29).map (·.size) = some 15 by kernel_rfl)
      (try simp only [Exit.inBlock, Exit.then])
      refine bodyPost_ret (results_cell_row rfl _ _ (w.heap.size + 2) 29 (n1.cells s1) (0, 0) _ rfl (setRow_box PS.out.res) huN rfl hi) rfl ?_
      refine ⟨n1, s1, rfl, ?_, ?_, below_setRow PS.out.bel (by omega) _⟩
      · have h := HA.out.below (below_setRow PS.out.bel (Nat.le_add_right _ 2) (n1.cells s1))
        have hC2 := Kd.C_keep (0 : Int) HC1.out (keepRow W1 (w.heap.size + 2) (n1.cells s1)) (fun ad e h0 => by cases e; show g1 ≠ w.heap.size + 2; omega)
        obtain ⟨hn1, hs1⟩ := HN1.out
        rw [hn1, hs1] at h hC2 ⊢
        exact ⟨h.hi, h.ic, h.hw, h.wc, hC2, hcl⟩
      · rw [HN1.out.1]; exact ⟨Nat.le_succ _, Nat.le_succ _, by show xs.length ≤ _; omega⟩
    · have h0b : decide (0 < (n.bs.length : Int)) = false := decide_eq_false (by omega)
      have h0n : decide (0 < n.bs.length) = false := decide_eq_false h0
      have hcz2 := bcs15 (blk_alloc PS.out.box (.cells #[] 3))
      go_upto_region 34 with (first | ((with_reducible refine gate_builtin (b := .append) (xs := #[.tmp 100, .tmp 102]) rfl ?_); at_builtin; refine Kd.R_append_row (Value.int .i64) (0 : Int) (w0 := W0) W0.heap.size rfl (.tmp 100) (.tmp 102) 22 3 (.int .i64 0) 8 rfl Tryd.underlying22 info3 rfl (by decide) (.slice (some ⟨W0.heap.size, 0, none⟩) 0 0) [] n.bs s.ba n.bs.length s.bc (fun _ => True) rfl rfl (fun _ _ => trivial) (R0 W0 W0.heap.size (Nat.le_refl _)) (Kd.C_alloc (Kd.C_below HA.out.hb PS.out.bel) _) (below_alloc (Below.refl _ _) _) (Below.alloc_size _ _) (by show (0 + n.bs.length) * 8 ≤ 140737488355328; omega) ?_; intro v1 w1 hR hB hgr hat; refine stay_ ?_))
      have hR' : Kd.R (Kd.int .i64) 3 w1 W0.heap.size (fun _ => True) v1 n.bs := hR
      clear hcz hcq hcz2
      have PS1 := Aside0.mk (PS.out.step hB)
      clear hR PS hB hgr hat
      obtain ⟨A, c, rfl, hcl, hC, hfar⟩ := rowfar hR'
      clear hR'
      have hcz := bcs15 PS1.out.box
      unfold Stay
      go_upto_region 34 with (fail)
      have PS' : Aside0 (Pst { n with bs := n.bs } { s with ba := A, bc := c } how nn w (w1.setCell ⟨w.heap.size, 9, none⟩ (.slice A n.bs.length c))) := ⟨PS1.out.put 9 _ _ _ rfl⟩
      have hC1 : Kd.C (Kd.int .i64) (w1.setCell ⟨w.heap.size, 9, none⟩ (.slice A n.bs.length c)) A n.bs.length n.bs := Kd.C_keep (0 : Int) hC (KeepBut.set_ (KeepBut.refl _ w.heap.size none) 9 _) (fun ad e h0 => by have := hfar ad e h0; omega)
      have hf1 : ∀ ad, A = some ad → 0 < n.bs.length → ad.block ≠ w.heap.size + 2 := fun ad e h0 => by have := hfar ad e h0; omega
      clear PS1 hcz hC hfar
      generalize w1.setCell ⟨w.heap.size, 9, none⟩ (.slice A n.bs.length c) = W1 at PS' hC1 ⊢
      obtain ⟨n1, hn1⟩ : ∃ n_ : Nd, n_ = { n with bs := n.bs } := ⟨_, rfl⟩
      obtain ⟨s1, hs1⟩ : ∃ s_ : Ns, s_ = { s with ba := A, bc := c } := ⟨_, rfl⟩
      rw [← hn1, ← hs1] at PS'
      have PS := PS'
      clear PS'
      have HC1 := Aside0.mk hC1
      have HN1 := Aside0.mk (And.intro hn1 hs1)
      have h0c : decide (0 < (n1.bs.length : Int)) = false := by rw [hn1]; exact h0b
      have h0d : decide (0 < n1.bs.length) = false := by rw [hn1]; exact decide_eq_false h0
      clear hC1 hn1 hs1 h0b
      have hcz := bcs15 PS.out.box
      go_upto_region 36 with (fail)
      have hcz := bcs15 PS.out.box
      go_wp2_with (first | (refine wl_box (a1 := ?_) rfl rfl rfl PS.out.box ?_ ?_; rotate_left 1; (· simp only [Act.put, List.setIfInBounds_toArray, List.set_cons_zero, List.set_cons_succ, guarded_true, i64_w, i32_w]; with_reducible rfl)) | (refine wl_stbox (n := n1) (s := s1) (a1 := ?_) rfl rfl rfl rfl PS.out.res rfl ?_ ?_; rotate_left 1; (· simp only [Act.put, List.setIfInBounds_toArray, List.set_cons_zero, List.set_cons_succ]; with_reducible rfl)))
      have hi : (Tryd.prog.info? 29).map (·.size) = some (n1.cells s1).size := (show (Tryd.prog.info? 29).map (·.size) = some 15 by kernel_rfl)
      (try simp only [Exit.inBlock, Exit.then])
      refine bodyPost_ret (results_cell_row rfl _ _ (w.heap.size + 2) 29 (n1.cells s1) (0, 0) _ rfl (setRow_box PS.out.res) huN rfl hi) rfl ?_
      refine ⟨n1, s1, rfl, ?_, ?_, below_setRow PS.out.bel (by omega) _⟩
      · have h := HA.out.below (below_setRow PS.out.bel (Nat.le_add_right _ 2) (n1.cells s1))
        have hC2 := Kd.C_keep (0 : Int) HC1.out (keepRow W1 (w.heap.size + 2) (n1.cells s1)) hf1
        obtain ⟨hn1, hs1⟩ := HN1.out
        rw [hn1, hs1] at h hC2 ⊢
        exact ⟨h.hi, h.ic, h.hw, h.wc, hC2, hcl⟩
      · rw [HN1.out.1]; exact ⟨Nat.le_succ _, Nat.le_succ _, Nat.le_succ _⟩
  · go_upto_region 2 with (fail)
    refine pl_ (id := 2) (S := fun W' => Below W0.heap.size W0 W') (.p 1 (.p 2 (.p 4 (.p 5 (.d 0 (.d 3 (.c 6 (.c 7 (.p 8 (.l [9])))) 6 (.c 3 (.c 7 (.p 8 (.l [9]))))) 6 (.c 0 (.c 3 (.c 7 (.p 8 (.l [9]))))))))))  [9] (by kernel_rfl) (by kernel_rfl) (below_drew1 (Below.refl _ _)) ?_
    intro w3 hS
    clear hcz hcq
    (refine pl_p (v := ?_) (a1 := ?_) (by simp only [List.getElem?_toArray, List.getElem?_cons_zero, List.getElem?_cons_succ]; rfl) rfl ?_ ?_ ?_ ?_; rotate_left 2; (· intro w_ hS_; have hcz := bcs15 (blk_below PS.out.box hS_); have hcq := bcs2 (blk_below PS.out.q hS_); go_simp; with_reducible rfl); (· simp only [Act.put, List.setIfInBounds_toArray, List.set_cons_zero, List.set_cons_succ, guarded_true, i64_w, i32_w]; with_reducible rfl); (· exact fun _ _ _ h => h))
    (refine pl_p (v := ?_) (a1 := ?_) (by simp only [List.getElem?_toArray, List.getElem?_cons_zero, List.getElem?_cons_succ]; rfl) rfl ?_ ?_ ?_ ?_; rotate_left 2; (· intro w_ hS_; have hcz := bcs15 (blk_below PS.out.box hS_); have hcq := bcs2 (blk_below PS.out.q hS_); go_simp; with_reducible rfl); (· simp only [Act.put, List.setIfInBounds_toArray, List.set_cons_zero, List.set_cons_succ, guarded_true, i64_w, i32_w]; with_reducible rfl); (· exact fun _ _ _ h => h))
    (refine pl_p (v := ?_) (a1 := ?_) (by simp only [List.getElem?_toArray, List.getElem?_cons_zero, List.getElem?_cons_succ]; rfl) rfl ?_ ?_ ?_ ?_; rotate_left 2; (· intro w_ hS_; have hcz := bcs15 (blk_below PS.out.box hS_); have hcq := bcs2 (blk_below PS.out.q hS_); go_simp; with_reducible rfl); (· simp only [Act.put, List.setIfInBounds_toArray, List.set_cons_zero, List.set_cons_succ, guarded_true, i64_w, i32_w]; with_reducible rfl); (· exact fun _ _ _ h => h))
    (refine pl_p (v := ?_) (a1 := ?_) (by simp only [List.getElem?_toArray, List.getElem?_cons_zero, List.getElem?_cons_succ]; rfl) rfl ?_ ?_ ?_ ?_; rotate_left 2; (· intro w_ hS_; have hcz := bcs15 (blk_below PS.out.box hS_); have hcq := bcs2 (blk_below PS.out.q hS_); go_simp; with_reducible rfl); (· simp only [Act.put, List.setIfInBounds_toArray, List.set_cons_zero, List.set_cons_succ, guarded_true, i64_w, i32_w]; with_reducible rfl); (· exact fun _ _ _ h => h))
    have h3 : W0.heap.size ≤ w3.heap.size := hS.size
    refine pl_d ?_ ?_
    · refine st_lit0 (w0 := W0) W0.heap.size (by simp only [List.getElem?_toArray, List.getElem?_cons_zero, List.getElem?_cons_succ]; rfl) rfl (by go_simp) hS h3 ?_
      intro v0 w4 hR4 hB4 hn4 ho4
      refine ⟨hB4, ?_⟩
      refine pl_norm (a1 := ?_) ?_ ?_
      rotate_left 1
      (· simp only [Act.put, List.setIfInBounds_toArray, List.set_cons_zero, List.set_cons_succ, guarded_true, i64_w, i32_w]; with_reducible rfl)
      have h4 : W0.heap.size ≤ w4.heap.size := hB4.size
      refine pl_d ?_ ?_
      · refine st_app (w0 := W0) W0.heap.size (.tmp 8) (.tmp 10) [] n.inn (by simp only [List.getElem?_toArray, List.getElem?_cons_zero, List.getElem?_cons_succ]; rfl) rfl rfl rfl rfl hR4 (Kd.C_below HA.out.hi (below_step PS.out.bel hB4)) hB4 h4 (by show 0 + n.inn.length ≤ 10000; omega) ?_
        intro v1 w5 hR5 hB5 hg5
        refine ⟨hB5, ?_⟩
        refine pl_norm (a1 := ?_) ?_ ?_
        rotate_left 1
        (· simp only [Act.put, List.setIfInBounds_toArray, List.set_cons_zero, List.set_cons_succ, guarded_true, i64_w, i32_w]; with_reducible rfl)
        have h5 : W0.heap.size ≤ w5.heap.size := hB5.size
        refine pl_c ?_
        refine st_lit1 (w0 := W0) W0.heap.size nn (by simp only [List.getElem?_toArray, List.getElem?_cons_zero, List.getElem?_cons_succ]; rfl) rfl (by go_simp) hB5 h5 ?_
        intro b w6 hb hb6 hB6 hn6
        refine ⟨hB6, ?_⟩
        refine pl_norm (a1 := ?_) ?_ ?_
        rotate_left 1
        (· simp only [Act.put, List.setIfInBounds_toArray, List.set_cons_zero, List.set_cons_succ, guarded_true, i64_w, i32_w]; with_reducible rfl)
        have hR6 := Kd.R_below hR5 hn6
        clear hR4 hB4 hn4 ho4 hR5 hB5 hg5 hn6 hb hS
        have h6 : W0.heap.size ≤ w6.heap.size := hB6.size
        refine pl_c ?_
        refine st_app (w0 := W0) W0.heap.size (.tmp 11) (.tmp 14) ([] ++ n.inn) [nn] (by simp only [List.getElem?_toArray, List.getElem?_cons_zero, List.getElem?_cons_succ]; rfl) rfl rfl rfl rfl hR6 (C1b hb6) hB6 h6 (by show n.inn.length + 1 ≤ 10000; omega) ?_
        intro v2 w7 hR7 hB7 hg7
        refine ⟨hB7, ?_⟩
        refine pl_norm (a1 := ?_) ?_ ?_
        rotate_left 1
        (· simp only [Act.put, List.setIfInBounds_toArray, List.set_cons_zero, List.set_cons_succ, guarded_true, i64_w, i32_w]; with_reducible rfl)
        (refine pl_p (v := ?_) (a1 := ?_) (by simp only [List.getElem?_toArray, List.getElem?_cons_zero, List.getElem?_cons_succ]; rfl) rfl ?_ ?_ ?_ ?_; rotate_left 2; (· intro w_ hS_; have hcz := bcs15 (blk_below PS.out.box hS_); have hcq := bcs2 (blk_below PS.out.q hS_); go_simp; with_reducible rfl); (· simp only [Act.put, List.setIfInBounds_toArray, List.set_cons_zero, List.set_cons_succ, guarded_true, i64_w, i32_w]; with_reducible rfl); (· exact fun _ _ _ h => h))
        have hlen : (([] ++ n.inn) ++ [nn]).length ≤ n.inn.length + 1 := by simp
        obtain ⟨A, c, rfl, hcl, hC, hfar⟩ := rowfar hR7
        clear hR7
        generalize ([] ++ n.inn) ++ [nn] = xs at hcl hC hfar hlen ⊢
        have hlt0 := blk_lt PS.out.res
        have PS7 := Aside0.mk (PS.out.step hB7)
        have hcz := bcs15 PS7.out.box
        refine pl_l ?_
        refine st_s (w1 := w7.setCell ⟨w.heap.size, 1, none⟩ (.slice A xs.length c)) (a1 := ?_) (by simp only [List.getElem?_toArray, List.getElem?_cons_zero, List.getElem?_cons_succ]; rfl) rfl (by go_simp) ?_ ⟨trivial, ?_⟩
        rotate_left 1
        (· simp only [Act.put, List.setIfInBounds_toArray, List.set_cons_zero, List.set_cons_succ, guarded_true, i64_w, i32_w]; with_reducible rfl)
        refine l_e ?_
        have PS' : Aside0 (Pst { n with inn := xs } { s with ia := A, ic := c } how nn w (w7.setCell ⟨w.heap.size, 1, none⟩ (.slice A xs.length c))) := ⟨PS7.out.put 1 _ _ _ rfl⟩
        have hC1 : Kd.C (Kd.int .i64) (w7.setCell ⟨w.heap.size, 1, none⟩ (.slice A xs.length c)) A xs.length xs := Kd.C_keep (0 : Int) hC (KeepBut.set_ (KeepBut.refl _ w.heap.size none) 1 _) (fun ad e h0 => by have := hfar ad e h0; omega)
        have hf1 : ∀ ad, A = some ad → 0 < xs.length → ad.block ≠ w.heap.size + 2 := fun ad e h0 => by have := hfar ad e h0; omega
        clear PS PS7 hcz hC hfar hb6 hR6 hB6 hB7 hg7
        generalize w7.setCell ⟨w.heap.size, 1, none⟩ (.slice A xs.length c) = W1 at PS' hC1 ⊢
        obtain ⟨n1, hn1⟩ : ∃ n_ : Nd, n_ = { n with inn := xs } := ⟨_, rfl⟩
        obtain ⟨s1, hs1⟩ : ∃ s_ : Ns, s_ = { s with ia := A, ic := c } := ⟨_, rfl⟩
        rw [← hn1, ← hs1] at PS'
        have PS := PS'
        clear PS'
        have HC1 := Aside0.mk hC1
        have HN1 := Aside0.mk (And.intro hn1 hs1)
        clear hC1 hn1 hs1
        go_upto_region 36 with (fail)
        have hcz := bcs15 PS.out.box
        go_wp2_with (first | (refine wl_box (a1 := ?_) rfl rfl rfl PS.out.box ?_ ?_; rotate_left 1; (· simp only [Act.put, List.setIfInBounds_toArray, List.set_cons_zero, List.set_cons_succ, guarded_true, i64_w, i32_w]; with_reducible rfl)) | (refine wl_stbox (n := n1) (s := s1) (a1 := ?_) rfl rfl rfl rfl PS.out.res rfl ?_ ?_; rotate_left 1; (· simp only [Act.put, List.setIfInBounds_toArray, List.set_cons_zero, List.set_cons_succ]; with_reducible rfl)))
        have hi : (Tryd.prog.info? 29).map (·.size) = some (n1.cells s1).size := (show (Tryd.prog.info? 29).map (·.size) = some 15 by kernel_rfl)
        (try simp only [Exit.inBlock, Exit.then])
        refine bodyPost_ret (results_cell_row rfl _ _ (w.heap.size + 2) 29 (n1.cells s1) (0, 0) _ rfl (setRow_box PS.out.res) huN rfl hi) rfl ?_
        refine ⟨n1, s1, rfl, ?_, ?_, below_setRow PS.out.bel (by omega) _⟩
        · have h := HA.out.below (below_setRow PS.out.bel (Nat.le_add_right _ 2) (n1.cells s1))
          have hC2 := Kd.C_keep (0 : Int) HC1.out (keepRow W1 (w.heap.size + 2) (n1.cells s1)) hf1
          obtain ⟨hn1, hs1⟩ := HN1.out
          rw [hn1, hs1] at h hC2 ⊢
          exact ⟨hC2, hcl, h.hw, h.wc, h.hb, h.bc⟩
        · rw [HN1.out.1]; exact ⟨hlen, Nat.le_succ _, Nat.le_succ _⟩
      · refine st_lit1 (w0 := W0) W0.heap.size nn (by simp only [List.getElem?_toArray, List.getElem?_cons_zero, List.getElem?_cons_succ]; rfl) rfl (by go_simp) hB4 h4 ?_
        intro b w5 hb hb5 hB5 hn5
        refine ⟨hB5, ?_⟩
        refine pl_norm (a1 := ?_) ?_ ?_
        rotate_left 1
        (· simp only [Act.put, List.setIfInBounds_toArray, List.set_cons_zero, List.set_cons_succ, guarded_true, i64_w, i32_w]; with_reducible rfl)
        have h5 : W0.heap.size ≤ w5.heap.size := hB5.size
        have hR5 := Kd.R_below hR4 hn5
        have hbne : some b ≠ v0.ownBlock := fun e => by have := Kd.R_lt hR4 b e.symm; omega
        refine pl_c ?_
        refine st_app (w0 := W0) W0.heap.size (.tmp 8) (.tmp 10) [] n.inn (by simp only [List.getElem?_toArray, List.getElem?_cons_zero, List.getElem?_cons_succ]; rfl) rfl rfl rfl rfl hR5 (Kd.C_below HA.out.hi (below_step PS.out.bel hB5)) hB5 h5 (by show 0 + n.inn.length ≤ 10000; omega) ?_
        intro v1 w6 hR6 hB6 hg6
        refine ⟨hB6, ?_⟩
        refine pl_norm (a1 := ?_) ?_ ?_
        rotate_left 1
        (· simp only [Act.put, List.setIfInBounds_toArray, List.set_cons_zero, List.set_cons_succ, guarded_true, i64_w, i32_w]; with_reducible rfl)
        have hb6 := blk_grown hb5 hg6 hbne
        clear hR4 hB4 hn4 ho4 hR5 hB5 hn5 hb5 hg6 hbne hb hS
        have h6 : W0.heap.size ≤ w6.heap.size := hB6.size
        refine pl_c ?_
        refine st_app (w0 := W0) W0.heap.size (.tmp 11) (.tmp 14) ([] ++ n.inn) [nn] (by simp only [List.getElem?_toArray, List.getElem?_cons_zero, List.getElem?_cons_succ]; rfl) rfl rfl rfl rfl hR6 (C1b hb6) hB6 h6 (by show n.inn.length + 1 ≤ 10000; omega) ?_
        intro v2 w7 hR7 hB7 hg7
        refine ⟨hB7, ?_⟩
        refine pl_norm (a1 := ?_) ?_ ?_
        rotate_left 1
        (· simp only [Act.put, List.setIfInBounds_toArray, List.set_cons_zero, List.set_cons_succ, guarded_true, i64_w, i32_w]; with_reducible rfl)
        (refine pl_p (v := ?_) (a1 := ?_) (by simp only [List.getElem?_toArray, List.getElem?_cons_zero, List.getElem?_cons_succ]; rfl) rfl ?_ ?_ ?_ ?_; rotate_left 2; (· intro w_ hS_; have hcz := bcs15 (blk_below PS.out.box hS_); have hcq := bcs2 (blk_below PS.out.q hS_); go_simp; with_reducible rfl); (· simp only [Act.put, List.setIfInBounds_toArray, List.set_cons_zero, List.set_cons_succ, guarded_true, i64_w, i32_w]; with_reducible rfl); (· exact fun _ _ _ h => h))
        have hlen : (([] ++ n.inn) ++ [nn]).length ≤ n.inn.length + 1 := by simp
        obtain ⟨A, c, rfl, hcl, hC, hfar⟩ := rowfar hR7
        clear hR7
        generalize ([] ++ n.inn) ++ [nn] = xs at hcl hC hfar hlen ⊢
        have hlt0 := blk_lt PS.out.res
        have PS7 := Aside0.mk (PS.out.step hB7)
        have hcz := bcs15 PS7.out.box
        refine pl_l ?_
        refine st_s (w1 := w7.setCell ⟨w.heap.size, 1, none⟩ (.slice A xs.length c)) (a1 := ?_) (by simp only [List.getElem?_toArray, List.getElem?_cons_zero, List.getElem?_cons_succ]; rfl) rfl (by go_simp) ?_ ⟨trivial, ?_⟩
        rotate_left 1
        (· simp only [Act.put, List.setIfInBounds_toArray, List.set_cons_zero, List.set_cons_succ, guarded_true, i64_w, i32_w]; with_reducible rfl)
        refine l_e ?_
        have PS' : Aside0 (Pst { n with inn := xs } { s with ia := A, ic := c } how nn w (w7.setCell ⟨w.heap.size, 1, none⟩ (.slice A xs.length c))) := ⟨PS7.out.put 1 _ _ _ rfl⟩
        have hC1 : Kd.C (Kd.int .i64) (w7.setCell ⟨w.heap.size, 1, none⟩ (.slice A xs.length c)) A xs.length xs := Kd.C_keep (0 : Int) hC (KeepBut.set_ (KeepBut.refl _ w.heap.size none) 1 _) (fun ad e h0 => by have := hfar ad e h0; omega)
        have hf1 : ∀ ad, A = some ad → 0 < xs.length → ad.block ≠ w.heap.size + 2 := fun ad e h0 => by have := hfar ad e h0; omega
        clear PS PS7 hcz hC hfar hb6 hR6 hB6 hB7 hg7
        generalize w7.setCell ⟨w.heap.size, 1, none⟩ (.slice A xs.length c) = W1 at PS' hC1 ⊢
        obtain ⟨n1, hn1⟩ : ∃ n_ : Nd, n_ = { n with inn := xs } := ⟨_, rfl⟩
        obtain ⟨s1, hs1⟩ : ∃ s_ : Ns, s_ = { s with ia := A, ic := c } := ⟨_, rfl⟩
        rw [← hn1, ← hs1] at PS'
        have PS := PS'
        clear PS'
        have HC1 := Aside0.mk hC1
        have HN1 := Aside0.mk (And.intro hn1 hs1)
        clear hC1 hn1 hs1
        go_upto_region 36 with (fail)
        have hcz := bcs15 PS.out.box
        go_wp2_with (first | (refine wl_box (a1 := ?_) rfl rfl rfl PS.out.box ?_ ?_; rotate_left 1; (· simp only [Act.put, List.setIfInBounds_toArray, List.set_cons_zero, List.set_cons_succ, guarded_true, i64_w, i32_w]; with_reducible rfl)) | (refine wl_stbox (n := n1) (s := s1) (a1 := ?_) rfl rfl rfl rfl PS.out.res rfl ?_ ?_; rotate_left 1; (· simp only [Act.put, List.setIfInBounds_toArray, List.set_cons_zero, List.set_cons_succ]; with_reducible rfl)))
        have hi : (Tryd.prog.info? 29).map (·.size) = some (n1.cells s1).size := (show (Tryd.prog.info? 29).map (·.size) = some 15 by kernel_rfl)
        (try simp only [Exit.inBlock, Exit.then])
        refine bodyPost_ret (results_cell_row rfl _ _ (w.heap.size + 2) 29 (n1.cells s1) (0, 0) _ rfl (setRow_box PS.out.res) huN rfl hi) rfl ?_
        refine ⟨n1, s1, rfl, ?_, ?_, below_setRow PS.out.bel (by omega) _⟩
        · have h := HA.out.below (below_setRow PS.out.bel (Nat.le_add_right _ 2) (n1.cells s1))
          have hC2 := Kd.C_keep (0 : Int) HC1.out (keepRow W1 (w.heap.size + 2) (n1.cells s1)) hf1
          obtain ⟨hn1, hs1⟩ := HN1.out
          rw [hn1, hs1] at h hC2 ⊢
          exact ⟨hC2, hcl, h.hw, h.wc, h.hb, h.bc⟩
        · rw [HN1.out.1]; exact ⟨hlen, Nat.le_succ _, Nat.le_succ _⟩
    · refine st_lit1 (w0 := W0) W0.heap.size nn (by simp only [List.getElem?_toArray, List.getElem?_cons_zero, List.getElem?_cons_succ]; rfl) rfl (by go_simp) hS h3 ?_
      intro b w4 hb hb4 hB4 hn4
      refine ⟨hB4, ?_⟩
      refine pl_norm (a1 := ?_) ?_ ?_
      rotate_left 1
      (· simp only [Act.put, List.setIfInBounds_toArray, List.set_cons_zero, List.set_cons_succ, guarded_true, i64_w, i32_w]; with_reducible rfl)
      have h4 : W0.heap.size ≤ w4.heap.size := hB4.size
      refine pl_c ?_
      refine st_lit0 (w0 := W0) W0.heap.size (by simp only [List.getElem?_toArray, List.getElem?_cons_zero, List.getElem?_cons_succ]; rfl) rfl (by go_simp) hB4 h4 ?_
      intro v0 w5 hR5 hB5 hn5 ho5
      refine ⟨hB5, ?_⟩
      refine pl_norm (a1 := ?_) ?_ ?_
      rotate_left 1
      (· simp only [Act.put, List.setIfInBounds_toArray, List.set_cons_zero, List.set_cons_succ, guarded_true, i64_w, i32_w]; with_reducible rfl)
      have h5 : W0.heap.size ≤ w5.heap.size := hB5.size
      have hb5 := blk_below hb4 hn5
      have hbne : some b ≠ v0.ownBlock := fun e => by have := ho5 b e.symm; have := blk_lt hb4; omega
      refine pl_c ?_
      refine st_app (w0 := W0) W0.heap.size (.tmp 8) (.tmp 10) [] n.inn (by simp only [List.getElem?_toArray, List.getElem?_cons_zero, List.getElem?_cons_succ]; rfl) rfl rfl rfl rfl hR5 (Kd.C_below HA.out.hi (below_step PS.out.bel hB5)) hB5 h5 (by show 0 + n.inn.length ≤ 10000; omega) ?_
      intro v1 w6 hR6 hB6 hg6
      refine ⟨hB6, ?_⟩
      refine pl_norm (a1 := ?_) ?_ ?_
      rotate_left 1
      (· simp only [Act.put, List.setIfInBounds_toArray, List.set_cons_zero, List.set_cons_succ, guarded_true, i64_w, i32_w]; with_reducible rfl)
      have hb6 := blk_grown hb5 hg6 hbne
      clear hB4 hn4 hR5 hB5 hn5 ho5 hb4 hb5 hg6 hbne hb hS
      have h6 : W0.heap.size ≤ w6.heap.size := hB6.size
      refine pl_c ?_
      refine st_app (w0 := W0) W0.heap.size (.tmp 11) (.tmp 14) ([] ++ n.inn) [nn] (by simp only [List.getElem?_toArray, List.getElem?_cons_zero, List.getElem?_cons_succ]; rfl) rfl rfl rfl rfl hR6 (C1b hb6) hB6 h6 (by show n.inn.length + 1 ≤ 10000; omega) ?_
      intro v2 w7 hR7 hB7 hg7
      refine ⟨hB7, ?_⟩
      refine pl_norm (a1 := ?_) ?_ ?_
      rotate_left 1
      (· simp only [Act.put, List.setIfInBounds_toArray, List.set_cons_zero, List.set_cons_succ, guarded_true, i64_w, i32_w]; with_reducible rfl)
      (refine pl_p (v := ?_) (a1 := ?_) (by simp only [List.getElem?_toArray, List.getElem?_cons_zero, List.getElem?_cons_succ]; rfl) rfl ?_ ?_ ?_ ?_; rotate_left 2; (· intro w_ hS_; have hcz := bcs15 (blk_below PS.out.box hS_); have hcq := bcs2 (blk_below PS.out.q hS_); go_simp; with_reducible rfl); (· simp only [Act.put, List.setIfInBounds_toArray, List.set_cons_zero, List.set_cons_succ, guarded_true, i64_w, i32_w]; with_reducible rfl); (· exact fun _ _ _ h => h))
      have hlen : (([] ++ n.inn) ++ [nn]).length ≤ n.inn.length + 1 := by simp
      obtain ⟨A, c, rfl, hcl, hC, hfar⟩ := rowfar hR7
      clear hR7
      generalize ([] ++ n.inn) ++ [nn] = xs at hcl hC hfar hlen ⊢
      have hlt0 := blk_lt PS.out.res
      have PS7 := Aside0.mk (PS.out.step hB7)
      have hcz := bcs15 PS7.out.box
      refine pl_l ?_
      refine st_s (w1 := w7.setCell ⟨w.heap.size, 1, none⟩ (.slice A xs.length c)) (a1 := ?_) (by simp only [List.getElem?_toArray, List.getElem?_cons_zero, List.getElem?_cons_succ]; rfl) rfl (by go_simp) ?_ ⟨trivial, ?_⟩
      rotate_left 1
      (· simp only [Act.put, List.setIfInBounds_toArray, List.set_cons_zero, List.set_cons_succ, guarded_true, i64_w, i32_w]; with_reducible rfl)
      refine l_e ?_
      have PS' : Aside0 (Pst { n with inn := xs } { s with ia := A, ic := c } how nn w (w7.setCell ⟨w.heap.size, 1, none⟩ (.slice A xs.length c))) := ⟨PS7.out.put 1 _ _ _ rfl⟩
      have hC1 : Kd.C (Kd.int .i64) (w7.setCell ⟨w.heap.size, 1, none⟩ (.slice A xs.length c)) A xs.length xs := Kd.C_keep (0 : Int) hC (KeepBut.set_ (KeepBut.refl _ w.heap.size none) 1 _) (fun ad e h0 => by have := hfar ad e h0; omega)
      have hf1 : ∀ ad, A = some ad → 0 < xs.length → ad.block ≠ w.heap.size + 2 := fun ad e h0 => by have := hfar ad e h0; omega
      clear PS PS7 hcz hC hfar hb6 hR6 hB6 hB7 hg7
      generalize w7.setCell ⟨w.heap.size, 1, none⟩ (.slice A xs.length c) = W1 at PS' hC1 ⊢
      obtain ⟨n1, hn1⟩ : ∃ n_ : Nd, n_ = { n with inn := xs } := ⟨_, rfl⟩
      obtain ⟨s1, hs1⟩ : ∃ s_ : Ns, s_ = { s with ia := A, ic := c } := ⟨_, rfl⟩
      rw [← hn1, ← hs1] at PS'
      have PS := PS'
      clear PS'
      have HC1 := Aside0.mk hC1
      have HN1 := Aside0.mk (And.intro hn1 hs1)
      clear hC1 hn1 hs1
      go_upto_region 36 with (fail)
      have hcz := bcs15 PS.out.box
      go_wp2_with (first | (refine wl_box (a1 := ?_) rfl rfl rfl PS.out.box ?_ ?_; rotate_left 1; (· simp only [Act.put, List.setIfInBounds_toArray, List.set_cons_zero, List.set_cons_succ, guarded_true, i64_w, i32_w]; with_reducible rfl)) | (refine wl_stbox (n := n1) (s := s1) (a1 := ?_) rfl rfl rfl rfl PS.out.res rfl ?_ ?_; rotate_left 1; (· simp only [Act.put, List.setIfInBounds_toArray, List.set_cons_zero, List.set_cons_succ]; with_reducible rfl)))
      have hi : (Tryd.prog.info? 29).map (·.size) = some (n1.cells s1).size := (show (Tryd.prog.info? 29).map (·.size) = some 15 by kernel_rfl)
      (try simp only [Exit.inBlock, Exit.then])
      refine bodyPost_ret (results_cell_row rfl _ _ (w.heap.size + 2) 29 (n1.cells s1) (0, 0) _ rfl (setRow_box PS.out.res) huN rfl hi) rfl ?_
      refine ⟨n1, s1, rfl, ?_, ?_, below_setRow PS.out.bel (by omega) _⟩
      · have h := HA.out.below (below_setRow PS.out.bel (Nat.le_add_right _ 2) (n1.cells s1))
        have hC2 := Kd.C_keep (0 : Int) HC1.out (keepRow W1 (w.heap.size + 2) (n1.cells s1)) hf1
        obtain ⟨hn1, hs1⟩ := HN1.out
        rw [hn1, hs1] at h hC2 ⊢
        exact ⟨hC2, hcl, h.hw, h.wc, h.hb, h.bc⟩
      · rw [HN1.out.1]; exact ⟨hlen, Nat.le_succ _, Nat.le_succ _⟩
end Go.Proofs.YtohhaonjckfkaaaDoor.Hand
