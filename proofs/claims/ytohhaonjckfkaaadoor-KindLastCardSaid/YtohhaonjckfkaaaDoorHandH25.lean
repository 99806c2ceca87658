/- Contracts of Go functions that the laws of this seat reach, by hand: each call returns what the Lean function of its name tells. Conditions: those that each theorem names, none else. -/
import Derived.Test.YtohhaonjckfkaaaDoorHandHR
namespace Go.Proofs.YtohhaonjckfkaaaDoor.Hand
open Go.RowKit Go.Proofs.YtohhaonjckfkaaaDoorW.PrintWords Go.Proofs.YtohhaonjckfkaaaDoorW.PrintLast Go.Proofs.YtohhaonjckfkaaaDoorW.PrintMore
attribute [local go_sem] max2_int min2_int max_two min_two max_three min_three max_four min_four
set_option linter.unusedVariables false
set_option linter.unusedSimpArgs false

attribute [local go_sem] guarded_true
theorem wl_skip {P : Program} {ops : Array Oper} {Q : Exit → Act → World → Prop} {rest : List Oper} {a a1 : Act} {W : World} {o : Oper} (hw : Region.wanted o (yielded ops a.tmps) = false) (ha : a.put o.dst undef = a1) (h : wpList P ops Q rest a1 W) : wpList P ops Q (o :: rest) a W := by
  subst ha
  unfold wpList
  rw [if_neg (by rw [hw]; decide)]
  exact h
theorem first_m (n : Nd) (s : Ns) (i : Int) (w : World) (r : Int) (hG : Tab w) (h : n.first i = r) :
    Calls Tryd.prog 22 #[n.val s, .int .i64 i] w fun e w' => e = .returned (.int .i64 r) ∧ Below w.heap.size w w' := by
  subst h; exact First_c n s i w hG
theorem span_m (n : Nd) (s : Ns) (w : World) (r : Int) (hG : Tab w) (h : n.span = r) :
    Calls Tryd.prog 19 #[n.val s] w fun e w' => e = .returned (.int .i64 r) ∧ Below w.heap.size w w' := by
  subst h; exact Span_c n s w hG
theorem pads_m (n : Nd) (s : Ns) (w : World) (a b : Int) (hG : Tab w) (h : n.padL = a) (h' : n.padR = b) :
    Calls Tryd.prog 18 #[n.val s] w fun e w' => e = .returned (.tuple #[.int .i64 a, .int .i64 b]) ∧ Below w.heap.size w w' := by
  subst h h'; exact Pads_c n s w hG
set_option maxHeartbeats 8000000 in
set_option maxRecDepth 100000 in
theorem KindLast_c (l : List Int) (A0 : Option Addr) (c0 : Nat) (wd : Int) (two : Bool) (count near : Int) (w : World) (hG : Tab w) (hr : Kd.C (Kd.int .i64) w A0 l.length l) (hc : l.length ≤ c0) (_ : (Lit.int .i64 count).wf = true) (_ : (Lit.int .i64 near).wf = true) :
    Calls Tryd.prog 4 #[.agg #[.slice A0 l.length c0, .int .i64 wd, .bool two], .int .i64 count, .int .i64 near] w fun e w' => e = .returned (.bool true) ∧ Below w.heap.size w w' := by
  have HR := Aside0.mk hr
  have HG := Aside0.mk hG
  clear hr hG
  have huN := Tryd.underlying29
  go_enter Tryd.func4, Tryd.ntmps4
  go_upto_region 1 with (fail)
  have KS_ := Aside0.mk ((KS.nil w).alloc (.cells #[.slice A0 l.length c0, .int .i64 wd, .bool two] 24))
  generalize w.alloc (.cells #[.slice A0 l.length c0, .int .i64 wd, .bool two] 24) = W0 at KS_ ⊢
  have hcq := bcs3 KS_.out.a0
  go_upto_region 3 with (first | (go_at_call 14; refine (awake_c _ (Tab.below HG.out KS_.out.bel)).mono ?_; rintro e w2 ⟨rfl, hb⟩; (try clear hcq); have KS' := Aside0.mk (KS_.out.step hb); clear KS_ hb; have KS_ := KS'; clear KS'; have hcq := bcs3 KS_.out.a0) | (go_at_call 15; refine (made_c A0 c0 l wd two _ (Kd.C_below HR.out KS_.out.bel) hc).mono ?_; rintro e w2 ⟨n, s, A, c, xs, rfl, hF, hA, hC, hxc, hx1, hx2, hb, hfar⟩; have hF1 := hfar _ (blk_lt KS_.out.a0); clear hfar; have KS' := Aside0.mk (KS_.out.step hb); clear KS_ hb; have KS_ := KS'; clear KS'; have HA := Aside0.mk hA; have HC := Aside0.mk hC; clear hA hC) | (refine wl_stbox (n := n) (s := s) (a1 := ?_) rfl rfl rfl rfl (blk_new w2 _) rfl ?_ ?_; rotate_left 1; (· simp only [Act.put, List.setIfInBounds_toArray, List.set_cons_zero, List.set_cons_succ]; with_reducible rfl)))
  clear hcq hF1
  rw [zbox]
  have KS' := Aside0.mk (KS_.out.var n s)
  have HA' := Aside0.mk (HA.out.below (belowVar w2 n s))
  have HC' := Aside0.mk (Kd.C_below HC.out (belowVar w2 n s))
  clear KS_ HA HC
  generalize (w2.alloc (zN.box zS)).setRow w2.heap.size (n.cells s) = W1 at KS' HA' HC' ⊢
  generalize w2.heap.size = d at KS' ⊢
  have KS_ := KS'
  have HA := HA'
  have HC := HC'
  clear KS' HA' HC'
  have e1 : Go.bits .and .i64 count 1099511627775 = count % 1099511627776 := and_mask count 40 (by decide)
  have e2 : Go.bits .and .i64 count 31 = count % 32 := and_mask count 5 (by decide)
  have e3 : Go.bits .and .i64 near 3 = near % 4 := and_mask near 2 (by decide)
  have e4 : Go.bits .and .i64 (near / 4) 3 = near / 4 % 4 := and_mask (near / 4) 2 (by decide)
  have hst := hF.stp
  clear HA HC hxc hx1 hx2
  have KS' := Aside0.mk KS_.out.one
  clear KS_
  have KS_ := KS'
  clear KS'
  by_cases h64 : Go.bits .and .i64 near 64 = 0
  · have h64b : decide (Go.bits .and .i64 near 64 = 0) = true := decide_eq_true h64
    go_upto_region 6 with (fail)
    have ht : 0 ≤ count % 32 ∧ count % 32 ≤ 1099511627775 := by omega
    clear e1 e2 h64 h64b
    generalize count % 1099511627776 = tq
    generalize count % 32 = t at ht ⊢
    cases hq : rWin n.k
    · go_upto_region 8 with (first | (refine wl_boxg (a1 := ?_) rfl (by first | exact wanted_none rfl | exact (ow_wt rfl rfl).trans rfl | exact (ow_wf rfl rfl).trans rfl) rfl KS_.out.a0 ?_ ?_; rotate_left 1; (· simp only [Act.put, List.setIfInBounds_toArray, List.set_cons_zero, List.set_cons_succ, guarded_true, i64_w, i32_w]; with_reducible rfl)) | (go_at_call 18; with_reducible refine (Pads_c n s _ (Tab.below HG.out KS_.out.bel)).mono ?_; rintro e w2 ⟨rfl, hb⟩; have KS' := Aside0.mk (KS_.out.step hb); clear KS_ hb; have KS_ := KS'; clear KS') | (go_at_call 19; with_reducible refine (Span_c n s _ (Tab.below HG.out KS_.out.bel)).mono ?_; rintro e w2 ⟨rfl, hb⟩; have KS' := Aside0.mk (KS_.out.step hb); clear KS_ hb; have KS_ := KS'; clear KS'))
      refine plan0_ (id := 8) (S := fun w' => KS w w' [(d, n.box s)]) [(0, true), (1, true), (2, true), (3, true), (4, true), (5, true), (6, true), (7, true), (8, true), (9, true), (10, true), (11, true), (12, true), (13, true), (14, true), (15, true), (16, true), (17, true), (18, true), (19, true), (20, true), (21, true), (22, true), (23, true)] (by kernel_rfl) KS_.out ?_; intro w3 hS; (repeat (first | (refine plan_p (v := ?_) (a1 := ?_) (by simp only [List.getElem?_toArray, List.getElem?_cons_zero, List.getElem?_cons_succ]; rfl) rfl ?_ ?_ ?_ ?_; rotate_left 2; (· intro w_ hS_; refine (run_box _ _ rfl rfl hS_.a0).trans ?_; with_reducible rfl); (· simp only [Act.put, List.setIfInBounds_toArray, List.set_cons_zero, List.set_cons_succ, guarded_true, i64_w, i32_w]; with_reducible rfl); (· exact fun _ _ _ h => h)) | (refine plan_or (b := ?_) (z := ?_) (a1 := ?_) (by simp only [List.getElem?_toArray, List.getElem?_cons_zero, List.getElem?_cons_succ]; rfl) rfl (by first | exact wanted_none rfl | exact ow_wt rfl rfl | exact ow_wf rfl rfl | exact ow_wnt rfl rfl | exact ow_wnf rfl rfl) ?_ ?_ ?_ ?_ ?_; rotate_left 3; (· intro hg; (try simp only [Bool.and_eq_true, Bool.not_eq_true', Bool.not_eq_eq_eq_not, Bool.not_true] at hg); (first | rfl | ((show (guarded _ (Value.bool _)) = _); (simp only [hg, guarded_true, Bool.not_false, Bool.not_true, Bool.or_false, Bool.and_self, Bool.and_true, Bool.true_and, Bool.false_eq_true]; with_reducible rfl)))); (· intro hg hz; (try simp only [Bool.and_eq_true, Bool.not_eq_true', Bool.not_eq_eq_eq_not, Bool.not_true] at hg); (show (guarded _ (Value.bool _)) = _); (simp only [hg, hz, guarded_true, Bool.not_false, Bool.not_true, Bool.or_false, Bool.and_self, Bool.and_true, Bool.true_and, Bool.false_eq_true]; with_reducible rfl)); (· simp only [Act.put, List.setIfInBounds_toArray, List.set_cons_zero, List.set_cons_succ, guarded_true, i64_w, i32_w]; with_reducible rfl); (· exact fun _ _ _ h => h)) | (refine plan_and (b := ?_) (z := ?_) (a1 := ?_) (by simp only [List.getElem?_toArray, List.getElem?_cons_zero, List.getElem?_cons_succ]; rfl) rfl (by first | exact wanted_none rfl | exact ow_wt rfl rfl | exact ow_wf rfl rfl | exact ow_wnt rfl rfl | exact ow_wnf rfl rfl) ?_ ?_ ?_ ?_ ?_; rotate_left 3; (· intro hg; (try simp only [Bool.and_eq_true, Bool.not_eq_true', Bool.not_eq_eq_eq_not, Bool.not_true] at hg); (first | rfl | ((show (guarded _ (Value.bool _)) = _); (simp only [hg, guarded_true, Bool.not_false, Bool.not_true, Bool.or_false, Bool.and_self, Bool.and_true, Bool.true_and, Bool.false_eq_true]; with_reducible rfl)))); (· intro hg hz; (try simp only [Bool.and_eq_true, Bool.not_eq_true', Bool.not_eq_eq_eq_not, Bool.not_true] at hg); (show (guarded _ (Value.bool _)) = _); (simp only [hg, hz, guarded_true, Bool.not_false, Bool.not_true, Bool.or_false, Bool.and_self, Bool.and_true, Bool.true_and, Bool.false_eq_true]; with_reducible rfl)); (· simp only [Act.put, List.setIfInBounds_toArray, List.set_cons_zero, List.set_cons_succ, guarded_true, i64_w, i32_w]; with_reducible rfl); (· exact fun _ _ _ h => h)) | (refine plan_p (v := ?_) (a1 := ?_) (by simp only [List.getElem?_toArray, List.getElem?_cons_zero, List.getElem?_cons_succ]; rfl) rfl ?_ ?_ ?_ ?_; rotate_left 2; (· intro w_ hS_; (try have hcz := bcs15 hS_.a0); go_simp; with_reducible rfl); (· simp only [Act.put, List.setIfInBounds_toArray, List.set_cons_zero, List.set_cons_succ, guarded_true, i64_w, i32_w]; with_reducible rfl); (· exact fun _ _ _ h => h)) | (refine plan_g (v := ?_) (a1 := ?_) (by simp only [List.getElem?_toArray, List.getElem?_cons_zero, List.getElem?_cons_succ]; rfl) (by first | exact wanted_none rfl | exact ow_wt rfl rfl | exact ow_wf rfl rfl | exact ow_wnt rfl rfl | exact ow_wnf rfl rfl) ?_ ?_ ?_ ?_; rotate_left 2; (· intro hg w_ hS_; refine (run_box _ _ rfl rfl hS_.a0).trans ?_; with_reducible rfl); (· simp only [Act.put, List.setIfInBounds_toArray, List.set_cons_zero, List.set_cons_succ, guarded_true, i64_w, i32_w]; with_reducible rfl); (· exact fun _ _ _ h => h)) | (refine plan_g (v := ?_) (a1 := ?_) (by simp only [List.getElem?_toArray, List.getElem?_cons_zero, List.getElem?_cons_succ]; rfl) (by first | exact wanted_none rfl | exact ow_wt rfl rfl | exact ow_wf rfl rfl | exact ow_wnt rfl rfl | exact ow_wnf rfl rfl) ?_ ?_ ?_ ?_; rotate_left 2; (· intro hg w_ hS_; (try simp only [hg, guarded_true]); (try (simp only [Bool.and_eq_true] at hg; simp only [hg, guarded_true, Bool.and_self])); (try simp only [Bool.and_eq_true, Bool.not_eq_true', Bool.not_eq_eq_eq_not, Bool.not_true] at hg); (try simp only [hg, guarded_true, Bool.not_false, Bool.not_true, Bool.or_false, Bool.and_self, Bool.and_true, Bool.true_and, Bool.false_eq_true]); (try have hcz := bcs15 hS_.a0); go_simp; with_reducible rfl); (· simp only [Act.put, List.setIfInBounds_toArray, List.set_cons_zero, List.set_cons_succ, guarded_true, i64_w, i32_w]; with_reducible rfl); (· exact fun _ _ _ h => h)))); refine plan_n ?_; clear KS_; have KS_ := Aside0.mk hS; clear hS
      rw [show (n.k == 1 || n.k == 2 || n.k == 3 || n.k == 4 || n.k == 12) = rWin n.k from rfl, hq]
      go_wp2_with (first | (refine wl_boxg (a1 := ?_) rfl (by first | exact wanted_none rfl | exact (ow_wt rfl rfl).trans rfl | exact (ow_wf rfl rfl).trans rfl) rfl KS_.out.a0 ?_ ?_; rotate_left 1; (· simp only [Act.put, List.setIfInBounds_toArray, List.set_cons_zero, List.set_cons_succ, guarded_true, i64_w, i32_w]; with_reducible rfl)) | (go_at_call 20; with_reducible refine (ready_m n s _ 1 _ [0] _ 0 (by simp) (Tab.below HG.out (below_alloc KS_.out.bel _)) (C1 _ 0 _) (by simp) (by simp) hst (Fine.none (n := n) [0] (few1 0 (Int.le_refl 0))).1).mono ?_; rintro e w2 ⟨rfl, hb⟩; have hb := below_step (below_alloc (Below.refl _ _) _) hb; have KS' := Aside0.mk (KS_.out.step hb); clear KS_ hb; have KS_ := KS'; clear KS') | (go_at_call 21; with_reducible refine (count_m n s _ 1 _ [0] _ 0 (by simp) (Tab.below HG.out (below_alloc KS_.out.bel _)) (C1 _ 0 _) (by simp) (by simp) hst (Fine.none (n := n) [0] (few1 0 (Int.le_refl 0))).2).mono ?_; rintro e w2 ⟨rfl, hb⟩; have hb := below_step (below_alloc (Below.refl _ _) _) hb; have KS' := Aside0.mk (KS_.out.step hb); clear KS_ hb; have KS_ := KS'; clear KS'))
      go_ret
      exact ⟨rfl, KS_.out.bel⟩
    · obtain ⟨st, lf, rt, sp, hd⟩ := hF.wd hq
      go_upto_region 8 with (first | (refine wl_boxg (a1 := ?_) rfl (by first | exact wanted_none rfl | exact (ow_wt rfl rfl).trans rfl | exact (ow_wf rfl rfl).trans rfl) rfl KS_.out.a0 ?_ ?_; rotate_left 1; (· simp only [Act.put, List.setIfInBounds_toArray, List.set_cons_zero, List.set_cons_succ, guarded_true, i64_w, i32_w]; with_reducible rfl)) | (go_at_call 18; with_reducible refine (pads_m n s _ lf rt (Tab.below HG.out KS_.out.bel) hd.padL hd.padR).mono ?_; rintro e w2 ⟨rfl, hb⟩; have KS' := Aside0.mk (KS_.out.step hb); clear KS_ hb; have KS_ := KS'; clear KS') | (go_at_call 19; with_reducible refine (span_m n s _ sp (Tab.below HG.out KS_.out.bel) hd.span).mono ?_; rintro e w2 ⟨rfl, hb⟩; have KS' := Aside0.mk (KS_.out.step hb); clear KS_ hb; have KS_ := KS'; clear KS'))
      refine plan0_ (id := 8) (S := fun w' => KS w w' [(d, n.box s)]) [(0, true), (1, true), (2, true), (3, true), (4, true), (5, true), (6, true), (7, true), (8, true), (9, true), (10, true), (11, true), (12, true), (13, true), (14, true), (15, true), (16, true), (17, true), (18, true), (19, true), (20, true), (21, true), (22, true), (23, true)] (by kernel_rfl) KS_.out ?_; intro w3 hS; (repeat (first | (refine plan_p (v := ?_) (a1 := ?_) (by simp only [List.getElem?_toArray, List.getElem?_cons_zero, List.getElem?_cons_succ]; rfl) rfl ?_ ?_ ?_ ?_; rotate_left 2; (· intro w_ hS_; refine (run_box _ _ rfl rfl hS_.a0).trans ?_; with_reducible rfl); (· simp only [Act.put, List.setIfInBounds_toArray, List.set_cons_zero, List.set_cons_succ, guarded_true, i64_w, i32_w]; with_reducible rfl); (· exact fun _ _ _ h => h)) | (refine plan_or (b := ?_) (z := ?_) (a1 := ?_) (by simp only [List.getElem?_toArray, List.getElem?_cons_zero, List.getElem?_cons_succ]; rfl) rfl (by first | exact wanted_none rfl | exact ow_wt rfl rfl | exact ow_wf rfl rfl | exact ow_wnt rfl rfl | exact ow_wnf rfl rfl) ?_ ?_ ?_ ?_ ?_; rotate_left 3; (· intro hg; (try simp only [Bool.and_eq_true, Bool.not_eq_true', Bool.not_eq_eq_eq_not, Bool.not_true] at hg); (first | rfl | ((show (guarded _ (Value.bool _)) = _); (simp only [hg, guarded_true, Bool.not_false, Bool.not_true, Bool.or_false, Bool.and_self, Bool.and_true, Bool.true_and, Bool.false_eq_true]; with_reducible rfl)))); (· intro hg hz; (try simp only [Bool.and_eq_true, Bool.not_eq_true', Bool.not_eq_eq_eq_not, Bool.not_true] at hg); (show (guarded _ (Value.bool _)) = _); (simp only [hg, hz, guarded_true, Bool.not_false, Bool.not_true, Bool.or_false, Bool.and_self, Bool.and_true, Bool.true_and, Bool.false_eq_true]; with_reducible rfl)); (· simp only [Act.put, List.setIfInBounds_toArray, List.set_cons_zero, List.set_cons_succ, guarded_true, i64_w, i32_w]; with_reducible rfl); (· exact fun _ _ _ h => h)) | (refine plan_and (b := ?_) (z := ?_) (a1 := ?_) (by simp only [List.getElem?_toArray, List.getElem?_cons_zero, List.getElem?_cons_succ]; rfl) rfl (by first | exact wanted_none rfl | exact ow_wt rfl rfl | exact ow_wf rfl rfl | exact ow_wnt rfl rfl | exact ow_wnf rfl rfl) ?_ ?_ ?_ ?_ ?_; rotate_left 3; (· intro hg; (try simp only [Bool.and_eq_true, Bool.not_eq_true', Bool.not_eq_eq_eq_not, Bool.not_true] at hg); (first | rfl | ((show (guarded _ (Value.bool _)) = _); (simp only [hg, guarded_true, Bool.not_false, Bool.not_true, Bool.or_false, Bool.and_self, Bool.and_true, Bool.true_and, Bool.false_eq_true]; with_reducible rfl)))); (· intro hg hz; (try simp only [Bool.and_eq_true, Bool.not_eq_true', Bool.not_eq_eq_eq_not, Bool.not_true] at hg); (show (guarded _ (Value.bool _)) = _); (simp only [hg, hz, guarded_true, Bool.not_false, Bool.not_true, Bool.or_false, Bool.and_self, Bool.and_true, Bool.true_and, Bool.false_eq_true]; with_reducible rfl)); (· simp only [Act.put, List.setIfInBounds_toArray, List.set_cons_zero, List.set_cons_succ, guarded_true, i64_w, i32_w]; with_reducible rfl); (· exact fun _ _ _ h => h)) | (refine plan_p (v := ?_) (a1 := ?_) (by simp only [List.getElem?_toArray, List.getElem?_cons_zero, List.getElem?_cons_succ]; rfl) rfl ?_ ?_ ?_ ?_; rotate_left 2; (· intro w_ hS_; (try have hcz := bcs15 hS_.a0); go_simp; with_reducible rfl); (· simp only [Act.put, List.setIfInBounds_toArray, List.set_cons_zero, List.set_cons_succ, guarded_true, i64_w, i32_w]; with_reducible rfl); (· exact fun _ _ _ h => h)) | (refine plan_g (v := ?_) (a1 := ?_) (by simp only [List.getElem?_toArray, List.getElem?_cons_zero, List.getElem?_cons_succ]; rfl) (by first | exact wanted_none rfl | exact ow_wt rfl rfl | exact ow_wf rfl rfl | exact ow_wnt rfl rfl | exact ow_wnf rfl rfl) ?_ ?_ ?_ ?_; rotate_left 2; (· intro hg w_ hS_; refine (run_box _ _ rfl rfl hS_.a0).trans ?_; with_reducible rfl); (· simp only [Act.put, List.setIfInBounds_toArray, List.set_cons_zero, List.set_cons_succ, guarded_true, i64_w, i32_w]; with_reducible rfl); (· exact fun _ _ _ h => h)) | (refine plan_g (v := ?_) (a1 := ?_) (by simp only [List.getElem?_toArray, List.getElem?_cons_zero, List.getElem?_cons_succ]; rfl) (by first | exact wanted_none rfl | exact ow_wt rfl rfl | exact ow_wf rfl rfl | exact ow_wnt rfl rfl | exact ow_wnf rfl rfl) ?_ ?_ ?_ ?_; rotate_left 2; (· intro hg w_ hS_; (try simp only [hg, guarded_true]); (try (simp only [Bool.and_eq_true] at hg; simp only [hg, guarded_true, Bool.and_self])); (try simp only [Bool.and_eq_true, Bool.not_eq_true', Bool.not_eq_eq_eq_not, Bool.not_true] at hg); (try simp only [hg, guarded_true, Bool.not_false, Bool.not_true, Bool.or_false, Bool.and_self, Bool.and_true, Bool.true_and, Bool.false_eq_true]); (try have hcz := bcs15 hS_.a0); go_simp; with_reducible rfl); (· simp only [Act.put, List.setIfInBounds_toArray, List.set_cons_zero, List.set_cons_succ, guarded_true, i64_w, i32_w]; with_reducible rfl); (· exact fun _ _ _ h => h)))); refine plan_n ?_; clear KS_; have KS_ := Aside0.mk hS; clear hS
      rw [show (n.k == 1 || n.k == 2 || n.k == 3 || n.k == 4 || n.k == 12) = rWin n.k from rfl, hq]
      by_cases ht0 : t = 0
      · subst ht0
        go_wp2_with (first | (refine wl_boxg (a1 := ?_) rfl (by first | exact wanted_none rfl | exact (ow_wt rfl rfl).trans rfl | exact (ow_wf rfl rfl).trans rfl) rfl KS_.out.a0 ?_ ?_; rotate_left 1; (· simp only [Act.put, List.setIfInBounds_toArray, List.set_cons_zero, List.set_cons_succ, guarded_true, i64_w, i32_w]; with_reducible rfl)) | (go_at_call 20; with_reducible refine (ready_m n s _ 1 _ [0] _ 0 (by simp) (Tab.below HG.out (below_alloc KS_.out.bel _)) (C1 _ 0 _) (by simp) (by simp) hst (Fine.none (n := n) [0] (few1 0 (Int.le_refl 0))).1).mono ?_; rintro e w2 ⟨rfl, hb⟩; have hb := below_step (below_alloc (Below.refl _ _) _) hb; have KS' := Aside0.mk (KS_.out.step hb); clear KS_ hb; have KS_ := KS'; clear KS') | (go_at_call 21; with_reducible refine (count_m n s _ 1 _ [0] _ 0 (by simp) (Tab.below HG.out (below_alloc KS_.out.bel _)) (C1 _ 0 _) (by simp) (by simp) hst (Fine.none (n := n) [0] (few1 0 (Int.le_refl 0))).2).mono ?_; rintro e w2 ⟨rfl, hb⟩; have hb := below_step (below_alloc (Below.refl _ _) _) hb; have KS' := Aside0.mk (KS_.out.step hb); clear KS_ hb; have KS_ := KS'; clear KS'))
        go_ret
        exact ⟨rfl, KS_.out.bel⟩
      · obtain ⟨er, ec⟩ := Fine.winds hq [t] t (few1 t ht.1) (by omega)
        have r0 := hd.r0
        have r1 := hd.r1
        have s1 := hd.s1
        have l1 := hd.l1
        rw [hd.padR, w64 (by omega) (by omega)] at ec
        obtain ⟨a0, a1, a2⟩ := hd.ends t ht.1 (by omega)
        obtain ⟨b0, b1, b2⟩ := hd.ends (t + rt) (by omega) (by omega)
        generalize n.ends t = r at er a0 a1 a2
        generalize n.ends (t + rt) = cc at ec b0 b1 b2
        have HD := Aside0.mk hd
        clear hd
        go_upto_region 13 with (first | (refine wl_boxg (a1 := ?_) rfl (by first | exact wanted_none rfl | exact (ow_wt rfl rfl).trans rfl | exact (ow_wf rfl rfl).trans rfl) rfl KS_.out.a0 ?_ ?_; rotate_left 1; (· simp only [Act.put, List.setIfInBounds_toArray, List.set_cons_zero, List.set_cons_succ, guarded_true, i64_w, i32_w]; with_reducible rfl)) | (go_at_call 20; with_reducible refine (ready_m n s _ 1 _ [t] _ r (by simp) (Tab.below HG.out (below_alloc KS_.out.bel _)) (C1 _ t _) (by simp) (by simp) hst er).mono ?_; rintro e w2 ⟨rfl, hb⟩; have hb := below_step (below_alloc (Below.refl _ _) _) hb; have KS' := Aside0.mk (KS_.out.step hb); clear KS_ hb; have KS_ := KS'; clear KS') | (go_at_call 21; with_reducible refine (count_m n s _ 1 _ [t] _ cc (by simp) (Tab.below HG.out (below_alloc KS_.out.bel _)) (C1 _ t _) (by simp) (by simp) hst ec).mono ?_; rintro e w2 ⟨rfl, hb⟩; have hb := below_step (below_alloc (Below.refl _ _) _) hb; have KS' := Aside0.mk (KS_.out.step hb); clear KS_ hb; have KS_ := KS'; clear KS'))
        generalize hi0 : r - 2 + near % 4 = i0
        generalize hj0 : cc - 2 + near / 4 % 4 = j0
        have hi1 : -2 ≤ i0 ∧ i0 ≤ r + 1 := by omega
        have hj1 : -2 ≤ j0 ∧ j0 ≤ cc + 1 := by omega
        clear hi0 hj0
        by_cases hin : i0 < 0
        · have hid : decide (i0 < 0) = true := decide_eq_true hin
          by_cases hjn : j0 < 0
          · have hjd : decide (j0 < 0) = true := decide_eq_true hjn
            go_upto_region 17 with (fail)
            obtain ⟨x, hx, hx1⟩ : ∃ x, n.first 0 = x ∧ x = 0 * st - lf := ⟨_, HD.out.first 0 (by omega) (by omega), rfl⟩
            have k1 := a2 0 (by omega)
            have k2 := b2 0 (by omega)
            have m1 := mul_le 0 1099511627800 st 3 (by omega) (by omega) (by have := HD.out.t0; omega) HD.out.t1
            have l0 := HD.out.l0
            rw [← hx1] at k1 k2
            have x0 : -10 ≤ x ∧ x ≤ 3298534883400 := by omega
            have y1 : -lf ≤ x := by omega
            clear hx1 m1
            rcases Int.lt_or_le 0 r with hA | hA
            · have gA : decide (0 < r) = true := decide_eq_true hA
              have gX : decide (x + sp - 1 < t) = true := decide_eq_true (k1.mp hA)
              have hX : x + sp - 1 < t := k1.mp hA
              rcases Int.lt_or_le 0 cc with hB | hB
              · have gB : decide (0 < cc) = true := decide_eq_true hB
                have gY : decide (x + sp - 1 < t + rt) = true := decide_eq_true (k2.mp hB)
                have hY : x + sp - 1 < t + rt := k2.mp hB
                have gZ : decide (x < t) = true := decide_eq_true (by omega)
                have hZ : x < t := by omega
                have gW : decide (0 < x + sp) = true := decide_eq_true (by omega)
                have hW : 0 < x + sp := by omega
                clear k1 k2 hi1 hj1 a2 b2
                go_wp2_with (first | (refine wl_boxg (a1 := ?_) rfl (by first | exact wanted_none rfl | exact (ow_wt rfl rfl).trans rfl | exact (ow_wf rfl rfl).trans rfl) rfl KS_.out.a0 ?_ ?_; rotate_left 1; (· simp only [Act.put, List.setIfInBounds_toArray, List.set_cons_zero, List.set_cons_succ, guarded_true, i64_w, i32_w]; with_reducible rfl)) | (go_at_call 20; with_reducible refine (ready_m n s _ 1 _ [t] _ r (by simp) (Tab.below HG.out (below_alloc KS_.out.bel _)) (C1 _ t _) (by simp) (by simp) hst er).mono ?_; rintro e w2 ⟨rfl, hb⟩; have hb := below_step (below_alloc (Below.refl _ _) _) hb; have KS' := Aside0.mk (KS_.out.step hb); clear KS_ hb; have KS_ := KS'; clear KS') | (go_at_call 21; with_reducible refine (count_m n s _ 1 _ [t] _ cc (by simp) (Tab.below HG.out (below_alloc KS_.out.bel _)) (C1 _ t _) (by simp) (by simp) hst ec).mono ?_; rintro e w2 ⟨rfl, hb⟩; have hb := below_step (below_alloc (Below.refl _ _) _) hb; have KS' := Aside0.mk (KS_.out.step hb); clear KS_ hb; have KS_ := KS'; clear KS') | (go_at_call 22; with_reducible refine (first_m n s 0 _ x (Tab.below HG.out KS_.out.bel) hx).mono ?_; rintro e w2 ⟨rfl, hb⟩; have KS' := Aside0.mk (KS_.out.step hb); clear KS_ hb; have KS_ := KS'; clear KS') | (go_at_call 22; with_reducible refine (first_m n s 0 _ x (Tab.below HG.out KS_.out.bel) hx).mono ?_; rintro e w2 ⟨rfl, hb⟩; have KS' := Aside0.mk (KS_.out.step hb); clear KS_ hb; have KS_ := KS'; clear KS'))
                go_ret
                exact ⟨rfl, KS_.out.bel⟩
              · exfalso
                have h1 := k1.mp hA
                have h2 : ¬ (x + sp - 1 < t + rt) := (fun h => Int.not_lt.mpr hB (k2.mpr h))
                omega
            · have gA : decide (0 < r) = false := decide_eq_false (Int.not_lt.mpr hA)
              have gX : decide (x + sp - 1 < t) = false := decide_eq_false (fun h => Int.not_lt.mpr hA (k1.mpr h))
              have hX : ¬ (x + sp - 1 < t) := (fun h => Int.not_lt.mpr hA (k1.mpr h))
              rcases Int.lt_or_le 0 cc with hB | hB
              · have gB : decide (0 < cc) = true := decide_eq_true hB
                have gY : decide (x + sp - 1 < t + rt) = true := decide_eq_true (k2.mp hB)
                have hY : x + sp - 1 < t + rt := k2.mp hB
                have gZ : decide (x < t) = true := decide_eq_true (by omega)
                have hZ : x < t := by omega
                have gW : decide (0 < x + sp) = true := decide_eq_true (by omega)
                have hW : 0 < x + sp := by omega
                clear k1 k2 hi1 hj1 a2 b2
                go_wp2_with (first | (refine wl_boxg (a1 := ?_) rfl (by first | exact wanted_none rfl | exact (ow_wt rfl rfl).trans rfl | exact (ow_wf rfl rfl).trans rfl) rfl KS_.out.a0 ?_ ?_; rotate_left 1; (· simp only [Act.put, List.setIfInBounds_toArray, List.set_cons_zero, List.set_cons_succ, guarded_true, i64_w, i32_w]; with_reducible rfl)) | (go_at_call 20; with_reducible refine (ready_m n s _ 1 _ [t] _ r (by simp) (Tab.below HG.out (below_alloc KS_.out.bel _)) (C1 _ t _) (by simp) (by simp) hst er).mono ?_; rintro e w2 ⟨rfl, hb⟩; have hb := below_step (below_alloc (Below.refl _ _) _) hb; have KS' := Aside0.mk (KS_.out.step hb); clear KS_ hb; have KS_ := KS'; clear KS') | (go_at_call 21; with_reducible refine (count_m n s _ 1 _ [t] _ cc (by simp) (Tab.below HG.out (below_alloc KS_.out.bel _)) (C1 _ t _) (by simp) (by simp) hst ec).mono ?_; rintro e w2 ⟨rfl, hb⟩; have hb := below_step (below_alloc (Below.refl _ _) _) hb; have KS' := Aside0.mk (KS_.out.step hb); clear KS_ hb; have KS_ := KS'; clear KS') | (go_at_call 22; with_reducible refine (first_m n s 0 _ x (Tab.below HG.out KS_.out.bel) hx).mono ?_; rintro e w2 ⟨rfl, hb⟩; have KS' := Aside0.mk (KS_.out.step hb); clear KS_ hb; have KS_ := KS'; clear KS') | (go_at_call 22; with_reducible refine (first_m n s 0 _ x (Tab.below HG.out KS_.out.bel) hx).mono ?_; rintro e w2 ⟨rfl, hb⟩; have KS' := Aside0.mk (KS_.out.step hb); clear KS_ hb; have KS_ := KS'; clear KS'))
                go_ret
                exact ⟨rfl, KS_.out.bel⟩
              · have gB : decide (0 < cc) = false := decide_eq_false (Int.not_lt.mpr hB)
                have gY : decide (x + sp - 1 < t + rt) = false := decide_eq_false (fun h => Int.not_lt.mpr hB (k2.mpr h))
                have hY : ¬ (x + sp - 1 < t + rt) := (fun h => Int.not_lt.mpr hB (k2.mpr h))
                clear k1 k2 hi1 hj1 a2 b2
                go_wp2_with (first | (refine wl_boxg (a1 := ?_) rfl (by first | exact wanted_none rfl | exact (ow_wt rfl rfl).trans rfl | exact (ow_wf rfl rfl).trans rfl) rfl KS_.out.a0 ?_ ?_; rotate_left 1; (· simp only [Act.put, List.setIfInBounds_toArray, List.set_cons_zero, List.set_cons_succ, guarded_true, i64_w, i32_w]; with_reducible rfl)) | (go_at_call 20; with_reducible refine (ready_m n s _ 1 _ [t] _ r (by simp) (Tab.below HG.out (below_alloc KS_.out.bel _)) (C1 _ t _) (by simp) (by simp) hst er).mono ?_; rintro e w2 ⟨rfl, hb⟩; have hb := below_step (below_alloc (Below.refl _ _) _) hb; have KS' := Aside0.mk (KS_.out.step hb); clear KS_ hb; have KS_ := KS'; clear KS') | (go_at_call 21; with_reducible refine (count_m n s _ 1 _ [t] _ cc (by simp) (Tab.below HG.out (below_alloc KS_.out.bel _)) (C1 _ t _) (by simp) (by simp) hst ec).mono ?_; rintro e w2 ⟨rfl, hb⟩; have hb := below_step (below_alloc (Below.refl _ _) _) hb; have KS' := Aside0.mk (KS_.out.step hb); clear KS_ hb; have KS_ := KS'; clear KS'; refine stay_ ?_) | (go_at_call 22; with_reducible refine (first_m n s 0 _ x (Tab.below HG.out KS_.out.bel) hx).mono ?_; rintro e w2 ⟨rfl, hb⟩; have KS' := Aside0.mk (KS_.out.step hb); clear KS_ hb; have KS_ := KS'; clear KS') | (go_at_call 22; with_reducible refine (first_m n s 0 _ x (Tab.below HG.out KS_.out.bel) hx).mono ?_; rintro e w2 ⟨rfl, hb⟩; have KS' := Aside0.mk (KS_.out.step hb); clear KS_ hb; have KS_ := KS'; clear KS'))
                unfold Stay
                go_wp2
                go_ret
                exact ⟨rfl, KS_.out.bel⟩
          · have hjd : decide (j0 < 0) = false := decide_eq_false hjn
            go_upto_region 17 with (fail)
            obtain ⟨x, hx, hx1⟩ : ∃ x, n.first 0 = x ∧ x = 0 * st - lf := ⟨_, HD.out.first 0 (by omega) (by omega), rfl⟩
            obtain ⟨y, hy, hy1⟩ : ∃ y, n.first j0 = y ∧ y = j0 * st - lf := ⟨_, HD.out.first j0 (by omega) (by omega), rfl⟩
            have k1 := a2 0 (by omega)
            have k2 := b2 j0 (by omega)
            have m1 := mul_le 0 1099511627800 st 3 (by omega) (by omega) (by have := HD.out.t0; omega) HD.out.t1
            have m2 := mul_le j0 1099511627800 st 3 (by omega) (by omega) (by have := HD.out.t0; omega) HD.out.t1
            have l0 := HD.out.l0
            rw [← hx1] at k1
            rw [← hy1] at k2
            have x0 : -10 ≤ x ∧ x ≤ 3298534883400 := by omega
            have y0 : -10 ≤ y ∧ y ≤ 3298534883400 := by omega
            have y1 : -lf ≤ y := by omega
            clear hx1 hy1 m1 m2
            rcases Int.lt_or_le 0 r with hA | hA
            · have gA : decide (0 < r) = true := decide_eq_true hA
              have gX : decide (x + sp - 1 < t) = true := decide_eq_true (k1.mp hA)
              have hX : x + sp - 1 < t := k1.mp hA
              rcases Int.lt_or_le j0 cc with hB | hB
              · have gB : decide (j0 < cc) = true := decide_eq_true hB
                have gY : decide (y + sp - 1 < t + rt) = true := decide_eq_true (k2.mp hB)
                have hY : y + sp - 1 < t + rt := k2.mp hB
                have gZ : decide (y < t) = true := decide_eq_true (by omega)
                have hZ : y < t := by omega
                have gW : decide (0 < y + sp) = true := decide_eq_true (by omega)
                have hW : 0 < y + sp := by omega
                clear k1 k2 hi1 hj1 a2 b2
                go_wp2_with (first | (refine wl_boxg (a1 := ?_) rfl (by first | exact wanted_none rfl | exact (ow_wt rfl rfl).trans rfl | exact (ow_wf rfl rfl).trans rfl) rfl KS_.out.a0 ?_ ?_; rotate_left 1; (· simp only [Act.put, List.setIfInBounds_toArray, List.set_cons_zero, List.set_cons_succ, guarded_true, i64_w, i32_w]; with_reducible rfl)) | (go_at_call 20; with_reducible refine (ready_m n s _ 1 _ [t] _ r (by simp) (Tab.below HG.out (below_alloc KS_.out.bel _)) (C1 _ t _) (by simp) (by simp) hst er).mono ?_; rintro e w2 ⟨rfl, hb⟩; have hb := below_step (below_alloc (Below.refl _ _) _) hb; have KS' := Aside0.mk (KS_.out.step hb); clear KS_ hb; have KS_ := KS'; clear KS') | (go_at_call 21; with_reducible refine (count_m n s _ 1 _ [t] _ cc (by simp) (Tab.below HG.out (below_alloc KS_.out.bel _)) (C1 _ t _) (by simp) (by simp) hst ec).mono ?_; rintro e w2 ⟨rfl, hb⟩; have hb := below_step (below_alloc (Below.refl _ _) _) hb; have KS' := Aside0.mk (KS_.out.step hb); clear KS_ hb; have KS_ := KS'; clear KS') | (go_at_call 22; with_reducible refine (first_m n s 0 _ x (Tab.below HG.out KS_.out.bel) hx).mono ?_; rintro e w2 ⟨rfl, hb⟩; have KS' := Aside0.mk (KS_.out.step hb); clear KS_ hb; have KS_ := KS'; clear KS') | (go_at_call 22; with_reducible refine (first_m n s j0 _ y (Tab.below HG.out KS_.out.bel) hy).mono ?_; rintro e w2 ⟨rfl, hb⟩; have KS' := Aside0.mk (KS_.out.step hb); clear KS_ hb; have KS_ := KS'; clear KS'))
                go_ret
                exact ⟨rfl, KS_.out.bel⟩
              · have gB : decide (j0 < cc) = false := decide_eq_false (Int.not_lt.mpr hB)
                have gY : decide (y + sp - 1 < t + rt) = false := decide_eq_false (fun h => Int.not_lt.mpr hB (k2.mpr h))
                have hY : ¬ (y + sp - 1 < t + rt) := (fun h => Int.not_lt.mpr hB (k2.mpr h))
                clear k1 k2 hi1 hj1 a2 b2
                go_wp2_with (first | (refine wl_boxg (a1 := ?_) rfl (by first | exact wanted_none rfl | exact (ow_wt rfl rfl).trans rfl | exact (ow_wf rfl rfl).trans rfl) rfl KS_.out.a0 ?_ ?_; rotate_left 1; (· simp only [Act.put, List.setIfInBounds_toArray, List.set_cons_zero, List.set_cons_succ, guarded_true, i64_w, i32_w]; with_reducible rfl)) | (go_at_call 20; with_reducible refine (ready_m n s _ 1 _ [t] _ r (by simp) (Tab.below HG.out (below_alloc KS_.out.bel _)) (C1 _ t _) (by simp) (by simp) hst er).mono ?_; rintro e w2 ⟨rfl, hb⟩; have hb := below_step (below_alloc (Below.refl _ _) _) hb; have KS' := Aside0.mk (KS_.out.step hb); clear KS_ hb; have KS_ := KS'; clear KS') | (go_at_call 21; with_reducible refine (count_m n s _ 1 _ [t] _ cc (by simp) (Tab.below HG.out (below_alloc KS_.out.bel _)) (C1 _ t _) (by simp) (by simp) hst ec).mono ?_; rintro e w2 ⟨rfl, hb⟩; have hb := below_step (below_alloc (Below.refl _ _) _) hb; have KS' := Aside0.mk (KS_.out.step hb); clear KS_ hb; have KS_ := KS'; clear KS'; refine stay_ ?_) | (go_at_call 22; with_reducible refine (first_m n s 0 _ x (Tab.below HG.out KS_.out.bel) hx).mono ?_; rintro e w2 ⟨rfl, hb⟩; have KS' := Aside0.mk (KS_.out.step hb); clear KS_ hb; have KS_ := KS'; clear KS') | (go_at_call 22; with_reducible refine (first_m n s j0 _ y (Tab.below HG.out KS_.out.bel) hy).mono ?_; rintro e w2 ⟨rfl, hb⟩; have KS' := Aside0.mk (KS_.out.step hb); clear KS_ hb; have KS_ := KS'; clear KS'))
                unfold Stay
                go_wp2
                go_ret
                exact ⟨rfl, KS_.out.bel⟩
            · have gA : decide (0 < r) = false := decide_eq_false (Int.not_lt.mpr hA)
              have gX : decide (x + sp - 1 < t) = false := decide_eq_false (fun h => Int.not_lt.mpr hA (k1.mpr h))
              have hX : ¬ (x + sp - 1 < t) := (fun h => Int.not_lt.mpr hA (k1.mpr h))
              rcases Int.lt_or_le j0 cc with hB | hB
              · have gB : decide (j0 < cc) = true := decide_eq_true hB
                have gY : decide (y + sp - 1 < t + rt) = true := decide_eq_true (k2.mp hB)
                have hY : y + sp - 1 < t + rt := k2.mp hB
                have gZ : decide (y < t) = true := decide_eq_true (by omega)
                have hZ : y < t := by omega
                have gW : decide (0 < y + sp) = true := decide_eq_true (by omega)
                have hW : 0 < y + sp := by omega
                clear k1 k2 hi1 hj1 a2 b2
                go_wp2_with (first | (refine wl_boxg (a1 := ?_) rfl (by first | exact wanted_none rfl | exact (ow_wt rfl rfl).trans rfl | exact (ow_wf rfl rfl).trans rfl) rfl KS_.out.a0 ?_ ?_; rotate_left 1; (· simp only [Act.put, List.setIfInBounds_toArray, List.set_cons_zero, List.set_cons_succ, guarded_true, i64_w, i32_w]; with_reducible rfl)) | (go_at_call 20; with_reducible refine (ready_m n s _ 1 _ [t] _ r (by simp) (Tab.below HG.out (below_alloc KS_.out.bel _)) (C1 _ t _) (by simp) (by simp) hst er).mono ?_; rintro e w2 ⟨rfl, hb⟩; have hb := below_step (below_alloc (Below.refl _ _) _) hb; have KS' := Aside0.mk (KS_.out.step hb); clear KS_ hb; have KS_ := KS'; clear KS') | (go_at_call 21; with_reducible refine (count_m n s _ 1 _ [t] _ cc (by simp) (Tab.below HG.out (below_alloc KS_.out.bel _)) (C1 _ t _) (by simp) (by simp) hst ec).mono ?_; rintro e w2 ⟨rfl, hb⟩; have hb := below_step (below_alloc (Below.refl _ _) _) hb; have KS' := Aside0.mk (KS_.out.step hb); clear KS_ hb; have KS_ := KS'; clear KS') | (go_at_call 22; with_reducible refine (first_m n s 0 _ x (Tab.below HG.out KS_.out.bel) hx).mono ?_; rintro e w2 ⟨rfl, hb⟩; have KS' := Aside0.mk (KS_.out.step hb); clear KS_ hb; have KS_ := KS'; clear KS') | (go_at_call 22; with_reducible refine (first_m n s j0 _ y (Tab.below HG.out KS_.out.bel) hy).mono ?_; rintro e w2 ⟨rfl, hb⟩; have KS' := Aside0.mk (KS_.out.step hb); clear KS_ hb; have KS_ := KS'; clear KS'))
                go_ret
                exact ⟨rfl, KS_.out.bel⟩
              · have gB : decide (j0 < cc) = false := decide_eq_false (Int.not_lt.mpr hB)
                have gY : decide (y + sp - 1 < t + rt) = false := decide_eq_false (fun h => Int.not_lt.mpr hB (k2.mpr h))
                have hY : ¬ (y + sp - 1 < t + rt) := (fun h => Int.not_lt.mpr hB (k2.mpr h))
                clear k1 k2 hi1 hj1 a2 b2
                go_wp2_with (first | (refine wl_boxg (a1 := ?_) rfl (by first | exact wanted_none rfl | exact (ow_wt rfl rfl).trans rfl | exact (ow_wf rfl rfl).trans rfl) rfl KS_.out.a0 ?_ ?_; rotate_left 1; (· simp only [Act.put, List.setIfInBounds_toArray, List.set_cons_zero, List.set_cons_succ, guarded_true, i64_w, i32_w]; with_reducible rfl)) | (go_at_call 20; with_reducible refine (ready_m n s _ 1 _ [t] _ r (by simp) (Tab.below HG.out (below_alloc KS_.out.bel _)) (C1 _ t _) (by simp) (by simp) hst er).mono ?_; rintro e w2 ⟨rfl, hb⟩; have hb := below_step (below_alloc (Below.refl _ _) _) hb; have KS' := Aside0.mk (KS_.out.step hb); clear KS_ hb; have KS_ := KS'; clear KS') | (go_at_call 21; with_reducible refine (count_m n s _ 1 _ [t] _ cc (by simp) (Tab.below HG.out (below_alloc KS_.out.bel _)) (C1 _ t _) (by simp) (by simp) hst ec).mono ?_; rintro e w2 ⟨rfl, hb⟩; have hb := below_step (below_alloc (Below.refl _ _) _) hb; have KS' := Aside0.mk (KS_.out.step hb); clear KS_ hb; have KS_ := KS'; clear KS'; refine stay_ ?_) | (go_at_call 22; with_reducible refine (first_m n s 0 _ x (Tab.below HG.out KS_.out.bel) hx).mono ?_; rintro e w2 ⟨rfl, hb⟩; have KS' := Aside0.mk (KS_.out.step hb); clear KS_ hb; have KS_ := KS'; clear KS') | (go_at_call 22; with_reducible refine (first_m n s j0 _ y (Tab.below HG.out KS_.out.bel) hy).mono ?_; rintro e w2 ⟨rfl, hb⟩; have KS' := Aside0.mk (KS_.out.step hb); clear KS_ hb; have KS_ := KS'; clear KS'))
                unfold Stay
                go_wp2
                go_ret
                exact ⟨rfl, KS_.out.bel⟩
        · have hid : decide (i0 < 0) = false := decide_eq_false hin
          by_cases hjn : j0 < 0
          · have hjd : decide (j0 < 0) = true := decide_eq_true hjn
            go_upto_region 17 with (fail)
            obtain ⟨x, hx, hx1⟩ : ∃ x, n.first i0 = x ∧ x = i0 * st - lf := ⟨_, HD.out.first i0 (by omega) (by omega), rfl⟩
            obtain ⟨y, hy, hy1⟩ : ∃ y, n.first 0 = y ∧ y = 0 * st - lf := ⟨_, HD.out.first 0 (by omega) (by omega), rfl⟩
            have k1 := a2 i0 (by omega)
            have k2 := b2 0 (by omega)
            have m1 := mul_le i0 1099511627800 st 3 (by omega) (by omega) (by have := HD.out.t0; omega) HD.out.t1
            have m2 := mul_le 0 1099511627800 st 3 (by omega) (by omega) (by have := HD.out.t0; omega) HD.out.t1
            have l0 := HD.out.l0
            rw [← hx1] at k1
            rw [← hy1] at k2
            have x0 : -10 ≤ x ∧ x ≤ 3298534883400 := by omega
            have y0 : -10 ≤ y ∧ y ≤ 3298534883400 := by omega
            have y1 : -lf ≤ y := by omega
            clear hx1 hy1 m1 m2
            rcases Int.lt_or_le i0 r with hA | hA
            · have gA : decide (i0 < r) = true := decide_eq_true hA
              have gX : decide (x + sp - 1 < t) = true := decide_eq_true (k1.mp hA)
              have hX : x + sp - 1 < t := k1.mp hA
              rcases Int.lt_or_le 0 cc with hB | hB
              · have gB : decide (0 < cc) = true := decide_eq_true hB
                have gY : decide (y + sp - 1 < t + rt) = true := decide_eq_true (k2.mp hB)
                have hY : y + sp - 1 < t + rt := k2.mp hB
                have gZ : decide (y < t) = true := decide_eq_true (by omega)
                have hZ : y < t := by omega
                have gW : decide (0 < y + sp) = true := decide_eq_true (by omega)
                have hW : 0 < y + sp := by omega
                clear k1 k2 hi1 hj1 a2 b2
                go_wp2_with (first | (refine wl_boxg (a1 := ?_) rfl (by first | exact wanted_none rfl | exact (ow_wt rfl rfl).trans rfl | exact (ow_wf rfl rfl).trans rfl) rfl KS_.out.a0 ?_ ?_; rotate_left 1; (· simp only [Act.put, List.setIfInBounds_toArray, List.set_cons_zero, List.set_cons_succ, guarded_true, i64_w, i32_w]; with_reducible rfl)) | (go_at_call 20; with_reducible refine (ready_m n s _ 1 _ [t] _ r (by simp) (Tab.below HG.out (below_alloc KS_.out.bel _)) (C1 _ t _) (by simp) (by simp) hst er).mono ?_; rintro e w2 ⟨rfl, hb⟩; have hb := below_step (below_alloc (Below.refl _ _) _) hb; have KS' := Aside0.mk (KS_.out.step hb); clear KS_ hb; have KS_ := KS'; clear KS') | (go_at_call 21; with_reducible refine (count_m n s _ 1 _ [t] _ cc (by simp) (Tab.below HG.out (below_alloc KS_.out.bel _)) (C1 _ t _) (by simp) (by simp) hst ec).mono ?_; rintro e w2 ⟨rfl, hb⟩; have hb := below_step (below_alloc (Below.refl _ _) _) hb; have KS' := Aside0.mk (KS_.out.step hb); clear KS_ hb; have KS_ := KS'; clear KS') | (go_at_call 22; with_reducible refine (first_m n s i0 _ x (Tab.below HG.out KS_.out.bel) hx).mono ?_; rintro e w2 ⟨rfl, hb⟩; have KS' := Aside0.mk (KS_.out.step hb); clear KS_ hb; have KS_ := KS'; clear KS') | (go_at_call 22; with_reducible refine (first_m n s 0 _ y (Tab.below HG.out KS_.out.bel) hy).mono ?_; rintro e w2 ⟨rfl, hb⟩; have KS' := Aside0.mk (KS_.out.step hb); clear KS_ hb; have KS_ := KS'; clear KS'))
                go_ret
                exact ⟨rfl, KS_.out.bel⟩
              · have gB : decide (0 < cc) = false := decide_eq_false (Int.not_lt.mpr hB)
                have gY : decide (y + sp - 1 < t + rt) = false := decide_eq_false (fun h => Int.not_lt.mpr hB (k2.mpr h))
                have hY : ¬ (y + sp - 1 < t + rt) := (fun h => Int.not_lt.mpr hB (k2.mpr h))
                clear k1 k2 hi1 hj1 a2 b2
                go_wp2_with (first | (refine wl_boxg (a1 := ?_) rfl (by first | exact wanted_none rfl | exact (ow_wt rfl rfl).trans rfl | exact (ow_wf rfl rfl).trans rfl) rfl KS_.out.a0 ?_ ?_; rotate_left 1; (· simp only [Act.put, List.setIfInBounds_toArray, List.set_cons_zero, List.set_cons_succ, guarded_true, i64_w, i32_w]; with_reducible rfl)) | (go_at_call 20; with_reducible refine (ready_m n s _ 1 _ [t] _ r (by simp) (Tab.below HG.out (below_alloc KS_.out.bel _)) (C1 _ t _) (by simp) (by simp) hst er).mono ?_; rintro e w2 ⟨rfl, hb⟩; have hb := below_step (below_alloc (Below.refl _ _) _) hb; have KS' := Aside0.mk (KS_.out.step hb); clear KS_ hb; have KS_ := KS'; clear KS') | (go_at_call 21; with_reducible refine (count_m n s _ 1 _ [t] _ cc (by simp) (Tab.below HG.out (below_alloc KS_.out.bel _)) (C1 _ t _) (by simp) (by simp) hst ec).mono ?_; rintro e w2 ⟨rfl, hb⟩; have hb := below_step (below_alloc (Below.refl _ _) _) hb; have KS' := Aside0.mk (KS_.out.step hb); clear KS_ hb; have KS_ := KS'; clear KS'; refine stay_ ?_) | (go_at_call 22; with_reducible refine (first_m n s i0 _ x (Tab.below HG.out KS_.out.bel) hx).mono ?_; rintro e w2 ⟨rfl, hb⟩; have KS' := Aside0.mk (KS_.out.step hb); clear KS_ hb; have KS_ := KS'; clear KS') | (go_at_call 22; with_reducible refine (first_m n s 0 _ y (Tab.below HG.out KS_.out.bel) hy).mono ?_; rintro e w2 ⟨rfl, hb⟩; have KS' := Aside0.mk (KS_.out.step hb); clear KS_ hb; have KS_ := KS'; clear KS'))
                unfold Stay
                go_wp2
                go_ret
                exact ⟨rfl, KS_.out.bel⟩
            · have gA : decide (i0 < r) = false := decide_eq_false (Int.not_lt.mpr hA)
              have gX : decide (x + sp - 1 < t) = false := decide_eq_false (fun h => Int.not_lt.mpr hA (k1.mpr h))
              have hX : ¬ (x + sp - 1 < t) := (fun h => Int.not_lt.mpr hA (k1.mpr h))
              rcases Int.lt_or_le 0 cc with hB | hB
              · have gB : decide (0 < cc) = true := decide_eq_true hB
                have gY : decide (y + sp - 1 < t + rt) = true := decide_eq_true (k2.mp hB)
                have hY : y + sp - 1 < t + rt := k2.mp hB
                have gZ : decide (y < t) = true := decide_eq_true (by omega)
                have hZ : y < t := by omega
                have gW : decide (0 < y + sp) = true := decide_eq_true (by omega)
                have hW : 0 < y + sp := by omega
                clear k1 k2 hi1 hj1 a2 b2
                go_wp2_with (first | (refine wl_boxg (a1 := ?_) rfl (by first | exact wanted_none rfl | exact (ow_wt rfl rfl).trans rfl | exact (ow_wf rfl rfl).trans rfl) rfl KS_.out.a0 ?_ ?_; rotate_left 1; (· simp only [Act.put, List.setIfInBounds_toArray, List.set_cons_zero, List.set_cons_succ, guarded_true, i64_w, i32_w]; with_reducible rfl)) | (go_at_call 20; with_reducible refine (ready_m n s _ 1 _ [t] _ r (by simp) (Tab.below HG.out (below_alloc KS_.out.bel _)) (C1 _ t _) (by simp) (by simp) hst er).mono ?_; rintro e w2 ⟨rfl, hb⟩; have hb := below_step (below_alloc (Below.refl _ _) _) hb; have KS' := Aside0.mk (KS_.out.step hb); clear KS_ hb; have KS_ := KS'; clear KS') | (go_at_call 21; with_reducible refine (count_m n s _ 1 _ [t] _ cc (by simp) (Tab.below HG.out (below_alloc KS_.out.bel _)) (C1 _ t _) (by simp) (by simp) hst ec).mono ?_; rintro e w2 ⟨rfl, hb⟩; have hb := below_step (below_alloc (Below.refl _ _) _) hb; have KS' := Aside0.mk (KS_.out.step hb); clear KS_ hb; have KS_ := KS'; clear KS') | (go_at_call 22; with_reducible refine (first_m n s i0 _ x (Tab.below HG.out KS_.out.bel) hx).mono ?_; rintro e w2 ⟨rfl, hb⟩; have KS' := Aside0.mk (KS_.out.step hb); clear KS_ hb; have KS_ := KS'; clear KS') | (go_at_call 22; with_reducible refine (first_m n s 0 _ y (Tab.below HG.out KS_.out.bel) hy).mono ?_; rintro e w2 ⟨rfl, hb⟩; have KS' := Aside0.mk (KS_.out.step hb); clear KS_ hb; have KS_ := KS'; clear KS'))
                go_ret
                exact ⟨rfl, KS_.out.bel⟩
              · have gB : decide (0 < cc) = false := decide_eq_false (Int.not_lt.mpr hB)
                have gY : decide (y + sp - 1 < t + rt) = false := decide_eq_false (fun h => Int.not_lt.mpr hB (k2.mpr h))
                have hY : ¬ (y + sp - 1 < t + rt) := (fun h => Int.not_lt.mpr hB (k2.mpr h))
                clear k1 k2 hi1 hj1 a2 b2
                go_wp2_with (first | (refine wl_boxg (a1 := ?_) rfl (by first | exact wanted_none rfl | exact (ow_wt rfl rfl).trans rfl | exact (ow_wf rfl rfl).trans rfl) rfl KS_.out.a0 ?_ ?_; rotate_left 1; (· simp only [Act.put, List.setIfInBounds_toArray, List.set_cons_zero, List.set_cons_succ, guarded_true, i64_w, i32_w]; with_reducible rfl)) | (go_at_call 20; with_reducible refine (ready_m n s _ 1 _ [t] _ r (by simp) (Tab.below HG.out (below_alloc KS_.out.bel _)) (C1 _ t _) (by simp) (by simp) hst er).mono ?_; rintro e w2 ⟨rfl, hb⟩; have hb := below_step (below_alloc (Below.refl _ _) _) hb; have KS' := Aside0.mk (KS_.out.step hb); clear KS_ hb; have KS_ := KS'; clear KS') | (go_at_call 21; with_reducible refine (count_m n s _ 1 _ [t] _ cc (by simp) (Tab.below HG.out (below_alloc KS_.out.bel _)) (C1 _ t _) (by simp) (by simp) hst ec).mono ?_; rintro e w2 ⟨rfl, hb⟩; have hb := below_step (below_alloc (Below.refl _ _) _) hb; have KS' := Aside0.mk (KS_.out.step hb); clear KS_ hb; have KS_ := KS'; clear KS'; refine stay_ ?_) | (go_at_call 22; with_reducible refine (first_m n s i0 _ x (Tab.below HG.out KS_.out.bel) hx).mono ?_; rintro e w2 ⟨rfl, hb⟩; have KS' := Aside0.mk (KS_.out.step hb); clear KS_ hb; have KS_ := KS'; clear KS') | (go_at_call 22; with_reducible refine (first_m n s 0 _ y (Tab.below HG.out KS_.out.bel) hy).mono ?_; rintro e w2 ⟨rfl, hb⟩; have KS' := Aside0.mk (KS_.out.step hb); clear KS_ hb; have KS_ := KS'; clear KS'))
                unfold Stay
                go_wp2
                go_ret
                exact ⟨rfl, KS_.out.bel⟩
          · have hjd : decide (j0 < 0) = false := decide_eq_false hjn
            go_upto_region 17 with (fail)
            obtain ⟨x, hx, hx1⟩ : ∃ x, n.first i0 = x ∧ x = i0 * st - lf := ⟨_, HD.out.first i0 (by omega) (by omega), rfl⟩
            obtain ⟨y, hy, hy1⟩ : ∃ y, n.first j0 = y ∧ y = j0 * st - lf := ⟨_, HD.out.first j0 (by omega) (by omega), rfl⟩
            have k1 := a2 i0 (by omega)
            have k2 := b2 j0 (by omega)
            have m1 := mul_le i0 1099511627800 st 3 (by omega) (by omega) (by have := HD.out.t0; omega) HD.out.t1
            have m2 := mul_le j0 1099511627800 st 3 (by omega) (by omega) (by have := HD.out.t0; omega) HD.out.t1
            have l0 := HD.out.l0
            rw [← hx1] at k1
            rw [← hy1] at k2
            have x0 : -10 ≤ x ∧ x ≤ 3298534883400 := by omega
            have y0 : -10 ≤ y ∧ y ≤ 3298534883400 := by omega
            have y1 : -lf ≤ y := by omega
            clear hx1 hy1 m1 m2
            rcases Int.lt_or_le i0 r with hA | hA
            · have gA : decide (i0 < r) = true := decide_eq_true hA
              have gX : decide (x + sp - 1 < t) = true := decide_eq_true (k1.mp hA)
              have hX : x + sp - 1 < t := k1.mp hA
              rcases Int.lt_or_le j0 cc with hB | hB
              · have gB : decide (j0 < cc) = true := decide_eq_true hB
                have gY : decide (y + sp - 1 < t + rt) = true := decide_eq_true (k2.mp hB)
                have hY : y + sp - 1 < t + rt := k2.mp hB
                have gZ : decide (y < t) = true := decide_eq_true (by omega)
                have hZ : y < t := by omega
                have gW : decide (0 < y + sp) = true := decide_eq_true (by omega)
                have hW : 0 < y + sp := by omega
                clear k1 k2 hi1 hj1 a2 b2
                go_wp2_with (first | (refine wl_boxg (a1 := ?_) rfl (by first | exact wanted_none rfl | exact (ow_wt rfl rfl).trans rfl | exact (ow_wf rfl rfl).trans rfl) rfl KS_.out.a0 ?_ ?_; rotate_left 1; (· simp only [Act.put, List.setIfInBounds_toArray, List.set_cons_zero, List.set_cons_succ, guarded_true, i64_w, i32_w]; with_reducible rfl)) | (go_at_call 20; with_reducible refine (ready_m n s _ 1 _ [t] _ r (by simp) (Tab.below HG.out (below_alloc KS_.out.bel _)) (C1 _ t _) (by simp) (by simp) hst er).mono ?_; rintro e w2 ⟨rfl, hb⟩; have hb := below_step (below_alloc (Below.refl _ _) _) hb; have KS' := Aside0.mk (KS_.out.step hb); clear KS_ hb; have KS_ := KS'; clear KS') | (go_at_call 21; with_reducible refine (count_m n s _ 1 _ [t] _ cc (by simp) (Tab.below HG.out (below_alloc KS_.out.bel _)) (C1 _ t _) (by simp) (by simp) hst ec).mono ?_; rintro e w2 ⟨rfl, hb⟩; have hb := below_step (below_alloc (Below.refl _ _) _) hb; have KS' := Aside0.mk (KS_.out.step hb); clear KS_ hb; have KS_ := KS'; clear KS') | (go_at_call 22; with_reducible refine (first_m n s i0 _ x (Tab.below HG.out KS_.out.bel) hx).mono ?_; rintro e w2 ⟨rfl, hb⟩; have KS' := Aside0.mk (KS_.out.step hb); clear KS_ hb; have KS_ := KS'; clear KS') | (go_at_call 22; with_reducible refine (first_m n s j0 _ y (Tab.below HG.out KS_.out.bel) hy).mono ?_; rintro e w2 ⟨rfl, hb⟩; have KS' := Aside0.mk (KS_.out.step hb); clear KS_ hb; have KS_ := KS'; clear KS'))
                go_ret
                exact ⟨rfl, KS_.out.bel⟩
              · have gB : decide (j0 < cc) = false := decide_eq_false (Int.not_lt.mpr hB)
                have gY : decide (y + sp - 1 < t + rt) = false := decide_eq_false (fun h => Int.not_lt.mpr hB (k2.mpr h))
                have hY : ¬ (y + sp - 1 < t + rt) := (fun h => Int.not_lt.mpr hB (k2.mpr h))
                clear k1 k2 hi1 hj1 a2 b2
                go_wp2_with (first | (refine wl_boxg (a1 := ?_) rfl (by first | exact wanted_none rfl | exact (ow_wt rfl rfl).trans rfl | exact (ow_wf rfl rfl).trans rfl) rfl KS_.out.a0 ?_ ?_; rotate_left 1; (· simp only [Act.put, List.setIfInBounds_toArray, List.set_cons_zero, List.set_cons_succ, guarded_true, i64_w, i32_w]; with_reducible rfl)) | (go_at_call 20; with_reducible refine (ready_m n s _ 1 _ [t] _ r (by simp) (Tab.below HG.out (below_alloc KS_.out.bel _)) (C1 _ t _) (by simp) (by simp) hst er).mono ?_; rintro e w2 ⟨rfl, hb⟩; have hb := below_step (below_alloc (Below.refl _ _) _) hb; have KS' := Aside0.mk (KS_.out.step hb); clear KS_ hb; have KS_ := KS'; clear KS') | (go_at_call 21; with_reducible refine (count_m n s _ 1 _ [t] _ cc (by simp) (Tab.below HG.out (below_alloc KS_.out.bel _)) (C1 _ t _) (by simp) (by simp) hst ec).mono ?_; rintro e w2 ⟨rfl, hb⟩; have hb := below_step (below_alloc (Below.refl _ _) _) hb; have KS' := Aside0.mk (KS_.out.step hb); clear KS_ hb; have KS_ := KS'; clear KS'; refine stay_ ?_) | (go_at_call 22; with_reducible refine (first_m n s i0 _ x (Tab.below HG.out KS_.out.bel) hx).mono ?_; rintro e w2 ⟨rfl, hb⟩; have KS' := Aside0.mk (KS_.out.step hb); clear KS_ hb; have KS_ := KS'; clear KS') | (go_at_call 22; with_reducible refine (first_m n s j0 _ y (Tab.below HG.out KS_.out.bel) hy).mono ?_; rintro e w2 ⟨rfl, hb⟩; have KS' := Aside0.mk (KS_.out.step hb); clear KS_ hb; have KS_ := KS'; clear KS'))
                unfold Stay
                go_wp2
                go_ret
                exact ⟨rfl, KS_.out.bel⟩
            · have gA : decide (i0 < r) = false := decide_eq_false (Int.not_lt.mpr hA)
              have gX : decide (x + sp - 1 < t) = false := decide_eq_false (fun h => Int.not_lt.mpr hA (k1.mpr h))
              have hX : ¬ (x + sp - 1 < t) := (fun h => Int.not_lt.mpr hA (k1.mpr h))
              rcases Int.lt_or_le j0 cc with hB | hB
              · have gB : decide (j0 < cc) = true := decide_eq_true hB
                have gY : decide (y + sp - 1 < t + rt) = true := decide_eq_true (k2.mp hB)
                have hY : y + sp - 1 < t + rt := k2.mp hB
                have gZ : decide (y < t) = true := decide_eq_true (by omega)
                have hZ : y < t := by omega
                have gW : decide (0 < y + sp) = true := decide_eq_true (by omega)
                have hW : 0 < y + sp := by omega
                clear k1 k2 hi1 hj1 a2 b2
                go_wp2_with (first | (refine wl_boxg (a1 := ?_) rfl (by first | exact wanted_none rfl | exact (ow_wt rfl rfl).trans rfl | exact (ow_wf rfl rfl).trans rfl) rfl KS_.out.a0 ?_ ?_; rotate_left 1; (· simp only [Act.put, List.setIfInBounds_toArray, List.set_cons_zero, List.set_cons_succ, guarded_true, i64_w, i32_w]; with_reducible rfl)) | (go_at_call 20; with_reducible refine (ready_m n s _ 1 _ [t] _ r (by simp) (Tab.below HG.out (below_alloc KS_.out.bel _)) (C1 _ t _) (by simp) (by simp) hst er).mono ?_; rintro e w2 ⟨rfl, hb⟩; have hb := below_step (below_alloc (Below.refl _ _) _) hb; have KS' := Aside0.mk (KS_.out.step hb); clear KS_ hb; have KS_ := KS'; clear KS') | (go_at_call 21; with_reducible refine (count_m n s _ 1 _ [t] _ cc (by simp) (Tab.below HG.out (below_alloc KS_.out.bel _)) (C1 _ t _) (by simp) (by simp) hst ec).mono ?_; rintro e w2 ⟨rfl, hb⟩; have hb := below_step (below_alloc (Below.refl _ _) _) hb; have KS' := Aside0.mk (KS_.out.step hb); clear KS_ hb; have KS_ := KS'; clear KS') | (go_at_call 22; with_reducible refine (first_m n s i0 _ x (Tab.below HG.out KS_.out.bel) hx).mono ?_; rintro e w2 ⟨rfl, hb⟩; have KS' := Aside0.mk (KS_.out.step hb); clear KS_ hb; have KS_ := KS'; clear KS') | (go_at_call 22; with_reducible refine (first_m n s j0 _ y (Tab.below HG.out KS_.out.bel) hy).mono ?_; rintro e w2 ⟨rfl, hb⟩; have KS' := Aside0.mk (KS_.out.step hb); clear KS_ hb; have KS_ := KS'; clear KS'))
                go_ret
                exact ⟨rfl, KS_.out.bel⟩
              · have gB : decide (j0 < cc) = false := decide_eq_false (Int.not_lt.mpr hB)
                have gY : decide (y + sp - 1 < t + rt) = false := decide_eq_false (fun h => Int.not_lt.mpr hB (k2.mpr h))
                have hY : ¬ (y + sp - 1 < t + rt) := (fun h => Int.not_lt.mpr hB (k2.mpr h))
                clear k1 k2 hi1 hj1 a2 b2
                go_wp2_with (first | (refine wl_boxg (a1 := ?_) rfl (by first | exact wanted_none rfl | exact (ow_wt rfl rfl).trans rfl | exact (ow_wf rfl rfl).trans rfl) rfl KS_.out.a0 ?_ ?_; rotate_left 1; (· simp only [Act.put, List.setIfInBounds_toArray, List.set_cons_zero, List.set_cons_succ, guarded_true, i64_w, i32_w]; with_reducible rfl)) | (go_at_call 20; with_reducible refine (ready_m n s _ 1 _ [t] _ r (by simp) (Tab.below HG.out (below_alloc KS_.out.bel _)) (C1 _ t _) (by simp) (by simp) hst er).mono ?_; rintro e w2 ⟨rfl, hb⟩; have hb := below_step (below_alloc (Below.refl _ _) _) hb; have KS' := Aside0.mk (KS_.out.step hb); clear KS_ hb; have KS_ := KS'; clear KS') | (go_at_call 21; with_reducible refine (count_m n s _ 1 _ [t] _ cc (by simp) (Tab.below HG.out (below_alloc KS_.out.bel _)) (C1 _ t _) (by simp) (by simp) hst ec).mono ?_; rintro e w2 ⟨rfl, hb⟩; have hb := below_step (below_alloc (Below.refl _ _) _) hb; have KS' := Aside0.mk (KS_.out.step hb); clear KS_ hb; have KS_ := KS'; clear KS'; refine stay_ ?_) | (go_at_call 22; with_reducible refine (first_m n s i0 _ x (Tab.below HG.out KS_.out.bel) hx).mono ?_; rintro e w2 ⟨rfl, hb⟩; have KS' := Aside0.mk (KS_.out.step hb); clear KS_ hb; have KS_ := KS'; clear KS') | (go_at_call 22; with_reducible refine (first_m n s j0 _ y (Tab.below HG.out KS_.out.bel) hy).mono ?_; rintro e w2 ⟨rfl, hb⟩; have KS' := Aside0.mk (KS_.out.step hb); clear KS_ hb; have KS_ := KS'; clear KS'))
                unfold Stay
                go_wp2
                go_ret
                exact ⟨rfl, KS_.out.bel⟩
  · have h64b : decide (Go.bits .and .i64 near 64 = 0) = false := decide_eq_false h64
    go_upto_region 6 with (fail)
    have ht : 0 ≤ count % 1099511627776 ∧ count % 1099511627776 ≤ 1099511627775 := by omega
    clear e1 e2 h64b
    generalize (Go.bits .and .i64 near 64 == 0) = bq
    generalize count % 1099511627776 = t at ht ⊢
    cases hq : rWin n.k
    · go_upto_region 8 with (first | (refine wl_boxg (a1 := ?_) rfl (by first | exact wanted_none rfl | exact (ow_wt rfl rfl).trans rfl | exact (ow_wf rfl rfl).trans rfl) rfl KS_.out.a0 ?_ ?_; rotate_left 1; (· simp only [Act.put, List.setIfInBounds_toArray, List.set_cons_zero, List.set_cons_succ, guarded_true, i64_w, i32_w]; with_reducible rfl)) | (go_at_call 18; with_reducible refine (Pads_c n s _ (Tab.below HG.out KS_.out.bel)).mono ?_; rintro e w2 ⟨rfl, hb⟩; have KS' := Aside0.mk (KS_.out.step hb); clear KS_ hb; have KS_ := KS'; clear KS') | (go_at_call 19; with_reducible refine (Span_c n s _ (Tab.below HG.out KS_.out.bel)).mono ?_; rintro e w2 ⟨rfl, hb⟩; have KS' := Aside0.mk (KS_.out.step hb); clear KS_ hb; have KS_ := KS'; clear KS'))
      refine plan0_ (id := 8) (S := fun w' => KS w w' [(d, n.box s)]) [(0, true), (1, true), (2, true), (3, true), (4, true), (5, true), (6, true), (7, true), (8, true), (9, true), (10, true), (11, true), (12, true), (13, true), (14, true), (15, true), (16, true), (17, true), (18, true), (19, true), (20, true), (21, true), (22, true), (23, true)] (by kernel_rfl) KS_.out ?_; intro w3 hS; (repeat (first | (refine plan_p (v := ?_) (a1 := ?_) (by simp only [List.getElem?_toArray, List.getElem?_cons_zero, List.getElem?_cons_succ]; rfl) rfl ?_ ?_ ?_ ?_; rotate_left 2; (· intro w_ hS_; refine (run_box _ _ rfl rfl hS_.a0).trans ?_; with_reducible rfl); (· simp only [Act.put, List.setIfInBounds_toArray, List.set_cons_zero, List.set_cons_succ, guarded_true, i64_w, i32_w]; with_reducible rfl); (· exact fun _ _ _ h => h)) | (refine plan_or (b := ?_) (z := ?_) (a1 := ?_) (by simp only [List.getElem?_toArray, List.getElem?_cons_zero, List.getElem?_cons_succ]; rfl) rfl (by first | exact wanted_none rfl | exact ow_wt rfl rfl | exact ow_wf rfl rfl | exact ow_wnt rfl rfl | exact ow_wnf rfl rfl) ?_ ?_ ?_ ?_ ?_; rotate_left 3; (· intro hg; (try simp only [Bool.and_eq_true, Bool.not_eq_true', Bool.not_eq_eq_eq_not, Bool.not_true] at hg); (first | rfl | ((show (guarded _ (Value.bool _)) = _); (simp only [hg, guarded_true, Bool.not_false, Bool.not_true, Bool.or_false, Bool.and_self, Bool.and_true, Bool.true_and, Bool.false_eq_true]; with_reducible rfl)))); (· intro hg hz; (try simp only [Bool.and_eq_true, Bool.not_eq_true', Bool.not_eq_eq_eq_not, Bool.not_true] at hg); (show (guarded _ (Value.bool _)) = _); (simp only [hg, hz, guarded_true, Bool.not_false, Bool.not_true, Bool.or_false, Bool.and_self, Bool.and_true, Bool.true_and, Bool.false_eq_true]; with_reducible rfl)); (· simp only [Act.put, List.setIfInBounds_toArray, List.set_cons_zero, List.set_cons_succ, guarded_true, i64_w, i32_w]; with_reducible rfl); (· exact fun _ _ _ h => h)) | (refine plan_and (b := ?_) (z := ?_) (a1 := ?_) (by simp only [List.getElem?_toArray, List.getElem?_cons_zero, List.getElem?_cons_succ]; rfl) rfl (by first | exact wanted_none rfl | exact ow_wt rfl rfl | exact ow_wf rfl rfl | exact ow_wnt rfl rfl | exact ow_wnf rfl rfl) ?_ ?_ ?_ ?_ ?_; rotate_left 3; (· intro hg; (try simp only [Bool.and_eq_true, Bool.not_eq_true', Bool.not_eq_eq_eq_not, Bool.not_true] at hg); (first | rfl | ((show (guarded _ (Value.bool _)) = _); (simp only [hg, guarded_true, Bool.not_false, Bool.not_true, Bool.or_false, Bool.and_self, Bool.and_true, Bool.true_and, Bool.false_eq_true]; with_reducible rfl)))); (· intro hg hz; (try simp only [Bool.and_eq_true, Bool.not_eq_true', Bool.not_eq_eq_eq_not, Bool.not_true] at hg); (show (guarded _ (Value.bool _)) = _); (simp only [hg, hz, guarded_true, Bool.not_false, Bool.not_true, Bool.or_false, Bool.and_self, Bool.and_true, Bool.true_and, Bool.false_eq_true]; with_reducible rfl)); (· simp only [Act.put, List.setIfInBounds_toArray, List.set_cons_zero, List.set_cons_succ, guarded_true, i64_w, i32_w]; with_reducible rfl); (· exact fun _ _ _ h => h)) | (refine plan_p (v := ?_) (a1 := ?_) (by simp only [List.getElem?_toArray, List.getElem?_cons_zero, List.getElem?_cons_succ]; rfl) rfl ?_ ?_ ?_ ?_; rotate_left 2; (· intro w_ hS_; (try have hcz := bcs15 hS_.a0); go_simp; with_reducible rfl); (· simp only [Act.put, List.setIfInBounds_toArray, List.set_cons_zero, List.set_cons_succ, guarded_true, i64_w, i32_w]; with_reducible rfl); (· exact fun _ _ _ h => h)) | (refine plan_g (v := ?_) (a1 := ?_) (by simp only [List.getElem?_toArray, List.getElem?_cons_zero, List.getElem?_cons_succ]; rfl) (by first | exact wanted_none rfl | exact ow_wt rfl rfl | exact ow_wf rfl rfl | exact ow_wnt rfl rfl | exact ow_wnf rfl rfl) ?_ ?_ ?_ ?_; rotate_left 2; (· intro hg w_ hS_; refine (run_box _ _ rfl rfl hS_.a0).trans ?_; with_reducible rfl); (· simp only [Act.put, List.setIfInBounds_toArray, List.set_cons_zero, List.set_cons_succ, guarded_true, i64_w, i32_w]; with_reducible rfl); (· exact fun _ _ _ h => h)) | (refine plan_g (v := ?_) (a1 := ?_) (by simp only [List.getElem?_toArray, List.getElem?_cons_zero, List.getElem?_cons_succ]; rfl) (by first | exact wanted_none rfl | exact ow_wt rfl rfl | exact ow_wf rfl rfl | exact ow_wnt rfl rfl | exact ow_wnf rfl rfl) ?_ ?_ ?_ ?_; rotate_left 2; (· intro hg w_ hS_; (try simp only [hg, guarded_true]); (try (simp only [Bool.and_eq_true] at hg; simp only [hg, guarded_true, Bool.and_self])); (try simp only [Bool.and_eq_true, Bool.not_eq_true', Bool.not_eq_eq_eq_not, Bool.not_true] at hg); (try simp only [hg, guarded_true, Bool.not_false, Bool.not_true, Bool.or_false, Bool.and_self, Bool.and_true, Bool.true_and, Bool.false_eq_true]); (try have hcz := bcs15 hS_.a0); go_simp; with_reducible rfl); (· simp only [Act.put, List.setIfInBounds_toArray, List.set_cons_zero, List.set_cons_succ, guarded_true, i64_w, i32_w]; with_reducible rfl); (· exact fun _ _ _ h => h)))); refine plan_n ?_; clear KS_; have KS_ := Aside0.mk hS; clear hS
      rw [show (n.k == 1 || n.k == 2 || n.k == 3 || n.k == 4 || n.k == 12) = rWin n.k from rfl, hq]
      go_wp2_with (first | (refine wl_boxg (a1 := ?_) rfl (by first | exact wanted_none rfl | exact (ow_wt rfl rfl).trans rfl | exact (ow_wf rfl rfl).trans rfl) rfl KS_.out.a0 ?_ ?_; rotate_left 1; (· simp only [Act.put, List.setIfInBounds_toArray, List.set_cons_zero, List.set_cons_succ, guarded_true, i64_w, i32_w]; with_reducible rfl)) | (go_at_call 20; with_reducible refine (ready_m n s _ 1 _ [0] _ 0 (by simp) (Tab.below HG.out (below_alloc KS_.out.bel _)) (C1 _ 0 _) (by simp) (by simp) hst (Fine.none (n := n) [0] (few1 0 (Int.le_refl 0))).1).mono ?_; rintro e w2 ⟨rfl, hb⟩; have hb := below_step (below_alloc (Below.refl _ _) _) hb; have KS' := Aside0.mk (KS_.out.step hb); clear KS_ hb; have KS_ := KS'; clear KS') | (go_at_call 21; with_reducible refine (count_m n s _ 1 _ [0] _ 0 (by simp) (Tab.below HG.out (below_alloc KS_.out.bel _)) (C1 _ 0 _) (by simp) (by simp) hst (Fine.none (n := n) [0] (few1 0 (Int.le_refl 0))).2).mono ?_; rintro e w2 ⟨rfl, hb⟩; have hb := below_step (below_alloc (Below.refl _ _) _) hb; have KS' := Aside0.mk (KS_.out.step hb); clear KS_ hb; have KS_ := KS'; clear KS'))
      go_ret
      exact ⟨rfl, KS_.out.bel⟩
    · obtain ⟨st, lf, rt, sp, hd⟩ := hF.wd hq
      go_upto_region 8 with (first | (refine wl_boxg (a1 := ?_) rfl (by first | exact wanted_none rfl | exact (ow_wt rfl rfl).trans rfl | exact (ow_wf rfl rfl).trans rfl) rfl KS_.out.a0 ?_ ?_; rotate_left 1; (· simp only [Act.put, List.setIfInBounds_toArray, List.set_cons_zero, List.set_cons_succ, guarded_true, i64_w, i32_w]; with_reducible rfl)) | (go_at_call 18; with_reducible refine (pads_m n s _ lf rt (Tab.below HG.out KS_.out.bel) hd.padL hd.padR).mono ?_; rintro e w2 ⟨rfl, hb⟩; have KS' := Aside0.mk (KS_.out.step hb); clear KS_ hb; have KS_ := KS'; clear KS') | (go_at_call 19; with_reducible refine (span_m n s _ sp (Tab.below HG.out KS_.out.bel) hd.span).mono ?_; rintro e w2 ⟨rfl, hb⟩; have KS' := Aside0.mk (KS_.out.step hb); clear KS_ hb; have KS_ := KS'; clear KS'))
      refine plan0_ (id := 8) (S := fun w' => KS w w' [(d, n.box s)]) [(0, true), (1, true), (2, true), (3, true), (4, true), (5, true), (6, true), (7, true), (8, true), (9, true), (10, true), (11, true), (12, true), (13, true), (14, true), (15, true), (16, true), (17, true), (18, true), (19, true), (20, true), (21, true), (22, true), (23, true)] (by kernel_rfl) KS_.out ?_; intro w3 hS; (repeat (first | (refine plan_p (v := ?_) (a1 := ?_) (by simp only [List.getElem?_toArray, List.getElem?_cons_zero, List.getElem?_cons_succ]; rfl) rfl ?_ ?_ ?_ ?_; rotate_left 2; (· intro w_ hS_; refine (run_box _ _ rfl rfl hS_.a0).trans ?_; with_reducible rfl); (· simp only [Act.put, List.setIfInBounds_toArray, List.set_cons_zero, List.set_cons_succ, guarded_true, i64_w, i32_w]; with_reducible rfl); (· exact fun _ _ _ h => h)) | (refine plan_or (b := ?_) (z := ?_) (a1 := ?_) (by simp only [List.getElem?_toArray, List.getElem?_cons_zero, List.getElem?_cons_succ]; rfl) rfl (by first | exact wanted_none rfl | exact ow_wt rfl rfl | exact ow_wf rfl rfl | exact ow_wnt rfl rfl | exact ow_wnf rfl rfl) ?_ ?_ ?_ ?_ ?_; rotate_left 3; (· intro hg; (try simp only [Bool.and_eq_true, Bool.not_eq_true', Bool.not_eq_eq_eq_not, Bool.not_true] at hg); (first | rfl | ((show (guarded _ (Value.bool _)) = _); (simp only [hg, guarded_true, Bool.not_false, Bool.not_true, Bool.or_false, Bool.and_self, Bool.and_true, Bool.true_and, Bool.false_eq_true]; with_reducible rfl)))); (· intro hg hz; (try simp only [Bool.and_eq_true, Bool.not_eq_true', Bool.not_eq_eq_eq_not, Bool.not_true] at hg); (show (guarded _ (Value.bool _)) = _); (simp only [hg, hz, guarded_true, Bool.not_false, Bool.not_true, Bool.or_false, Bool.and_self, Bool.and_true, Bool.true_and, Bool.false_eq_true]; with_reducible rfl)); (· simp only [Act.put, List.setIfInBounds_toArray, List.set_cons_zero, List.set_cons_succ, guarded_true, i64_w, i32_w]; with_reducible rfl); (· exact fun _ _ _ h => h)) | (refine plan_and (b := ?_) (z := ?_) (a1 := ?_) (by simp only [List.getElem?_toArray, List.getElem?_cons_zero, List.getElem?_cons_succ]; rfl) rfl (by first | exact wanted_none rfl | exact ow_wt rfl rfl | exact ow_wf rfl rfl | exact ow_wnt rfl rfl | exact ow_wnf rfl rfl) ?_ ?_ ?_ ?_ ?_; rotate_left 3; (· intro hg; (try simp only [Bool.and_eq_true, Bool.not_eq_true', Bool.not_eq_eq_eq_not, Bool.not_true] at hg); (first | rfl | ((show (guarded _ (Value.bool _)) = _); (simp only [hg, guarded_true, Bool.not_false, Bool.not_true, Bool.or_false, Bool.and_self, Bool.and_true, Bool.true_and, Bool.false_eq_true]; with_reducible rfl)))); (· intro hg hz; (try simp only [Bool.and_eq_true, Bool.not_eq_true', Bool.not_eq_eq_eq_not, Bool.not_true] at hg); (show (guarded _ (Value.bool _)) = _); (simp only [hg, hz, guarded_true, Bool.not_false, Bool.not_true, Bool.or_false, Bool.and_self, Bool.and_true, Bool.true_and, Bool.false_eq_true]; with_reducible rfl)); (· simp only [Act.put, List.setIfInBounds_toArray, List.set_cons_zero, List.set_cons_succ, guarded_true, i64_w, i32_w]; with_reducible rfl); (· exact fun _ _ _ h => h)) | (refine plan_p (v := ?_) (a1 := ?_) (by simp only [List.getElem?_toArray, List.getElem?_cons_zero, List.getElem?_cons_succ]; rfl) rfl ?_ ?_ ?_ ?_; rotate_left 2; (· intro w_ hS_; (try have hcz := bcs15 hS_.a0); go_simp; with_reducible rfl); (· simp only [Act.put, List.setIfInBounds_toArray, List.set_cons_zero, List.set_cons_succ, guarded_true, i64_w, i32_w]; with_reducible rfl); (· exact fun _ _ _ h => h)) | (refine plan_g (v := ?_) (a1 := ?_) (by simp only [List.getElem?_toArray, List.getElem?_cons_zero, List.getElem?_cons_succ]; rfl) (by first | exact wanted_none rfl | exact ow_wt rfl rfl | exact ow_wf rfl rfl | exact ow_wnt rfl rfl | exact ow_wnf rfl rfl) ?_ ?_ ?_ ?_; rotate_left 2; (· intro hg w_ hS_; refine (run_box _ _ rfl rfl hS_.a0).trans ?_; with_reducible rfl); (· simp only [Act.put, List.setIfInBounds_toArray, List.set_cons_zero, List.set_cons_succ, guarded_true, i64_w, i32_w]; with_reducible rfl); (· exact fun _ _ _ h => h)) | (refine plan_g (v := ?_) (a1 := ?_) (by simp only [List.getElem?_toArray, List.getElem?_cons_zero, List.getElem?_cons_succ]; rfl) (by first | exact wanted_none rfl | exact ow_wt rfl rfl | exact ow_wf rfl rfl | exact ow_wnt rfl rfl | exact ow_wnf rfl rfl) ?_ ?_ ?_ ?_; rotate_left 2; (· intro hg w_ hS_; (try simp only [hg, guarded_true]); (try (simp only [Bool.and_eq_true] at hg; simp only [hg, guarded_true, Bool.and_self])); (try simp only [Bool.and_eq_true, Bool.not_eq_true', Bool.not_eq_eq_eq_not, Bool.not_true] at hg); (try simp only [hg, guarded_true, Bool.not_false, Bool.not_true, Bool.or_false, Bool.and_self, Bool.and_true, Bool.true_and, Bool.false_eq_true]); (try have hcz := bcs15 hS_.a0); go_simp; with_reducible rfl); (· simp only [Act.put, List.setIfInBounds_toArray, List.set_cons_zero, List.set_cons_succ, guarded_true, i64_w, i32_w]; with_reducible rfl); (· exact fun _ _ _ h => h)))); refine plan_n ?_; clear KS_; have KS_ := Aside0.mk hS; clear hS
      rw [show (n.k == 1 || n.k == 2 || n.k == 3 || n.k == 4 || n.k == 12) = rWin n.k from rfl, hq]
      by_cases ht0 : t = 0
      · subst ht0
        go_wp2_with (first | (refine wl_boxg (a1 := ?_) rfl (by first | exact wanted_none rfl | exact (ow_wt rfl rfl).trans rfl | exact (ow_wf rfl rfl).trans rfl) rfl KS_.out.a0 ?_ ?_; rotate_left 1; (· simp only [Act.put, List.setIfInBounds_toArray, List.set_cons_zero, List.set_cons_succ, guarded_true, i64_w, i32_w]; with_reducible rfl)) | (go_at_call 20; with_reducible refine (ready_m n s _ 1 _ [0] _ 0 (by simp) (Tab.below HG.out (below_alloc KS_.out.bel _)) (C1 _ 0 _) (by simp) (by simp) hst (Fine.none (n := n) [0] (few1 0 (Int.le_refl 0))).1).mono ?_; rintro e w2 ⟨rfl, hb⟩; have hb := below_step (below_alloc (Below.refl _ _) _) hb; have KS' := Aside0.mk (KS_.out.step hb); clear KS_ hb; have KS_ := KS'; clear KS') | (go_at_call 21; with_reducible refine (count_m n s _ 1 _ [0] _ 0 (by simp) (Tab.below HG.out (below_alloc KS_.out.bel _)) (C1 _ 0 _) (by simp) (by simp) hst (Fine.none (n := n) [0] (few1 0 (Int.le_refl 0))).2).mono ?_; rintro e w2 ⟨rfl, hb⟩; have hb := below_step (below_alloc (Below.refl _ _) _) hb; have KS' := Aside0.mk (KS_.out.step hb); clear KS_ hb; have KS_ := KS'; clear KS'))
        go_ret
        exact ⟨rfl, KS_.out.bel⟩
      · obtain ⟨er, ec⟩ := Fine.winds hq [t] t (few1 t ht.1) (by omega)
        have r0 := hd.r0
        have r1 := hd.r1
        have s1 := hd.s1
        have l1 := hd.l1
        rw [hd.padR, w64 (by omega) (by omega)] at ec
        obtain ⟨a0, a1, a2⟩ := hd.ends t ht.1 (by omega)
        obtain ⟨b0, b1, b2⟩ := hd.ends (t + rt) (by omega) (by omega)
        generalize n.ends t = r at er a0 a1 a2
        generalize n.ends (t + rt) = cc at ec b0 b1 b2
        have HD := Aside0.mk hd
        clear hd
        go_upto_region 13 with (first | (refine wl_boxg (a1 := ?_) rfl (by first | exact wanted_none rfl | exact (ow_wt rfl rfl).trans rfl | exact (ow_wf rfl rfl).trans rfl) rfl KS_.out.a0 ?_ ?_; rotate_left 1; (· simp only [Act.put, List.setIfInBounds_toArray, List.set_cons_zero, List.set_cons_succ, guarded_true, i64_w, i32_w]; with_reducible rfl)) | (go_at_call 20; with_reducible refine (ready_m n s _ 1 _ [t] _ r (by simp) (Tab.below HG.out (below_alloc KS_.out.bel _)) (C1 _ t _) (by simp) (by simp) hst er).mono ?_; rintro e w2 ⟨rfl, hb⟩; have hb := below_step (below_alloc (Below.refl _ _) _) hb; have KS' := Aside0.mk (KS_.out.step hb); clear KS_ hb; have KS_ := KS'; clear KS') | (go_at_call 21; with_reducible refine (count_m n s _ 1 _ [t] _ cc (by simp) (Tab.below HG.out (below_alloc KS_.out.bel _)) (C1 _ t _) (by simp) (by simp) hst ec).mono ?_; rintro e w2 ⟨rfl, hb⟩; have hb := below_step (below_alloc (Below.refl _ _) _) hb; have KS' := Aside0.mk (KS_.out.step hb); clear KS_ hb; have KS_ := KS'; clear KS'))
        generalize hi0 : r - 2 + near % 4 = i0
        generalize hj0 : cc - 2 + near / 4 % 4 = j0
        have hi1 : -2 ≤ i0 ∧ i0 ≤ r + 1 := by omega
        have hj1 : -2 ≤ j0 ∧ j0 ≤ cc + 1 := by omega
        clear hi0 hj0
        by_cases hin : i0 < 0
        · have hid : decide (i0 < 0) = true := decide_eq_true hin
          by_cases hjn : j0 < 0
          · have hjd : decide (j0 < 0) = true := decide_eq_true hjn
            go_upto_region 17 with (fail)
            obtain ⟨x, hx, hx1⟩ : ∃ x, n.first 0 = x ∧ x = 0 * st - lf := ⟨_, HD.out.first 0 (by omega) (by omega), rfl⟩
            have k1 := a2 0 (by omega)
            have k2 := b2 0 (by omega)
            have m1 := mul_le 0 1099511627800 st 3 (by omega) (by omega) (by have := HD.out.t0; omega) HD.out.t1
            have l0 := HD.out.l0
            rw [← hx1] at k1 k2
            have x0 : -10 ≤ x ∧ x ≤ 3298534883400 := by omega
            have y1 : -lf ≤ x := by omega
            clear hx1 m1
            rcases Int.lt_or_le 0 r with hA | hA
            · have gA : decide (0 < r) = true := decide_eq_true hA
              have gX : decide (x + sp - 1 < t) = true := decide_eq_true (k1.mp hA)
              have hX : x + sp - 1 < t := k1.mp hA
              rcases Int.lt_or_le 0 cc with hB | hB
              · have gB : decide (0 < cc) = true := decide_eq_true hB
                have gY : decide (x + sp - 1 < t + rt) = true := decide_eq_true (k2.mp hB)
                have hY : x + sp - 1 < t + rt := k2.mp hB
                have gZ : decide (x < t) = true := decide_eq_true (by omega)
                have hZ : x < t := by omega
                have gW : decide (0 < x + sp) = true := decide_eq_true (by omega)
                have hW : 0 < x + sp := by omega
                clear k1 k2 hi1 hj1 a2 b2
                go_wp2_with (first | (refine wl_boxg (a1 := ?_) rfl (by first | exact wanted_none rfl | exact (ow_wt rfl rfl).trans rfl | exact (ow_wf rfl rfl).trans rfl) rfl KS_.out.a0 ?_ ?_; rotate_left 1; (· simp only [Act.put, List.setIfInBounds_toArray, List.set_cons_zero, List.set_cons_succ, guarded_true, i64_w, i32_w]; with_reducible rfl)) | (go_at_call 20; with_reducible refine (ready_m n s _ 1 _ [t] _ r (by simp) (Tab.below HG.out (below_alloc KS_.out.bel _)) (C1 _ t _) (by simp) (by simp) hst er).mono ?_; rintro e w2 ⟨rfl, hb⟩; have hb := below_step (below_alloc (Below.refl _ _) _) hb; have KS' := Aside0.mk (KS_.out.step hb); clear KS_ hb; have KS_ := KS'; clear KS') | (go_at_call 21; with_reducible refine (count_m n s _ 1 _ [t] _ cc (by simp) (Tab.below HG.out (below_alloc KS_.out.bel _)) (C1 _ t _) (by simp) (by simp) hst ec).mono ?_; rintro e w2 ⟨rfl, hb⟩; have hb := below_step (below_alloc (Below.refl _ _) _) hb; have KS' := Aside0.mk (KS_.out.step hb); clear KS_ hb; have KS_ := KS'; clear KS') | (go_at_call 22; with_reducible refine (first_m n s 0 _ x (Tab.below HG.out KS_.out.bel) hx).mono ?_; rintro e w2 ⟨rfl, hb⟩; have KS' := Aside0.mk (KS_.out.step hb); clear KS_ hb; have KS_ := KS'; clear KS') | (go_at_call 22; with_reducible refine (first_m n s 0 _ x (Tab.below HG.out KS_.out.bel) hx).mono ?_; rintro e w2 ⟨rfl, hb⟩; have KS' := Aside0.mk (KS_.out.step hb); clear KS_ hb; have KS_ := KS'; clear KS'))
                go_ret
                exact ⟨rfl, KS_.out.bel⟩
              · exfalso
                have h1 := k1.mp hA
                have h2 : ¬ (x + sp - 1 < t + rt) := (fun h => Int.not_lt.mpr hB (k2.mpr h))
                omega
            · have gA : decide (0 < r) = false := decide_eq_false (Int.not_lt.mpr hA)
              have gX : decide (x + sp - 1 < t) = false := decide_eq_false (fun h => Int.not_lt.mpr hA (k1.mpr h))
              have hX : ¬ (x + sp - 1 < t) := (fun h => Int.not_lt.mpr hA (k1.mpr h))
              rcases Int.lt_or_le 0 cc with hB | hB
              · have gB : decide (0 < cc) = true := decide_eq_true hB
                have gY : decide (x + sp - 1 < t + rt) = true := decide_eq_true (k2.mp hB)
                have hY : x + sp - 1 < t + rt := k2.mp hB
                have gZ : decide (x < t) = true := decide_eq_true (by omega)
                have hZ : x < t := by omega
                have gW : decide (0 < x + sp) = true := decide_eq_true (by omega)
                have hW : 0 < x + sp := by omega
                clear k1 k2 hi1 hj1 a2 b2
                go_wp2_with (first | (refine wl_boxg (a1 := ?_) rfl (by first | exact wanted_none rfl | exact (ow_wt rfl rfl).trans rfl | exact (ow_wf rfl rfl).trans rfl) rfl KS_.out.a0 ?_ ?_; rotate_left 1; (· simp only [Act.put, List.setIfInBounds_toArray, List.set_cons_zero, List.set_cons_succ, guarded_true, i64_w, i32_w]; with_reducible rfl)) | (go_at_call 20; with_reducible refine (ready_m n s _ 1 _ [t] _ r (by simp) (Tab.below HG.out (below_alloc KS_.out.bel _)) (C1 _ t _) (by simp) (by simp) hst er).mono ?_; rintro e w2 ⟨rfl, hb⟩; have hb := below_step (below_alloc (Below.refl _ _) _) hb; have KS' := Aside0.mk (KS_.out.step hb); clear KS_ hb; have KS_ := KS'; clear KS') | (go_at_call 21; with_reducible refine (count_m n s _ 1 _ [t] _ cc (by simp) (Tab.below HG.out (below_alloc KS_.out.bel _)) (C1 _ t _) (by simp) (by simp) hst ec).mono ?_; rintro e w2 ⟨rfl, hb⟩; have hb := below_step (below_alloc (Below.refl _ _) _) hb; have KS' := Aside0.mk (KS_.out.step hb); clear KS_ hb; have KS_ := KS'; clear KS') | (go_at_call 22; with_reducible refine (first_m n s 0 _ x (Tab.below HG.out KS_.out.bel) hx).mono ?_; rintro e w2 ⟨rfl, hb⟩; have KS' := Aside0.mk (KS_.out.step hb); clear KS_ hb; have KS_ := KS'; clear KS') | (go_at_call 22; with_reducible refine (first_m n s 0 _ x (Tab.below HG.out KS_.out.bel) hx).mono ?_; rintro e w2 ⟨rfl, hb⟩; have KS' := Aside0.mk (KS_.out.step hb); clear KS_ hb; have KS_ := KS'; clear KS'))
                go_ret
                exact ⟨rfl, KS_.out.bel⟩
              · have gB : decide (0 < cc) = false := decide_eq_false (Int.not_lt.mpr hB)
                have gY : decide (x + sp - 1 < t + rt) = false := decide_eq_false (fun h => Int.not_lt.mpr hB (k2.mpr h))
                have hY : ¬ (x + sp - 1 < t + rt) := (fun h => Int.not_lt.mpr hB (k2.mpr h))
                clear k1 k2 hi1 hj1 a2 b2
                go_wp2_with (first | (refine wl_boxg (a1 := ?_) rfl (by first | exact wanted_none rfl | exact (ow_wt rfl rfl).trans rfl | exact (ow_wf rfl rfl).trans rfl) rfl KS_.out.a0 ?_ ?_; rotate_left 1; (· simp only [Act.put, List.setIfInBounds_toArray, List.set_cons_zero, List.set_cons_succ, guarded_true, i64_w, i32_w]; with_reducible rfl)) | (go_at_call 20; with_reducible refine (ready_m n s _ 1 _ [t] _ r (by simp) (Tab.below HG.out (below_alloc KS_.out.bel _)) (C1 _ t _) (by simp) (by simp) hst er).mono ?_; rintro e w2 ⟨rfl, hb⟩; have hb := below_step (below_alloc (Below.refl _ _) _) hb; have KS' := Aside0.mk (KS_.out.step hb); clear KS_ hb; have KS_ := KS'; clear KS') | (go_at_call 21; with_reducible refine (count_m n s _ 1 _ [t] _ cc (by simp) (Tab.below HG.out (below_alloc KS_.out.bel _)) (C1 _ t _) (by simp) (by simp) hst ec).mono ?_; rintro e w2 ⟨rfl, hb⟩; have hb := below_step (below_alloc (Below.refl _ _) _) hb; have KS' := Aside0.mk (KS_.out.step hb); clear KS_ hb; have KS_ := KS'; clear KS'; refine stay_ ?_) | (go_at_call 22; with_reducible refine (first_m n s 0 _ x (Tab.below HG.out KS_.out.bel) hx).mono ?_; rintro e w2 ⟨rfl, hb⟩; have KS' := Aside0.mk (KS_.out.step hb); clear KS_ hb; have KS_ := KS'; clear KS') | (go_at_call 22; with_reducible refine (first_m n s 0 _ x (Tab.below HG.out KS_.out.bel) hx).mono ?_; rintro e w2 ⟨rfl, hb⟩; have KS' := Aside0.mk (KS_.out.step hb); clear KS_ hb; have KS_ := KS'; clear KS'))
                unfold Stay
                go_wp2
                go_ret
                exact ⟨rfl, KS_.out.bel⟩
          · have hjd : decide (j0 < 0) = false := decide_eq_false hjn
            go_upto_region 17 with (fail)
            obtain ⟨x, hx, hx1⟩ : ∃ x, n.first 0 = x ∧ x = 0 * st - lf := ⟨_, HD.out.first 0 (by omega) (by omega), rfl⟩
            obtain ⟨y, hy, hy1⟩ : ∃ y, n.first j0 = y ∧ y = j0 * st - lf := ⟨_, HD.out.first j0 (by omega) (by omega), rfl⟩
            have k1 := a2 0 (by omega)
            have k2 := b2 j0 (by omega)
            have m1 := mul_le 0 1099511627800 st 3 (by omega) (by omega) (by have := HD.out.t0; omega) HD.out.t1
            have m2 := mul_le j0 1099511627800 st 3 (by omega) (by omega) (by have := HD.out.t0; omega) HD.out.t1
            have l0 := HD.out.l0
            rw [← hx1] at k1
            rw [← hy1] at k2
            have x0 : -10 ≤ x ∧ x ≤ 3298534883400 := by omega
            have y0 : -10 ≤ y ∧ y ≤ 3298534883400 := by omega
            have y1 : -lf ≤ y := by omega
            clear hx1 hy1 m1 m2
            rcases Int.lt_or_le 0 r with hA | hA
            · have gA : decide (0 < r) = true := decide_eq_true hA
              have gX : decide (x + sp - 1 < t) = true := decide_eq_true (k1.mp hA)
              have hX : x + sp - 1 < t := k1.mp hA
              rcases Int.lt_or_le j0 cc with hB | hB
              · have gB : decide (j0 < cc) = true := decide_eq_true hB
                have gY : decide (y + sp - 1 < t + rt) = true := decide_eq_true (k2.mp hB)
                have hY : y + sp - 1 < t + rt := k2.mp hB
                have gZ : decide (y < t) = true := decide_eq_true (by omega)
                have hZ : y < t := by omega
                have gW : decide (0 < y + sp) = true := decide_eq_true (by omega)
                have hW : 0 < y + sp := by omega
                clear k1 k2 hi1 hj1 a2 b2
                go_wp2_with (first | (refine wl_boxg (a1 := ?_) rfl (by first | exact wanted_none rfl | exact (ow_wt rfl rfl).trans rfl | exact (ow_wf rfl rfl).trans rfl) rfl KS_.out.a0 ?_ ?_; rotate_left 1; (· simp only [Act.put, List.setIfInBounds_toArray, List.set_cons_zero, List.set_cons_succ, guarded_true, i64_w, i32_w]; with_reducible rfl)) | (go_at_call 20; with_reducible refine (ready_m n s _ 1 _ [t] _ r (by simp) (Tab.below HG.out (below_alloc KS_.out.bel _)) (C1 _ t _) (by simp) (by simp) hst er).mono ?_; rintro e w2 ⟨rfl, hb⟩; have hb := below_step (below_alloc (Below.refl _ _) _) hb; have KS' := Aside0.mk (KS_.out.step hb); clear KS_ hb; have KS_ := KS'; clear KS') | (go_at_call 21; with_reducible refine (count_m n s _ 1 _ [t] _ cc (by simp) (Tab.below HG.out (below_alloc KS_.out.bel _)) (C1 _ t _) (by simp) (by simp) hst ec).mono ?_; rintro e w2 ⟨rfl, hb⟩; have hb := below_step (below_alloc (Below.refl _ _) _) hb; have KS' := Aside0.mk (KS_.out.step hb); clear KS_ hb; have KS_ := KS'; clear KS') | (go_at_call 22; with_reducible refine (first_m n s 0 _ x (Tab.below HG.out KS_.out.bel) hx).mono ?_; rintro e w2 ⟨rfl, hb⟩; have KS' := Aside0.mk (KS_.out.step hb); clear KS_ hb; have KS_ := KS'; clear KS') | (go_at_call 22; with_reducible refine (first_m n s j0 _ y (Tab.below HG.out KS_.out.bel) hy).mono ?_; rintro e w2 ⟨rfl, hb⟩; have KS' := Aside0.mk (KS_.out.step hb); clear KS_ hb; have KS_ := KS'; clear KS'))
                go_ret
                exact ⟨rfl, KS_.out.bel⟩
              · have gB : decide (j0 < cc) = false := decide_eq_false (Int.not_lt.mpr hB)
                have gY : decide (y + sp - 1 < t + rt) = false := decide_eq_false (fun h => Int.not_lt.mpr hB (k2.mpr h))
                have hY : ¬ (y + sp - 1 < t + rt) := (fun h => Int.not_lt.mpr hB (k2.mpr h))
                clear k1 k2 hi1 hj1 a2 b2
                go_wp2_with (first | (refine wl_boxg (a1 := ?_) rfl (by first | exact wanted_none rfl | exact (ow_wt rfl rfl).trans rfl | exact (ow_wf rfl rfl).trans rfl) rfl KS_.out.a0 ?_ ?_; rotate_left 1; (· simp only [Act.put, List.setIfInBounds_toArray, List.set_cons_zero, List.set_cons_succ, guarded_true, i64_w, i32_w]; with_reducible rfl)) | (go_at_call 20; with_reducible refine (ready_m n s _ 1 _ [t] _ r (by simp) (Tab.below HG.out (below_alloc KS_.out.bel _)) (C1 _ t _) (by simp) (by simp) hst er).mono ?_; rintro e w2 ⟨rfl, hb⟩; have hb := below_step (below_alloc (Below.refl _ _) _) hb; have KS' := Aside0.mk (KS_.out.step hb); clear KS_ hb; have KS_ := KS'; clear KS') | (go_at_call 21; with_reducible refine (count_m n s _ 1 _ [t] _ cc (by simp) (Tab.below HG.out (below_alloc KS_.out.bel _)) (C1 _ t _) (by simp) (by simp) hst ec).mono ?_; rintro e w2 ⟨rfl, hb⟩; have hb := below_step (below_alloc (Below.refl _ _) _) hb; have KS' := Aside0.mk (KS_.out.step hb); clear KS_ hb; have KS_ := KS'; clear KS'; refine stay_ ?_) | (go_at_call 22; with_reducible refine (first_m n s 0 _ x (Tab.below HG.out KS_.out.bel) hx).mono ?_; rintro e w2 ⟨rfl, hb⟩; have KS' := Aside0.mk (KS_.out.step hb); clear KS_ hb; have KS_ := KS'; clear KS') | (go_at_call 22; with_reducible refine (first_m n s j0 _ y (Tab.below HG.out KS_.out.bel) hy).mono ?_; rintro e w2 ⟨rfl, hb⟩; have KS' := Aside0.mk (KS_.out.step hb); clear KS_ hb; have KS_ := KS'; clear KS'))
                unfold Stay
                go_wp2
                go_ret
                exact ⟨rfl, KS_.out.bel⟩
            · have gA : decide (0 < r) = false := decide_eq_false (Int.not_lt.mpr hA)
              have gX : decide (x + sp - 1 < t) = false := decide_eq_false (fun h => Int.not_lt.mpr hA (k1.mpr h))
              have hX : ¬ (x + sp - 1 < t) := (fun h => Int.not_lt.mpr hA (k1.mpr h))
              rcases Int.lt_or_le j0 cc with hB | hB
              · have gB : decide (j0 < cc) = true := decide_eq_true hB
                have gY : decide (y + sp - 1 < t + rt) = true := decide_eq_true (k2.mp hB)
                have hY : y + sp - 1 < t + rt := k2.mp hB
                have gZ : decide (y < t) = true := decide_eq_true (by omega)
                have hZ : y < t := by omega
                have gW : decide (0 < y + sp) = true := decide_eq_true (by omega)
                have hW : 0 < y + sp := by omega
                clear k1 k2 hi1 hj1 a2 b2
                go_wp2_with (first | (refine wl_boxg (a1 := ?_) rfl (by first | exact wanted_none rfl | exact (ow_wt rfl rfl).trans rfl | exact (ow_wf rfl rfl).trans rfl) rfl KS_.out.a0 ?_ ?_; rotate_left 1; (· simp only [Act.put, List.setIfInBounds_toArray, List.set_cons_zero, List.set_cons_succ, guarded_true, i64_w, i32_w]; with_reducible rfl)) | (go_at_call 20; with_reducible refine (ready_m n s _ 1 _ [t] _ r (by simp) (Tab.below HG.out (below_alloc KS_.out.bel _)) (C1 _ t _) (by simp) (by simp) hst er).mono ?_; rintro e w2 ⟨rfl, hb⟩; have hb := below_step (below_alloc (Below.refl _ _) _) hb; have KS' := Aside0.mk (KS_.out.step hb); clear KS_ hb; have KS_ := KS'; clear KS') | (go_at_call 21; with_reducible refine (count_m n s _ 1 _ [t] _ cc (by simp) (Tab.below HG.out (below_alloc KS_.out.bel _)) (C1 _ t _) (by simp) (by simp) hst ec).mono ?_; rintro e w2 ⟨rfl, hb⟩; have hb := below_step (below_alloc (Below.refl _ _) _) hb; have KS' := Aside0.mk (KS_.out.step hb); clear KS_ hb; have KS_ := KS'; clear KS') | (go_at_call 22; with_reducible refine (first_m n s 0 _ x (Tab.below HG.out KS_.out.bel) hx).mono ?_; rintro e w2 ⟨rfl, hb⟩; have KS' := Aside0.mk (KS_.out.step hb); clear KS_ hb; have KS_ := KS'; clear KS') | (go_at_call 22; with_reducible refine (first_m n s j0 _ y (Tab.below HG.out KS_.out.bel) hy).mono ?_; rintro e w2 ⟨rfl, hb⟩; have KS' := Aside0.mk (KS_.out.step hb); clear KS_ hb; have KS_ := KS'; clear KS'))
                go_ret
                exact ⟨rfl, KS_.out.bel⟩
              · have gB : decide (j0 < cc) = false := decide_eq_false (Int.not_lt.mpr hB)
                have gY : decide (y + sp - 1 < t + rt) = false := decide_eq_false (fun h => Int.not_lt.mpr hB (k2.mpr h))
                have hY : ¬ (y + sp - 1 < t + rt) := (fun h => Int.not_lt.mpr hB (k2.mpr h))
                clear k1 k2 hi1 hj1 a2 b2
                go_wp2_with (first | (refine wl_boxg (a1 := ?_) rfl (by first | exact wanted_none rfl | exact (ow_wt rfl rfl).trans rfl | exact (ow_wf rfl rfl).trans rfl) rfl KS_.out.a0 ?_ ?_; rotate_left 1; (· simp only [Act.put, List.setIfInBounds_toArray, List.set_cons_zero, List.set_cons_succ, guarded_true, i64_w, i32_w]; with_reducible rfl)) | (go_at_call 20; with_reducible refine (ready_m n s _ 1 _ [t] _ r (by simp) (Tab.below HG.out (below_alloc KS_.out.bel _)) (C1 _ t _) (by simp) (by simp) hst er).mono ?_; rintro e w2 ⟨rfl, hb⟩; have hb := below_step (below_alloc (Below.refl _ _) _) hb; have KS' := Aside0.mk (KS_.out.step hb); clear KS_ hb; have KS_ := KS'; clear KS') | (go_at_call 21; with_reducible refine (count_m n s _ 1 _ [t] _ cc (by simp) (Tab.below HG.out (below_alloc KS_.out.bel _)) (C1 _ t _) (by simp) (by simp) hst ec).mono ?_; rintro e w2 ⟨rfl, hb⟩; have hb := below_step (below_alloc (Below.refl _ _) _) hb; have KS' := Aside0.mk (KS_.out.step hb); clear KS_ hb; have KS_ := KS'; clear KS'; refine stay_ ?_) | (go_at_call 22; with_reducible refine (first_m n s 0 _ x (Tab.below HG.out KS_.out.bel) hx).mono ?_; rintro e w2 ⟨rfl, hb⟩; have KS' := Aside0.mk (KS_.out.step hb); clear KS_ hb; have KS_ := KS'; clear KS') | (go_at_call 22; with_reducible refine (first_m n s j0 _ y (Tab.below HG.out KS_.out.bel) hy).mono ?_; rintro e w2 ⟨rfl, hb⟩; have KS' := Aside0.mk (KS_.out.step hb); clear KS_ hb; have KS_ := KS'; clear KS'))
                unfold Stay
                go_wp2
                go_ret
                exact ⟨rfl, KS_.out.bel⟩
        · have hid : decide (i0 < 0) = false := decide_eq_false hin
          by_cases hjn : j0 < 0
          · have hjd : decide (j0 < 0) = true := decide_eq_true hjn
            go_upto_region 17 with (fail)
            obtain ⟨x, hx, hx1⟩ : ∃ x, n.first i0 = x ∧ x = i0 * st - lf := ⟨_, HD.out.first i0 (by omega) (by omega), rfl⟩
            obtain ⟨y, hy, hy1⟩ : ∃ y, n.first 0 = y ∧ y = 0 * st - lf := ⟨_, HD.out.first 0 (by omega) (by omega), rfl⟩
            have k1 := a2 i0 (by omega)
            have k2 := b2 0 (by omega)
            have m1 := mul_le i0 1099511627800 st 3 (by omega) (by omega) (by have := HD.out.t0; omega) HD.out.t1
            have m2 := mul_le 0 1099511627800 st 3 (by omega) (by omega) (by have := HD.out.t0; omega) HD.out.t1
            have l0 := HD.out.l0
            rw [← hx1] at k1
            rw [← hy1] at k2
            have x0 : -10 ≤ x ∧ x ≤ 3298534883400 := by omega
            have y0 : -10 ≤ y ∧ y ≤ 3298534883400 := by omega
            have y1 : -lf ≤ y := by omega
            clear hx1 hy1 m1 m2
            rcases Int.lt_or_le i0 r with hA | hA
            · have gA : decide (i0 < r) = true := decide_eq_true hA
              have gX : decide (x + sp - 1 < t) = true := decide_eq_true (k1.mp hA)
              have hX : x + sp - 1 < t := k1.mp hA
              rcases Int.lt_or_le 0 cc with hB | hB
              · have gB : decide (0 < cc) = true := decide_eq_true hB
                have gY : decide (y + sp - 1 < t + rt) = true := decide_eq_true (k2.mp hB)
                have hY : y + sp - 1 < t + rt := k2.mp hB
                have gZ : decide (y < t) = true := decide_eq_true (by omega)
                have hZ : y < t := by omega
                have gW : decide (0 < y + sp) = true := decide_eq_true (by omega)
                have hW : 0 < y + sp := by omega
                clear k1 k2 hi1 hj1 a2 b2
                go_wp2_with (first | (refine wl_boxg (a1 := ?_) rfl (by first | exact wanted_none rfl | exact (ow_wt rfl rfl).trans rfl | exact (ow_wf rfl rfl).trans rfl) rfl KS_.out.a0 ?_ ?_; rotate_left 1; (· simp only [Act.put, List.setIfInBounds_toArray, List.set_cons_zero, List.set_cons_succ, guarded_true, i64_w, i32_w]; with_reducible rfl)) | (go_at_call 20; with_reducible refine (ready_m n s _ 1 _ [t] _ r (by simp) (Tab.below HG.out (below_alloc KS_.out.bel _)) (C1 _ t _) (by simp) (by simp) hst er).mono ?_; rintro e w2 ⟨rfl, hb⟩; have hb := below_step (below_alloc (Below.refl _ _) _) hb; have KS' := Aside0.mk (KS_.out.step hb); clear KS_ hb; have KS_ := KS'; clear KS') | (go_at_call 21; with_reducible refine (count_m n s _ 1 _ [t] _ cc (by simp) (Tab.below HG.out (below_alloc KS_.out.bel _)) (C1 _ t _) (by simp) (by simp) hst ec).mono ?_; rintro e w2 ⟨rfl, hb⟩; have hb := below_step (below_alloc (Below.refl _ _) _) hb; have KS' := Aside0.mk (KS_.out.step hb); clear KS_ hb; have KS_ := KS'; clear KS') | (go_at_call 22; with_reducible refine (first_m n s i0 _ x (Tab.below HG.out KS_.out.bel) hx).mono ?_; rintro e w2 ⟨rfl, hb⟩; have KS' := Aside0.mk (KS_.out.step hb); clear KS_ hb; have KS_ := KS'; clear KS') | (go_at_call 22; with_reducible refine (first_m n s 0 _ y (Tab.below HG.out KS_.out.bel) hy).mono ?_; rintro e w2 ⟨rfl, hb⟩; have KS' := Aside0.mk (KS_.out.step hb); clear KS_ hb; have KS_ := KS'; clear KS'))
                go_ret
                exact ⟨rfl, KS_.out.bel⟩
              · have gB : decide (0 < cc) = false := decide_eq_false (Int.not_lt.mpr hB)
                have gY : decide (y + sp - 1 < t + rt) = false := decide_eq_false (fun h => Int.not_lt.mpr hB (k2.mpr h))
                have hY : ¬ (y + sp - 1 < t + rt) := (fun h => Int.not_lt.mpr hB (k2.mpr h))
                clear k1 k2 hi1 hj1 a2 b2
                go_wp2_with (first | (refine wl_boxg (a1 := ?_) rfl (by first | exact wanted_none rfl | exact (ow_wt rfl rfl).trans rfl | exact (ow_wf rfl rfl).trans rfl) rfl KS_.out.a0 ?_ ?_; rotate_left 1; (· simp only [Act.put, List.setIfInBounds_toArray, List.set_cons_zero, List.set_cons_succ, guarded_true, i64_w, i32_w]; with_reducible rfl)) | (go_at_call 20; with_reducible refine (ready_m n s _ 1 _ [t] _ r (by simp) (Tab.below HG.out (below_alloc KS_.out.bel _)) (C1 _ t _) (by simp) (by simp) hst er).mono ?_; rintro e w2 ⟨rfl, hb⟩; have hb := below_step (below_alloc (Below.refl _ _) _) hb; have KS' := Aside0.mk (KS_.out.step hb); clear KS_ hb; have KS_ := KS'; clear KS') | (go_at_call 21; with_reducible refine (count_m n s _ 1 _ [t] _ cc (by simp) (Tab.below HG.out (below_alloc KS_.out.bel _)) (C1 _ t _) (by simp) (by simp) hst ec).mono ?_; rintro e w2 ⟨rfl, hb⟩; have hb := below_step (below_alloc (Below.refl _ _) _) hb; have KS' := Aside0.mk (KS_.out.step hb); clear KS_ hb; have KS_ := KS'; clear KS'; refine stay_ ?_) | (go_at_call 22; with_reducible refine (first_m n s i0 _ x (Tab.below HG.out KS_.out.bel) hx).mono ?_; rintro e w2 ⟨rfl, hb⟩; have KS' := Aside0.mk (KS_.out.step hb); clear KS_ hb; have KS_ := KS'; clear KS') | (go_at_call 22; with_reducible refine (first_m n s 0 _ y (Tab.below HG.out KS_.out.bel) hy).mono ?_; rintro e w2 ⟨rfl, hb⟩; have KS' := Aside0.mk (KS_.out.step hb); clear KS_ hb; have KS_ := KS'; clear KS'))
                unfold Stay
                go_wp2
                go_ret
                exact ⟨rfl, KS_.out.bel⟩
            · have gA : decide (i0 < r) = false := decide_eq_false (Int.not_lt.mpr hA)
              have gX : decide (x + sp - 1 < t) = false := decide_eq_false (fun h => Int.not_lt.mpr hA (k1.mpr h))
              have hX : ¬ (x + sp - 1 < t) := (fun h => Int.not_lt.mpr hA (k1.mpr h))
              rcases Int.lt_or_le 0 cc with hB | hB
              · have gB : decide (0 < cc) = true := decide_eq_true hB
                have gY : decide (y + sp - 1 < t + rt) = true := decide_eq_true (k2.mp hB)
                have hY : y + sp - 1 < t + rt := k2.mp hB
                have gZ : decide (y < t) = true := decide_eq_true (by omega)
                have hZ : y < t := by omega
                have gW : decide (0 < y + sp) = true := decide_eq_true (by omega)
                have hW : 0 < y + sp := by omega
                clear k1 k2 hi1 hj1 a2 b2
                go_wp2_with (first | (refine wl_boxg (a1 := ?_) rfl (by first | exact wanted_none rfl | exact (ow_wt rfl rfl).trans rfl | exact (ow_wf rfl rfl).trans rfl) rfl KS_.out.a0 ?_ ?_; rotate_left 1; (· simp only [Act.put, List.setIfInBounds_toArray, List.set_cons_zero, List.set_cons_succ, guarded_true, i64_w, i32_w]; with_reducible rfl)) | (go_at_call 20; with_reducible refine (ready_m n s _ 1 _ [t] _ r (by simp) (Tab.below HG.out (below_alloc KS_.out.bel _)) (C1 _ t _) (by simp) (by simp) hst er).mono ?_; rintro e w2 ⟨rfl, hb⟩; have hb := below_step (below_alloc (Below.refl _ _) _) hb; have KS' := Aside0.mk (KS_.out.step hb); clear KS_ hb; have KS_ := KS'; clear KS') | (go_at_call 21; with_reducible refine (count_m n s _ 1 _ [t] _ cc (by simp) (Tab.below HG.out (below_alloc KS_.out.bel _)) (C1 _ t _) (by simp) (by simp) hst ec).mono ?_; rintro e w2 ⟨rfl, hb⟩; have hb := below_step (below_alloc (Below.refl _ _) _) hb; have KS' := Aside0.mk (KS_.out.step hb); clear KS_ hb; have KS_ := KS'; clear KS') | (go_at_call 22; with_reducible refine (first_m n s i0 _ x (Tab.below HG.out KS_.out.bel) hx).mono ?_; rintro e w2 ⟨rfl, hb⟩; have KS' := Aside0.mk (KS_.out.step hb); clear KS_ hb; have KS_ := KS'; clear KS') | (go_at_call 22; with_reducible refine (first_m n s 0 _ y (Tab.below HG.out KS_.out.bel) hy).mono ?_; rintro e w2 ⟨rfl, hb⟩; have KS' := Aside0.mk (KS_.out.step hb); clear KS_ hb; have KS_ := KS'; clear KS'))
                go_ret
                exact ⟨rfl, KS_.out.bel⟩
              · have gB : decide (0 < cc) = false := decide_eq_false (Int.not_lt.mpr hB)
                have gY : decide (y + sp - 1 < t + rt) = false := decide_eq_false (fun h => Int.not_lt.mpr hB (k2.mpr h))
                have hY : ¬ (y + sp - 1 < t + rt) := (fun h => Int.not_lt.mpr hB (k2.mpr h))
                clear k1 k2 hi1 hj1 a2 b2
                go_wp2_with (first | (refine wl_boxg (a1 := ?_) rfl (by first | exact wanted_none rfl | exact (ow_wt rfl rfl).trans rfl | exact (ow_wf rfl rfl).trans rfl) rfl KS_.out.a0 ?_ ?_; rotate_left 1; (· simp only [Act.put, List.setIfInBounds_toArray, List.set_cons_zero, List.set_cons_succ, guarded_true, i64_w, i32_w]; with_reducible rfl)) | (go_at_call 20; with_reducible refine (ready_m n s _ 1 _ [t] _ r (by simp) (Tab.below HG.out (below_alloc KS_.out.bel _)) (C1 _ t _) (by simp) (by simp) hst er).mono ?_; rintro e w2 ⟨rfl, hb⟩; have hb := below_step (below_alloc (Below.refl _ _) _) hb; have KS' := Aside0.mk (KS_.out.step hb); clear KS_ hb; have KS_ := KS'; clear KS') | (go_at_call 21; with_reducible refine (count_m n s _ 1 _ [t] _ cc (by simp) (Tab.below HG.out (below_alloc KS_.out.bel _)) (C1 _ t _) (by simp) (by simp) hst ec).mono ?_; rintro e w2 ⟨rfl, hb⟩; have hb := below_step (below_alloc (Below.refl _ _) _) hb; have KS' := Aside0.mk (KS_.out.step hb); clear KS_ hb; have KS_ := KS'; clear KS'; refine stay_ ?_) | (go_at_call 22; with_reducible refine (first_m n s i0 _ x (Tab.below HG.out KS_.out.bel) hx).mono ?_; rintro e w2 ⟨rfl, hb⟩; have KS' := Aside0.mk (KS_.out.step hb); clear KS_ hb; have KS_ := KS'; clear KS') | (go_at_call 22; with_reducible refine (first_m n s 0 _ y (Tab.below HG.out KS_.out.bel) hy).mono ?_; rintro e w2 ⟨rfl, hb⟩; have KS' := Aside0.mk (KS_.out.step hb); clear KS_ hb; have KS_ := KS'; clear KS'))
                unfold Stay
                go_wp2
                go_ret
                exact ⟨rfl, KS_.out.bel⟩
          · have hjd : decide (j0 < 0) = false := decide_eq_false hjn
            go_upto_region 17 with (fail)
            obtain ⟨x, hx, hx1⟩ : ∃ x, n.first i0 = x ∧ x = i0 * st - lf := ⟨_, HD.out.first i0 (by omega) (by omega), rfl⟩
            obtain ⟨y, hy, hy1⟩ : ∃ y, n.first j0 = y ∧ y = j0 * st - lf := ⟨_, HD.out.first j0 (by omega) (by omega), rfl⟩
            have k1 := a2 i0 (by omega)
            have k2 := b2 j0 (by omega)
            have m1 := mul_le i0 1099511627800 st 3 (by omega) (by omega) (by have := HD.out.t0; omega) HD.out.t1
            have m2 := mul_le j0 1099511627800 st 3 (by omega) (by omega) (by have := HD.out.t0; omega) HD.out.t1
            have l0 := HD.out.l0
            rw [← hx1] at k1
            rw [← hy1] at k2
            have x0 : -10 ≤ x ∧ x ≤ 3298534883400 := by omega
            have y0 : -10 ≤ y ∧ y ≤ 3298534883400 := by omega
            have y1 : -lf ≤ y := by omega
            clear hx1 hy1 m1 m2
            rcases Int.lt_or_le i0 r with hA | hA
            · have gA : decide (i0 < r) = true := decide_eq_true hA
              have gX : decide (x + sp - 1 < t) = true := decide_eq_true (k1.mp hA)
              have hX : x + sp - 1 < t := k1.mp hA
              rcases Int.lt_or_le j0 cc with hB | hB
              · have gB : decide (j0 < cc) = true := decide_eq_true hB
                have gY : decide (y + sp - 1 < t + rt) = true := decide_eq_true (k2.mp hB)
                have hY : y + sp - 1 < t + rt := k2.mp hB
                have gZ : decide (y < t) = true := decide_eq_true (by omega)
                have hZ : y < t := by omega
                have gW : decide (0 < y + sp) = true := decide_eq_true (by omega)
                have hW : 0 < y + sp := by omega
                clear k1 k2 hi1 hj1 a2 b2
                go_wp2_with (first | (refine wl_boxg (a1 := ?_) rfl (by first | exact wanted_none rfl | exact (ow_wt rfl rfl).trans rfl | exact (ow_wf rfl rfl).trans rfl) rfl KS_.out.a0 ?_ ?_; rotate_left 1; (· simp only [Act.put, List.setIfInBounds_toArray, List.set_cons_zero, List.set_cons_succ, guarded_true, i64_w, i32_w]; with_reducible rfl)) | (go_at_call 20; with_reducible refine (ready_m n s _ 1 _ [t] _ r (by simp) (Tab.below HG.out (below_alloc KS_.out.bel _)) (C1 _ t _) (by simp) (by simp) hst er).mono ?_; rintro e w2 ⟨rfl, hb⟩; have hb := below_step (below_alloc (Below.refl _ _) _) hb; have KS' := Aside0.mk (KS_.out.step hb); clear KS_ hb; have KS_ := KS'; clear KS') | (go_at_call 21; with_reducible refine (count_m n s _ 1 _ [t] _ cc (by simp) (Tab.below HG.out (below_alloc KS_.out.bel _)) (C1 _ t _) (by simp) (by simp) hst ec).mono ?_; rintro e w2 ⟨rfl, hb⟩; have hb := below_step (below_alloc (Below.refl _ _) _) hb; have KS' := Aside0.mk (KS_.out.step hb); clear KS_ hb; have KS_ := KS'; clear KS') | (go_at_call 22; with_reducible refine (first_m n s i0 _ x (Tab.below HG.out KS_.out.bel) hx).mono ?_; rintro e w2 ⟨rfl, hb⟩; have KS' := Aside0.mk (KS_.out.step hb); clear KS_ hb; have KS_ := KS'; clear KS') | (go_at_call 22; with_reducible refine (first_m n s j0 _ y (Tab.below HG.out KS_.out.bel) hy).mono ?_; rintro e w2 ⟨rfl, hb⟩; have KS' := Aside0.mk (KS_.out.step hb); clear KS_ hb; have KS_ := KS'; clear KS'))
                go_ret
                exact ⟨rfl, KS_.out.bel⟩
              · have gB : decide (j0 < cc) = false := decide_eq_false (Int.not_lt.mpr hB)
                have gY : decide (y + sp - 1 < t + rt) = false := decide_eq_false (fun h => Int.not_lt.mpr hB (k2.mpr h))
                have hY : ¬ (y + sp - 1 < t + rt) := (fun h => Int.not_lt.mpr hB (k2.mpr h))
                clear k1 k2 hi1 hj1 a2 b2
                go_wp2_with (first | (refine wl_boxg (a1 := ?_) rfl (by first | exact wanted_none rfl | exact (ow_wt rfl rfl).trans rfl | exact (ow_wf rfl rfl).trans rfl) rfl KS_.out.a0 ?_ ?_; rotate_left 1; (· simp only [Act.put, List.setIfInBounds_toArray, List.set_cons_zero, List.set_cons_succ, guarded_true, i64_w, i32_w]; with_reducible rfl)) | (go_at_call 20; with_reducible refine (ready_m n s _ 1 _ [t] _ r (by simp) (Tab.below HG.out (below_alloc KS_.out.bel _)) (C1 _ t _) (by simp) (by simp) hst er).mono ?_; rintro e w2 ⟨rfl, hb⟩; have hb := below_step (below_alloc (Below.refl _ _) _) hb; have KS' := Aside0.mk (KS_.out.step hb); clear KS_ hb; have KS_ := KS'; clear KS') | (go_at_call 21; with_reducible refine (count_m n s _ 1 _ [t] _ cc (by simp) (Tab.below HG.out (below_alloc KS_.out.bel _)) (C1 _ t _) (by simp) (by simp) hst ec).mono ?_; rintro e w2 ⟨rfl, hb⟩; have hb := below_step (below_alloc (Below.refl _ _) _) hb; have KS' := Aside0.mk (KS_.out.step hb); clear KS_ hb; have KS_ := KS'; clear KS'; refine stay_ ?_) | (go_at_call 22; with_reducible refine (first_m n s i0 _ x (Tab.below HG.out KS_.out.bel) hx).mono ?_; rintro e w2 ⟨rfl, hb⟩; have KS' := Aside0.mk (KS_.out.step hb); clear KS_ hb; have KS_ := KS'; clear KS') | (go_at_call 22; with_reducible refine (first_m n s j0 _ y (Tab.below HG.out KS_.out.bel) hy).mono ?_; rintro e w2 ⟨rfl, hb⟩; have KS' := Aside0.mk (KS_.out.step hb); clear KS_ hb; have KS_ := KS'; clear KS'))
                unfold Stay
                go_wp2
                go_ret
                exact ⟨rfl, KS_.out.bel⟩
            · have gA : decide (i0 < r) = false := decide_eq_false (Int.not_lt.mpr hA)
              have gX : decide (x + sp - 1 < t) = false := decide_eq_false (fun h => Int.not_lt.mpr hA (k1.mpr h))
              have hX : ¬ (x + sp - 1 < t) := (fun h => Int.not_lt.mpr hA (k1.mpr h))
              rcases Int.lt_or_le j0 cc with hB | hB
              · have gB : decide (j0 < cc) = true := decide_eq_true hB
                have gY : decide (y + sp - 1 < t + rt) = true := decide_eq_true (k2.mp hB)
                have hY : y + sp - 1 < t + rt := k2.mp hB
                have gZ : decide (y < t) = true := decide_eq_true (by omega)
                have hZ : y < t := by omega
                have gW : decide (0 < y + sp) = true := decide_eq_true (by omega)
                have hW : 0 < y + sp := by omega
                clear k1 k2 hi1 hj1 a2 b2
                go_wp2_with (first | (refine wl_boxg (a1 := ?_) rfl (by first | exact wanted_none rfl | exact (ow_wt rfl rfl).trans rfl | exact (ow_wf rfl rfl).trans rfl) rfl KS_.out.a0 ?_ ?_; rotate_left 1; (· simp only [Act.put, List.setIfInBounds_toArray, List.set_cons_zero, List.set_cons_succ, guarded_true, i64_w, i32_w]; with_reducible rfl)) | (go_at_call 20; with_reducible refine (ready_m n s _ 1 _ [t] _ r (by simp) (Tab.below HG.out (below_alloc KS_.out.bel _)) (C1 _ t _) (by simp) (by simp) hst er).mono ?_; rintro e w2 ⟨rfl, hb⟩; have hb := below_step (below_alloc (Below.refl _ _) _) hb; have KS' := Aside0.mk (KS_.out.step hb); clear KS_ hb; have KS_ := KS'; clear KS') | (go_at_call 21; with_reducible refine (count_m n s _ 1 _ [t] _ cc (by simp) (Tab.below HG.out (below_alloc KS_.out.bel _)) (C1 _ t _) (by simp) (by simp) hst ec).mono ?_; rintro e w2 ⟨rfl, hb⟩; have hb := below_step (below_alloc (Below.refl _ _) _) hb; have KS' := Aside0.mk (KS_.out.step hb); clear KS_ hb; have KS_ := KS'; clear KS') | (go_at_call 22; with_reducible refine (first_m n s i0 _ x (Tab.below HG.out KS_.out.bel) hx).mono ?_; rintro e w2 ⟨rfl, hb⟩; have KS' := Aside0.mk (KS_.out.step hb); clear KS_ hb; have KS_ := KS'; clear KS') | (go_at_call 22; with_reducible refine (first_m n s j0 _ y (Tab.below HG.out KS_.out.bel) hy).mono ?_; rintro e w2 ⟨rfl, hb⟩; have KS' := Aside0.mk (KS_.out.step hb); clear KS_ hb; have KS_ := KS'; clear KS'))
                go_ret
                exact ⟨rfl, KS_.out.bel⟩
              · have gB : decide (j0 < cc) = false := decide_eq_false (Int.not_lt.mpr hB)
                have gY : decide (y + sp - 1 < t + rt) = false := decide_eq_false (fun h => Int.not_lt.mpr hB (k2.mpr h))
                have hY : ¬ (y + sp - 1 < t + rt) := (fun h => Int.not_lt.mpr hB (k2.mpr h))
                clear k1 k2 hi1 hj1 a2 b2
                go_wp2_with (first | (refine wl_boxg (a1 := ?_) rfl (by first | exact wanted_none rfl | exact (ow_wt rfl rfl).trans rfl | exact (ow_wf rfl rfl).trans rfl) rfl KS_.out.a0 ?_ ?_; rotate_left 1; (· simp only [Act.put, List.setIfInBounds_toArray, List.set_cons_zero, List.set_cons_succ, guarded_true, i64_w, i32_w]; with_reducible rfl)) | (go_at_call 20; with_reducible refine (ready_m n s _ 1 _ [t] _ r (by simp) (Tab.below HG.out (below_alloc KS_.out.bel _)) (C1 _ t _) (by simp) (by simp) hst er).mono ?_; rintro e w2 ⟨rfl, hb⟩; have hb := below_step (below_alloc (Below.refl _ _) _) hb; have KS' := Aside0.mk (KS_.out.step hb); clear KS_ hb; have KS_ := KS'; clear KS') | (go_at_call 21; with_reducible refine (count_m n s _ 1 _ [t] _ cc (by simp) (Tab.below HG.out (below_alloc KS_.out.bel _)) (C1 _ t _) (by simp) (by simp) hst ec).mono ?_; rintro e w2 ⟨rfl, hb⟩; have hb := below_step (below_alloc (Below.refl _ _) _) hb; have KS' := Aside0.mk (KS_.out.step hb); clear KS_ hb; have KS_ := KS'; clear KS'; refine stay_ ?_) | (go_at_call 22; with_reducible refine (first_m n s i0 _ x (Tab.below HG.out KS_.out.bel) hx).mono ?_; rintro e w2 ⟨rfl, hb⟩; have KS' := Aside0.mk (KS_.out.step hb); clear KS_ hb; have KS_ := KS'; clear KS') | (go_at_call 22; with_reducible refine (first_m n s j0 _ y (Tab.below HG.out KS_.out.bel) hy).mono ?_; rintro e w2 ⟨rfl, hb⟩; have KS' := Aside0.mk (KS_.out.step hb); clear KS_ hb; have KS_ := KS'; clear KS'))
                unfold Stay
                go_wp2
                go_ret
                exact ⟨rfl, KS_.out.bel⟩
end Go.Proofs.YtohhaonjckfkaaaDoor.Hand
