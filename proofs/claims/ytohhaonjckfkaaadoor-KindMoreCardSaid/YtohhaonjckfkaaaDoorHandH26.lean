/- Contracts of Go functions that the laws of this seat reach, by hand: each call returns what the Lean function of its name tells. Conditions: those that each theorem names, none else. -/
import Derived.Test.YtohhaonjckfkaaaDoorHandH23
import Derived.Test.YtohhaonjckfkaaaDoorHandQ4
namespace Go.Proofs.YtohhaonjckfkaaaDoor.Hand
open Go.RowKit Go.Proofs.YtohhaonjckfkaaaDoorW.PrintWords Go.Proofs.YtohhaonjckfkaaaDoorW.PrintLast Go.Proofs.YtohhaonjckfkaaaDoorW.PrintMore
attribute [local go_sem] max2_int min2_int max_two min_two max_three min_three max_four min_four
set_option linter.unusedVariables false
set_option linter.unusedSimpArgs false

attribute [local go_sem] guarded_true
theorem R1 (W : World) (base : Nat) (x : Int) (hb : base ≤ W.heap.size) : Kd.R (Kd.int .i64) 3 (W.alloc (.cells #[.int .i64 x] 3)) base (fun _ => True) (.slice (some ⟨W.heap.size, 0, none⟩) 1 1) [x] :=
  Kd.R_of_own (by have h := World.ownsRow_lit (base := base) (e := 3) (size := 1) W #[.int .i64 x] 1 hb (by decide) rfl; simpa [encs] using h) (fun _ _ => trivial)
theorem ready_m (n : Nd) (s : Ns) (A : Option Addr) (c m : Nat) (l : List Int) (w : World) (r : Int) (hm : m = l.length) (hG : Tab w) (hr : Kd.C (Kd.int .i64) w A l.length l) (hc : l.length ≤ c) (hl : l.length ≤ 4096) (h0 : n.stp ≠ 0) (h : n.ready l = r) :
    Calls Tryd.prog 20 #[n.val s, .slice A m c] w fun e w' => e = .returned (.int .i64 r) ∧ Below w.heap.size w w' := by
  subst hm h; exact Ready_c n s A c l w hG hr hc hl h0
theorem count_m (n : Nd) (s : Ns) (A : Option Addr) (c m : Nat) (l : List Int) (w : World) (r : Int) (hm : m = l.length) (hG : Tab w) (hr : Kd.C (Kd.int .i64) w A l.length l) (hc : l.length ≤ c) (hl : l.length ≤ 4096) (h0 : n.stp ≠ 0) (h : n.count l = r) :
    Calls Tryd.prog 21 #[n.val s, .slice A m c] w fun e w' => e = .returned (.int .i64 r) ∧ Below w.heap.size w w' := by
  subst hm h; exact Count_c n s A c l w hG hr hc hl h0
set_option maxHeartbeats 8000000 in
set_option maxRecDepth 100000 in
theorem KindMore_c (l : List Int) (A0 : Option Addr) (c0 : Nat) (wd : Int) (two : Bool) (count : Int) (w : World) (hG : Tab w) (hr : Kd.C (Kd.int .i64) w A0 l.length l) (hc : l.length ≤ c0) (_ : (Lit.int .i64 count).wf = true) :
    Calls Tryd.prog 5 #[.agg #[.slice A0 l.length c0, .int .i64 wd, .bool two], .int .i64 count] w fun e w' => e = .returned (.bool true) ∧ Below w.heap.size w w' := by
  have HR := Aside0.mk hr
  have HG := Aside0.mk hG
  clear hr hG
  have huN := Tryd.underlying29
  go_enter Tryd.func5, Tryd.ntmps5
  go_upto_region 1 with (fail)
  have KS_ := Aside0.mk ((KS.nil w).alloc (.cells #[.slice A0 l.length c0, .int .i64 wd, .bool two] 24))
  generalize w.alloc (.cells #[.slice A0 l.length c0, .int .i64 wd, .bool two] 24) = W0 at KS_ ⊢
  have hcq := bcs3 KS_.out.a0
  go_upto_region 3 with (first | (go_at_call 14; refine (awake_c _ (Tab.below HG.out KS_.out.bel)).mono ?_; rintro e w2 ⟨rfl, hb⟩; (try clear hcq); have KS' := Aside0.mk (KS_.out.step hb); clear KS_ hb; have KS_ := KS'; clear KS'; have hcq := bcs3 KS_.out.a0) | (go_at_call 15; refine (made_c A0 c0 l wd two _ (Kd.C_below HR.out KS_.out.bel) hc).mono ?_; rintro e w2 ⟨n, s, A, c, xs, rfl, hF, hA, hC, hxc, hx1, hx2, hb, hfar⟩; have hF1 := hfar _ (blk_lt KS_.out.a0); clear hfar; have KS' := Aside0.mk (KS_.out.step hb); clear KS_ hb; have KS_ := KS'; clear KS'; have HA := Aside0.mk hA; have HC := Aside0.mk hC; clear hA hC) | (refine wl_stbox (n := n) (s := s) (a1 := ?_) rfl rfl rfl rfl (blk_new w2 _) rfl ?_ ?_; rotate_left 1; (· simp only [Act.put, List.setIfInBounds_toArray, List.set_cons_zero, List.set_cons_succ]; with_reducible rfl)))
  clear hcq hF1
  rw [zbox]
  have KS' := Aside0.mk (KS_.out.var n s)
  have HA' := Aside0.mk (HA.out.below (belowVar w2 n s))
  have HC' := Aside0.mk (Kd.C_below HC.out (belowVar w2 n s))
  clear KS_ HA HC
  generalize (w2.alloc (zN.box zS)).setRow w2.heap.size (n.cells s) = W1 at KS' HA' HC' ⊢
  generalize w2.heap.size = d at KS' ⊢
  have KS_ := KS'
  have HA := HA'
  have HC := HC'
  clear KS' HA' HC'
  have ht : 0 ≤ Go.bits .and .i64 count 1099511627775 ∧ Go.bits .and .i64 count 1099511627775 ≤ 1099511627775 := by
    have e : Go.bits .and .i64 count 1099511627775 = count % 1099511627776 := and_mask count 40 (by decide)
    rw [e]; omega
  go_upto_region 4 with (fail)
  generalize Go.bits .and .i64 count 1099511627775 = t at ht ⊢
  have hw1 : wrap64 (t + 1) = t + 1 := w64 (by omega) (by omega)
  go_upto_region 6 with (fail)
  have hs1 : (W1.alloc (.cells #[.int .i64 t] 3)).heap.size = W1.heap.size + 1 := size_alloc _ _
  have hRa := Kd.R_below (R1 W1 W1.heap.size t (Nat.le_refl _)) (below_alloc (Below.refl _ _) (.cells #[.int .i64 (t + 1)] 3))
  have hRb := R1 (W1.alloc (.cells #[.int .i64 t] 3)) W1.heap.size (t + 1) (by rw [hs1]; omega)
  have hBa : Below W1.heap.size W1 ((W1.alloc (.cells #[.int .i64 t] 3)).alloc (.cells #[.int .i64 (t + 1)] 3)) := below_alloc (below_alloc (Below.refl _ _) _) _
  have hsz : ((W1.alloc (.cells #[.int .i64 t] 3)).alloc (.cells #[.int .i64 (t + 1)] 3)).heap.size = W1.heap.size + 2 := by rw [size_alloc, hs1]
  rw [hs1] at hRb
  clear hs1
  generalize (W1.alloc (.cells #[.int .i64 t] 3)).alloc (.cells #[.int .i64 (t + 1)] 3) = W2 at hRa hRb hBa hsz ⊢
  have HSZ := Aside0.mk hsz
  clear hsz
  have hst := hF.stp
  by_cases hxl : xs.length = 1
  · obtain ⟨ra, rb, rc, rd_, ha, hb_, hc_, hd_, h1, h2, h3, h4, h5, h6, h7, h8, h9⟩ := hF.more [t] [t + 1] t ht.1 ht.2 (few1 t ht.1) (few1 (t + 1) (by omega))
    have hl1 : ¬ (1 < xs.length) := by omega
    have hl2 : decide (1 < (xs.length : Int)) = false := decide_eq_false (by omega)
    refine wp_loop_rounds 1 ?_
    rw [rounds_succ]
    go_upto_region 9 with (fail)
    have hB5 := hBa
    obtain ⟨-, -, hC1⟩ := Kd.R_reads' hRa
    obtain ⟨-, -, hC2⟩ := Kd.R_reads' hRb
    have hc1 : ([t] : List Int).length ≤ 1 := Nat.le_refl _
    have hc2 : ([t + 1] : List Int).length ≤ 1 := Nat.le_refl _
    clear hRa hRb hBa
    have KS1 := Aside0.mk (KS_.out.step hB5)
    clear KS_ HA HC
    have KS_ := KS1
    clear KS1
    have HC1 := Aside0.mk hC1
    have HC2 := Aside0.mk hC2
    have HK1 := Aside0.mk hc1
    have HK2 := Aside0.mk hc2
    clear hc1 hc2
    have HB := Aside0.mk (Below.refl W2.heap.size W2)
    clear hC1 hC2 hB5
    have r0 : rd_ ≤ 2199023255552 := by by_cases h : t = 0 <;> simp only [h, if_true, if_false] at h7 <;> omega
    have r1 : ra ≤ 2199023255552 := by omega
    have g1 : decide (0 ≤ ra) = true := decide_eq_true h1
    have g2 : decide (ra ≤ rb) = true := decide_eq_true h2
    have e3 : wrap64 (ra + 1) = ra + 1 := w64 (by omega) (by omega)
    have g3 : decide (rb ≤ ra + 1) = true := decide_eq_true h3
    have g4 : decide (rc ≤ rd_) = true := decide_eq_true h4
    have e5 : wrap64 (rc + 1) = rc + 1 := w64 (by omega) (by omega)
    have g6 : decide (ra ≤ rc) = true := decide_eq_true h8
    have g7 : decide (rb ≤ rd_) = true := decide_eq_true h9
    go_upto_region 13 with (first | (refine wl_boxg (a1 := ?_) rfl (by first | exact wanted_none rfl | exact (ow_wt rfl rfl).trans rfl) rfl KS_.out.a0 ?_ ?_; rotate_left 1; (· simp only [Act.put, List.setIfInBounds_toArray, List.set_cons_zero, List.set_cons_succ, guarded_true, i64_w, i32_w]; with_reducible rfl)) | (go_at_call 20; with_reducible refine (ready_m n s (some ⟨W1.heap.size, 0, none⟩) 1 _ [t] _ ra (by simp) (Tab.below HG.out KS_.out.bel) (Kd.C_below HC1.out HB.out) HK1.out (by simp) hst ha).mono ?_; rintro e w2 ⟨rfl, hb⟩; have HB' := Aside0.mk (below_step HB.out hb); clear HB; have HB := HB'; clear HB'; have KS' := Aside0.mk (KS_.out.step hb); clear KS_ hb; have KS_ := KS'; clear KS') | (go_at_call 20; with_reducible refine (ready_m n s (some ⟨W1.heap.size + 1, 0, none⟩) 1 _ [t + 1] _ rb (by simp) (Tab.below HG.out KS_.out.bel) (Kd.C_below HC2.out HB.out) HK2.out (by simp) hst hb_).mono ?_; rintro e w2 ⟨rfl, hb⟩; have HB' := Aside0.mk (below_step HB.out hb); clear HB; have HB := HB'; clear HB'; have KS' := Aside0.mk (KS_.out.step hb); clear KS_ hb; have KS_ := KS'; clear KS') | (go_at_call 21; with_reducible refine (count_m n s (some ⟨W1.heap.size, 0, none⟩) 1 _ [t] _ rc (by simp) (Tab.below HG.out KS_.out.bel) (Kd.C_below HC1.out HB.out) HK1.out (by simp) hst hc_).mono ?_; rintro e w2 ⟨rfl, hb⟩; have HB' := Aside0.mk (below_step HB.out hb); clear HB; have HB := HB'; clear HB'; have KS' := Aside0.mk (KS_.out.step hb); clear KS_ hb; have KS_ := KS'; clear KS') | (go_at_call 21; with_reducible refine (count_m n s (some ⟨W1.heap.size + 1, 0, none⟩) 1 _ [t + 1] _ rd_ (by simp) (Tab.below HG.out KS_.out.bel) (Kd.C_below HC2.out HB.out) HK2.out (by simp) hst hd_).mono ?_; rintro e w2 ⟨rfl, hb⟩; have HB' := Aside0.mk (below_step HB.out hb); clear HB; have HB := HB'; clear HB'; have KS' := Aside0.mk (KS_.out.step hb); clear KS_ hb; have KS_ := KS'; clear KS') | (go_at_call 20; with_reducible refine (ready_m n s none 0 _ [] _ 0 (by simp) (Tab.below HG.out KS_.out.bel) (C0 _) (Nat.le_refl _) (by simp) hst (Fine.none (n := n) [] few0).1).mono ?_; rintro e w2 ⟨rfl, hb⟩; have HB' := Aside0.mk (below_step HB.out hb); clear HB; have HB := HB'; clear HB'; have KS' := Aside0.mk (KS_.out.step hb); clear KS_ hb; have KS_ := KS'; clear KS') | (go_at_call 21; with_reducible refine (count_m n s none 0 _ [] _ 0 (by simp) (Tab.below HG.out KS_.out.bel) (C0 _) (Nat.le_refl _) (by simp) hst (Fine.none (n := n) [] few0).2).mono ?_; rintro e w2 ⟨rfl, hb⟩; have HB' := Aside0.mk (below_step HB.out hb); clear HB; have HB := HB'; clear HB'; have KS' := Aside0.mk (KS_.out.step hb); clear KS_ hb; have KS_ := KS'; clear KS'))
    by_cases ht1 : t ≤ 1
    · have e6 : wrap64 (1 - t) = 1 - t := w64 (by omega) (by omega)
      have e7 : wrap64 ((1 - t) * 16) = (1 - t) * 16 := w64 (by omega) (by omega)
      have e8 : wrap64 (rc + 1 + (1 - t) * 16) = rc + 1 + (1 - t) * 16 := w64 (by omega) (by omega)
      have g5 : rd_ ≤ rc + 1 + (1 - t) * 16 := by
        by_cases h : t = 0
        · rw [if_pos h] at h7; omega
        · rw [if_neg h] at h7; omega
      have g8 : decide (rd_ ≤ rc + 1 + (1 - t) * 16) = true := decide_eq_true g5
      clear h1 h2 h3 h4 h5 h6 h7 h8 h9 r0 r1
      go_wp2_with (first | (refine wl_boxg (a1 := ?_) rfl (by first | exact wanted_none rfl | exact (ow_wt rfl rfl).trans rfl) rfl KS_.out.a0 ?_ ?_; rotate_left 1; (· simp only [Act.put, List.setIfInBounds_toArray, List.set_cons_zero, List.set_cons_succ, guarded_true, i64_w, i32_w]; with_reducible rfl)) | (go_at_call 20; with_reducible refine (ready_m n s (some ⟨W1.heap.size, 0, none⟩) 1 _ [t] _ ra (by simp) (Tab.below HG.out KS_.out.bel) (Kd.C_below HC1.out HB.out) HK1.out (by simp) hst ha).mono ?_; rintro e w2 ⟨rfl, hb⟩; have HB' := Aside0.mk (below_step HB.out hb); clear HB; have HB := HB'; clear HB'; have KS' := Aside0.mk (KS_.out.step hb); clear KS_ hb; have KS_ := KS'; clear KS') | (go_at_call 20; with_reducible refine (ready_m n s (some ⟨W1.heap.size + 1, 0, none⟩) 1 _ [t + 1] _ rb (by simp) (Tab.below HG.out KS_.out.bel) (Kd.C_below HC2.out HB.out) HK2.out (by simp) hst hb_).mono ?_; rintro e w2 ⟨rfl, hb⟩; have HB' := Aside0.mk (below_step HB.out hb); clear HB; have HB := HB'; clear HB'; have KS' := Aside0.mk (KS_.out.step hb); clear KS_ hb; have KS_ := KS'; clear KS') | (go_at_call 21; with_reducible refine (count_m n s (some ⟨W1.heap.size, 0, none⟩) 1 _ [t] _ rc (by simp) (Tab.below HG.out KS_.out.bel) (Kd.C_below HC1.out HB.out) HK1.out (by simp) hst hc_).mono ?_; rintro e w2 ⟨rfl, hb⟩; have HB' := Aside0.mk (below_step HB.out hb); clear HB; have HB := HB'; clear HB'; have KS' := Aside0.mk (KS_.out.step hb); clear KS_ hb; have KS_ := KS'; clear KS') | (go_at_call 21; with_reducible refine (count_m n s (some ⟨W1.heap.size + 1, 0, none⟩) 1 _ [t + 1] _ rd_ (by simp) (Tab.below HG.out KS_.out.bel) (Kd.C_below HC2.out HB.out) HK2.out (by simp) hst hd_).mono ?_; rintro e w2 ⟨rfl, hb⟩; have HB' := Aside0.mk (below_step HB.out hb); clear HB; have HB := HB'; clear HB'; have KS' := Aside0.mk (KS_.out.step hb); clear KS_ hb; have KS_ := KS'; clear KS') | (go_at_call 20; with_reducible refine (ready_m n s none 0 _ [] _ 0 (by simp) (Tab.below HG.out KS_.out.bel) (C0 _) (Nat.le_refl _) (by simp) hst (Fine.none (n := n) [] few0).1).mono ?_; rintro e w2 ⟨rfl, hb⟩; have HB' := Aside0.mk (below_step HB.out hb); clear HB; have HB := HB'; clear HB'; have KS' := Aside0.mk (KS_.out.step hb); clear KS_ hb; have KS_ := KS'; clear KS') | (go_at_call 21; with_reducible refine (count_m n s none 0 _ [] _ 0 (by simp) (Tab.below HG.out KS_.out.bel) (C0 _) (Nat.le_refl _) (by simp) hst (Fine.none (n := n) [] few0).2).mono ?_; rintro e w2 ⟨rfl, hb⟩; have HB' := Aside0.mk (below_step HB.out hb); clear HB; have HB := HB'; clear HB'; have KS' := Aside0.mk (KS_.out.step hb); clear KS_ hb; have KS_ := KS'; clear KS'))
      go_ret
      exact ⟨rfl, KS_.out.bel⟩
    · have g5 : rd_ ≤ rc + 1 := by rw [if_neg (by omega)] at h7; omega
      have g8 : decide (rd_ ≤ rc + 1) = true := decide_eq_true g5
      have ht2 : 1 < t := by omega
      clear h1 h2 h3 h4 h5 h6 h7 h8 h9 r0 r1
      go_wp2_with (first | (refine wl_boxg (a1 := ?_) rfl (by first | exact wanted_none rfl | exact (ow_wt rfl rfl).trans rfl) rfl KS_.out.a0 ?_ ?_; rotate_left 1; (· simp only [Act.put, List.setIfInBounds_toArray, List.set_cons_zero, List.set_cons_succ, guarded_true, i64_w, i32_w]; with_reducible rfl)) | (go_at_call 20; with_reducible refine (ready_m n s (some ⟨W1.heap.size, 0, none⟩) 1 _ [t] _ ra (by simp) (Tab.below HG.out KS_.out.bel) (Kd.C_below HC1.out HB.out) HK1.out (by simp) hst ha).mono ?_; rintro e w2 ⟨rfl, hb⟩; have HB' := Aside0.mk (below_step HB.out hb); clear HB; have HB := HB'; clear HB'; have KS' := Aside0.mk (KS_.out.step hb); clear KS_ hb; have KS_ := KS'; clear KS') | (go_at_call 20; with_reducible refine (ready_m n s (some ⟨W1.heap.size + 1, 0, none⟩) 1 _ [t + 1] _ rb (by simp) (Tab.below HG.out KS_.out.bel) (Kd.C_below HC2.out HB.out) HK2.out (by simp) hst hb_).mono ?_; rintro e w2 ⟨rfl, hb⟩; have HB' := Aside0.mk (below_step HB.out hb); clear HB; have HB := HB'; clear HB'; have KS' := Aside0.mk (KS_.out.step hb); clear KS_ hb; have KS_ := KS'; clear KS') | (go_at_call 21; with_reducible refine (count_m n s (some ⟨W1.heap.size, 0, none⟩) 1 _ [t] _ rc (by simp) (Tab.below HG.out KS_.out.bel) (Kd.C_below HC1.out HB.out) HK1.out (by simp) hst hc_).mono ?_; rintro e w2 ⟨rfl, hb⟩; have HB' := Aside0.mk (below_step HB.out hb); clear HB; have HB := HB'; clear HB'; have KS' := Aside0.mk (KS_.out.step hb); clear KS_ hb; have KS_ := KS'; clear KS') | (go_at_call 21; with_reducible refine (count_m n s (some ⟨W1.heap.size + 1, 0, none⟩) 1 _ [t + 1] _ rd_ (by simp) (Tab.below HG.out KS_.out.bel) (Kd.C_below HC2.out HB.out) HK2.out (by simp) hst hd_).mono ?_; rintro e w2 ⟨rfl, hb⟩; have HB' := Aside0.mk (below_step HB.out hb); clear HB; have HB := HB'; clear HB'; have KS' := Aside0.mk (KS_.out.step hb); clear KS_ hb; have KS_ := KS'; clear KS') | (go_at_call 20; with_reducible refine (ready_m n s none 0 _ [] _ 0 (by simp) (Tab.below HG.out KS_.out.bel) (C0 _) (Nat.le_refl _) (by simp) hst (Fine.none (n := n) [] few0).1).mono ?_; rintro e w2 ⟨rfl, hb⟩; have HB' := Aside0.mk (below_step HB.out hb); clear HB; have HB := HB'; clear HB'; have KS' := Aside0.mk (KS_.out.step hb); clear KS_ hb; have KS_ := KS'; clear KS') | (go_at_call 21; with_reducible refine (count_m n s none 0 _ [] _ 0 (by simp) (Tab.below HG.out KS_.out.bel) (C0 _) (Nat.le_refl _) (by simp) hst (Fine.none (n := n) [] few0).2).mono ?_; rintro e w2 ⟨rfl, hb⟩; have HB' := Aside0.mk (below_step HB.out hb); clear HB; have HB := HB'; clear HB'; have KS' := Aside0.mk (KS_.out.step hb); clear KS_ hb; have KS_ := KS'; clear KS'))
      go_ret
      exact ⟨rfl, KS_.out.bel⟩
  · obtain ⟨ra, rb, rc, rd_, ha, hb_, hc_, hd_, h1, h2, h3, h4, h5, h6, h7, h8, h9⟩ := hF.more [t, t] [t + 1, t + 1] t ht.1 ht.2 (few2 t ht.1) (few2 (t + 1) (by omega))
    have hl1 : 1 < xs.length := by omega
    have hl2 : decide (1 < (xs.length : Int)) = true := decide_eq_true (by omega)
    refine wp_loop_rounds 2 ?_
    rw [rounds_succ]
    go_upto_region 7 with (fail)
    have hoa : (Value.slice (some ⟨W1.heap.size, 0, none⟩) 1 1).ownBlock = some W1.heap.size := rfl
    have hob : (Value.slice (some ⟨W1.heap.size + 1, 0, none⟩) 1 1).ownBlock = some (W1.heap.size + 1) := rfl
    generalize Value.slice (some ⟨W1.heap.size, 0, none⟩) 1 1 = va at hRa hoa ⊢
    generalize Value.slice (some ⟨W1.heap.size + 1, 0, none⟩) 1 1 = vb at hRb hob ⊢
    go_upto_region 8 with (first | ((with_reducible refine gate_builtin (b := .append) (xs := #[.tmp 33, .tmp 35]) rfl ?_); at_builtin; refine Kd.R_append (Kd.int .i64) (w0 := W1) W1.heap.size rfl (.tmp 33) (.tmp 35) 22 3 (.int .i64 0) 8 rfl Tryd.underlying22 info3 rfl (by decide) (by decide) va [t] t [.int .i64 t] (fun _ => True) (fun _ => False) rfl rfl rfl (fun _ hk => hk.elim) (fun _ _ => trivial) hRa hBa hBa.size (by show (1 + 1) * 8 ≤ 140737488355328; decide) ?_; intro v1 w3 hR3 hB3 hg3 hat3))
    have hRb3 := Kd.R_grown1 hRb rfl hg3 (by rw [hoa, hob]; simp)
    go_upto_region 9 with (first | ((with_reducible refine gate_builtin (b := .append) (xs := #[.tmp 37, .tmp 40]) rfl ?_); at_builtin; refine Kd.R_append (Kd.int .i64) (w0 := W1) W1.heap.size rfl (.tmp 37) (.tmp 40) 22 3 (.int .i64 0) 8 rfl Tryd.underlying22 info3 rfl (by decide) (by decide) vb [t + 1] (t + 1) [.int .i64 (t + 1)] (fun _ => True) (fun _ => False) rfl rfl rfl (fun _ hk => hk.elim) (fun _ _ => trivial) hRb3 hB3 hB3.size (by show (1 + 1) * 8 ≤ 140737488355328; decide) ?_; intro v2 w4 hR4 hB4 hg4 hat4))
    have hR5 := Kd.R_grown1 hR3 rfl hg4 (fun e => by
      rw [hob] at e
      rcases hat3 with h | ⟨b, h, hb⟩
      · rw [h, hoa] at e; simp at e
      · rw [h] at e; injection e with e; have := HSZ.out; omega)
    have hR5' : Kd.R (Kd.int .i64) 3 w4 W1.heap.size (fun _ => True) v1 [t, t] := hR5
    have hR6' : Kd.R (Kd.int .i64) 3 w4 W1.heap.size (fun _ => True) v2 [t + 1, t + 1] := hR4
    have hB5 := hB4
    clear hRa hRb hBa hR3 hB3 hg3 hat3 hRb3 hR4 hB4 hg4 hat4 hR5 hoa hob HSZ
    obtain ⟨A1, c1, rfl, hc1, hC1, _⟩ := rowfar hR5'
    obtain ⟨A2, c2, rfl, hc2, hC2, _⟩ := rowfar hR6'
    clear hR5' hR6'
    have hl3 : ¬ (2 < xs.length) := by omega
    have hl4 : decide (2 < (xs.length : Int)) = false := decide_eq_false (by omega)
    rw [rounds_succ]
    go_upto_region 9 with (fail)
    have KS1 := Aside0.mk (KS_.out.step hB5)
    clear KS_ HA HC
    have KS_ := KS1
    clear KS1
    have HC1 := Aside0.mk hC1
    have HC2 := Aside0.mk hC2
    have HK1 := Aside0.mk hc1
    have HK2 := Aside0.mk hc2
    clear hc1 hc2
    have HB := Aside0.mk (Below.refl w4.heap.size w4)
    clear hC1 hC2 hB5
    have r0 : rd_ ≤ 2199023255552 := by by_cases h : t = 0 <;> simp only [h, if_true, if_false] at h7 <;> omega
    have r1 : ra ≤ 2199023255552 := by omega
    have g1 : decide (0 ≤ ra) = true := decide_eq_true h1
    have g2 : decide (ra ≤ rb) = true := decide_eq_true h2
    have e3 : wrap64 (ra + 1) = ra + 1 := w64 (by omega) (by omega)
    have g3 : decide (rb ≤ ra + 1) = true := decide_eq_true h3
    have g4 : decide (rc ≤ rd_) = true := decide_eq_true h4
    have e5 : wrap64 (rc + 1) = rc + 1 := w64 (by omega) (by omega)
    have g6 : decide (ra ≤ rc) = true := decide_eq_true h8
    have g7 : decide (rb ≤ rd_) = true := decide_eq_true h9
    go_upto_region 13 with (first | (refine wl_boxg (a1 := ?_) rfl (by first | exact wanted_none rfl | exact (ow_wt rfl rfl).trans rfl) rfl KS_.out.a0 ?_ ?_; rotate_left 1; (· simp only [Act.put, List.setIfInBounds_toArray, List.set_cons_zero, List.set_cons_succ, guarded_true, i64_w, i32_w]; with_reducible rfl)) | (go_at_call 20; with_reducible refine (ready_m n s A1 c1 _ [t, t] _ ra (by simp) (Tab.below HG.out KS_.out.bel) (Kd.C_below HC1.out HB.out) HK1.out (by simp) hst ha).mono ?_; rintro e w2 ⟨rfl, hb⟩; have HB' := Aside0.mk (below_step HB.out hb); clear HB; have HB := HB'; clear HB'; have KS' := Aside0.mk (KS_.out.step hb); clear KS_ hb; have KS_ := KS'; clear KS') | (go_at_call 20; with_reducible refine (ready_m n s A2 c2 _ [t + 1, t + 1] _ rb (by simp) (Tab.below HG.out KS_.out.bel) (Kd.C_below HC2.out HB.out) HK2.out (by simp) hst hb_).mono ?_; rintro e w2 ⟨rfl, hb⟩; have HB' := Aside0.mk (below_step HB.out hb); clear HB; have HB := HB'; clear HB'; have KS' := Aside0.mk (KS_.out.step hb); clear KS_ hb; have KS_ := KS'; clear KS') | (go_at_call 21; with_reducible refine (count_m n s A1 c1 _ [t, t] _ rc (by simp) (Tab.below HG.out KS_.out.bel) (Kd.C_below HC1.out HB.out) HK1.out (by simp) hst hc_).mono ?_; rintro e w2 ⟨rfl, hb⟩; have HB' := Aside0.mk (below_step HB.out hb); clear HB; have HB := HB'; clear HB'; have KS' := Aside0.mk (KS_.out.step hb); clear KS_ hb; have KS_ := KS'; clear KS') | (go_at_call 21; with_reducible refine (count_m n s A2 c2 _ [t + 1, t + 1] _ rd_ (by simp) (Tab.below HG.out KS_.out.bel) (Kd.C_below HC2.out HB.out) HK2.out (by simp) hst hd_).mono ?_; rintro e w2 ⟨rfl, hb⟩; have HB' := Aside0.mk (below_step HB.out hb); clear HB; have HB := HB'; clear HB'; have KS' := Aside0.mk (KS_.out.step hb); clear KS_ hb; have KS_ := KS'; clear KS') | (go_at_call 20; with_reducible refine (ready_m n s none 0 _ [] _ 0 (by simp) (Tab.below HG.out KS_.out.bel) (C0 _) (Nat.le_refl _) (by simp) hst (Fine.none (n := n) [] few0).1).mono ?_; rintro e w2 ⟨rfl, hb⟩; have HB' := Aside0.mk (below_step HB.out hb); clear HB; have HB := HB'; clear HB'; have KS' := Aside0.mk (KS_.out.step hb); clear KS_ hb; have KS_ := KS'; clear KS') | (go_at_call 21; with_reducible refine (count_m n s none 0 _ [] _ 0 (by simp) (Tab.below HG.out KS_.out.bel) (C0 _) (Nat.le_refl _) (by simp) hst (Fine.none (n := n) [] few0).2).mono ?_; rintro e w2 ⟨rfl, hb⟩; have HB' := Aside0.mk (below_step HB.out hb); clear HB; have HB := HB'; clear HB'; have KS' := Aside0.mk (KS_.out.step hb); clear KS_ hb; have KS_ := KS'; clear KS'))
    by_cases ht1 : t ≤ 1
    · have e6 : wrap64 (1 - t) = 1 - t := w64 (by omega) (by omega)
      have e7 : wrap64 ((1 - t) * 16) = (1 - t) * 16 := w64 (by omega) (by omega)
      have e8 : wrap64 (rc + 1 + (1 - t) * 16) = rc + 1 + (1 - t) * 16 := w64 (by omega) (by omega)
      have g5 : rd_ ≤ rc + 1 + (1 - t) * 16 := by
        by_cases h : t = 0
        · rw [if_pos h] at h7; omega
        · rw [if_neg h] at h7; omega
      have g8 : decide (rd_ ≤ rc + 1 + (1 - t) * 16) = true := decide_eq_true g5
      clear h1 h2 h3 h4 h5 h6 h7 h8 h9 r0 r1
      go_wp2_with (first | (refine wl_boxg (a1 := ?_) rfl (by first | exact wanted_none rfl | exact (ow_wt rfl rfl).trans rfl) rfl KS_.out.a0 ?_ ?_; rotate_left 1; (· simp only [Act.put, List.setIfInBounds_toArray, List.set_cons_zero, List.set_cons_succ, guarded_true, i64_w, i32_w]; with_reducible rfl)) | (go_at_call 20; with_reducible refine (ready_m n s A1 c1 _ [t, t] _ ra (by simp) (Tab.below HG.out KS_.out.bel) (Kd.C_below HC1.out HB.out) HK1.out (by simp) hst ha).mono ?_; rintro e w2 ⟨rfl, hb⟩; have HB' := Aside0.mk (below_step HB.out hb); clear HB; have HB := HB'; clear HB'; have KS' := Aside0.mk (KS_.out.step hb); clear KS_ hb; have KS_ := KS'; clear KS') | (go_at_call 20; with_reducible refine (ready_m n s A2 c2 _ [t + 1, t + 1] _ rb (by simp) (Tab.below HG.out KS_.out.bel) (Kd.C_below HC2.out HB.out) HK2.out (by simp) hst hb_).mono ?_; rintro e w2 ⟨rfl, hb⟩; have HB' := Aside0.mk (below_step HB.out hb); clear HB; have HB := HB'; clear HB'; have KS' := Aside0.mk (KS_.out.step hb); clear KS_ hb; have KS_ := KS'; clear KS') | (go_at_call 21; with_reducible refine (count_m n s A1 c1 _ [t, t] _ rc (by simp) (Tab.below HG.out KS_.out.bel) (Kd.C_below HC1.out HB.out) HK1.out (by simp) hst hc_).mono ?_; rintro e w2 ⟨rfl, hb⟩; have HB' := Aside0.mk (below_step HB.out hb); clear HB; have HB := HB'; clear HB'; have KS' := Aside0.mk (KS_.out.step hb); clear KS_ hb; have KS_ := KS'; clear KS') | (go_at_call 21; with_reducible refine (count_m n s A2 c2 _ [t + 1, t + 1] _ rd_ (by simp) (Tab.below HG.out KS_.out.bel) (Kd.C_below HC2.out HB.out) HK2.out (by simp) hst hd_).mono ?_; rintro e w2 ⟨rfl, hb⟩; have HB' := Aside0.mk (below_step HB.out hb); clear HB; have HB := HB'; clear HB'; have KS' := Aside0.mk (KS_.out.step hb); clear KS_ hb; have KS_ := KS'; clear KS') | (go_at_call 20; with_reducible refine (ready_m n s none 0 _ [] _ 0 (by simp) (Tab.below HG.out KS_.out.bel) (C0 _) (Nat.le_refl _) (by simp) hst (Fine.none (n := n) [] few0).1).mono ?_; rintro e w2 ⟨rfl, hb⟩; have HB' := Aside0.mk (below_step HB.out hb); clear HB; have HB := HB'; clear HB'; have KS' := Aside0.mk (KS_.out.step hb); clear KS_ hb; have KS_ := KS'; clear KS') | (go_at_call 21; with_reducible refine (count_m n s none 0 _ [] _ 0 (by simp) (Tab.below HG.out KS_.out.bel) (C0 _) (Nat.le_refl _) (by simp) hst (Fine.none (n := n) [] few0).2).mono ?_; rintro e w2 ⟨rfl, hb⟩; have HB' := Aside0.mk (below_step HB.out hb); clear HB; have HB := HB'; clear HB'; have KS' := Aside0.mk (KS_.out.step hb); clear KS_ hb; have KS_ := KS'; clear KS'))
      go_ret
      exact ⟨rfl, KS_.out.bel⟩
    · have g5 : rd_ ≤ rc + 1 := by rw [if_neg (by omega)] at h7; omega
      have g8 : decide (rd_ ≤ rc + 1) = true := decide_eq_true g5
      have ht2 : 1 < t := by omega
      clear h1 h2 h3 h4 h5 h6 h7 h8 h9 r0 r1
      go_wp2_with (first | (refine wl_boxg (a1 := ?_) rfl (by first | exact wanted_none rfl | exact (ow_wt rfl rfl).trans rfl) rfl KS_.out.a0 ?_ ?_; rotate_left 1; (· simp only [Act.put, List.setIfInBounds_toArray, List.set_cons_zero, List.set_cons_succ, guarded_true, i64_w, i32_w]; with_reducible rfl)) | (go_at_call 20; with_reducible refine (ready_m n s A1 c1 _ [t, t] _ ra (by simp) (Tab.below HG.out KS_.out.bel) (Kd.C_below HC1.out HB.out) HK1.out (by simp) hst ha).mono ?_; rintro e w2 ⟨rfl, hb⟩; have HB' := Aside0.mk (below_step HB.out hb); clear HB; have HB := HB'; clear HB'; have KS' := Aside0.mk (KS_.out.step hb); clear KS_ hb; have KS_ := KS'; clear KS') | (go_at_call 20; with_reducible refine (ready_m n s A2 c2 _ [t + 1, t + 1] _ rb (by simp) (Tab.below HG.out KS_.out.bel) (Kd.C_below HC2.out HB.out) HK2.out (by simp) hst hb_).mono ?_; rintro e w2 ⟨rfl, hb⟩; have HB' := Aside0.mk (below_step HB.out hb); clear HB; have HB := HB'; clear HB'; have KS' := Aside0.mk (KS_.out.step hb); clear KS_ hb; have KS_ := KS'; clear KS') | (go_at_call 21; with_reducible refine (count_m n s A1 c1 _ [t, t] _ rc (by simp) (Tab.below HG.out KS_.out.bel) (Kd.C_below HC1.out HB.out) HK1.out (by simp) hst hc_).mono ?_; rintro e w2 ⟨rfl, hb⟩; have HB' := Aside0.mk (below_step HB.out hb); clear HB; have HB := HB'; clear HB'; have KS' := Aside0.mk (KS_.out.step hb); clear KS_ hb; have KS_ := KS'; clear KS') | (go_at_call 21; with_reducible refine (count_m n s A2 c2 _ [t + 1, t + 1] _ rd_ (by simp) (Tab.below HG.out KS_.out.bel) (Kd.C_below HC2.out HB.out) HK2.out (by simp) hst hd_).mono ?_; rintro e w2 ⟨rfl, hb⟩; have HB' := Aside0.mk (below_step HB.out hb); clear HB; have HB := HB'; clear HB'; have KS' := Aside0.mk (KS_.out.step hb); clear KS_ hb; have KS_ := KS'; clear KS') | (go_at_call 20; with_reducible refine (ready_m n s none 0 _ [] _ 0 (by simp) (Tab.below HG.out KS_.out.bel) (C0 _) (Nat.le_refl _) (by simp) hst (Fine.none (n := n) [] few0).1).mono ?_; rintro e w2 ⟨rfl, hb⟩; have HB' := Aside0.mk (below_step HB.out hb); clear HB; have HB := HB'; clear HB'; have KS' := Aside0.mk (KS_.out.step hb); clear KS_ hb; have KS_ := KS'; clear KS') | (go_at_call 21; with_reducible refine (count_m n s none 0 _ [] _ 0 (by simp) (Tab.below HG.out KS_.out.bel) (C0 _) (Nat.le_refl _) (by simp) hst (Fine.none (n := n) [] few0).2).mono ?_; rintro e w2 ⟨rfl, hb⟩; have HB' := Aside0.mk (below_step HB.out hb); clear HB; have HB := HB'; clear HB'; have KS' := Aside0.mk (KS_.out.step hb); clear KS_ hb; have KS_ := KS'; clear KS'))
      go_ret
      exact ⟨rfl, KS_.out.bel⟩
end Go.Proofs.YtohhaonjckfkaaaDoor.Hand
