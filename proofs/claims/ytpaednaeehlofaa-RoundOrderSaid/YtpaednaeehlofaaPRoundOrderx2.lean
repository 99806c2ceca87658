/- Written by xp.py, a program of this session: contracts of the Go functions that a law reaches: each call returns what the Lean function of its name tells. Conditions: those that each theorem names, none else. -/
import Derived.Test.YtpaednaeehlofaaPRoundOrderx0
import Derived.Test.YtpaednaeehlofaaPRoundOrderx1
namespace Go.Proofs.Ytpaednaeehlofaa.PRoundOrder
open Go.RowKit Go.Proofs.YtpaednaeehlofaaW.PrintWords Go.Proofs.YtpaednaeehlofaaW.PrintLast Go.Proofs.YtpaednaeehlofaaW.PrintMore
attribute [local go_sem] max2_int min2_int max_two min_two max_three min_three max_four min_four   -- for this text's walks alone
set_option linter.unusedVariables false
set_option linter.unusedSimpArgs false

/-! ### earshotlaw02_RoundOrder: function 9 -/
mutual
def earshotlaw02_RoundOrder.j0 : Nat → Bool → Int → Int → Int → Int → Int → Option (Bool)
  | 0, _, _, _, _, _, _ => none
  | k + 1, x7, x8, x9, x10, x118000, x118001 => (round_Parts.f x8 x10).bind fun bt119 => ((round_Parts.f x9 x10).bind fun bt121 => (if bt119.2 < 0 then (earshotlaw02_RoundOrder.j1 k x7 x8 x9 x10 (Int.tmod (wrap64 ((Int.tmod x118000 31) + 31)) 31) (Go.bits .and .i64 x118001 32767) true) else (if bt119.2 ≥ x10 then (earshotlaw02_RoundOrder.j1 k x7 x8 x9 x10 (Int.tmod (wrap64 ((Int.tmod x118000 31) + 31)) 31) (Go.bits .and .i64 x118001 32767) true) else (if bt121.2 < 0 then (earshotlaw02_RoundOrder.j1 k x7 x8 x9 x10 (Int.tmod (wrap64 ((Int.tmod x118000 31) + 31)) 31) (Go.bits .and .i64 x118001 32767) true) else (if bt121.2 ≥ x10 then (earshotlaw02_RoundOrder.j1 k x7 x8 x9 x10 (Int.tmod (wrap64 ((Int.tmod x118000 31) + 31)) 31) (Go.bits .and .i64 x118001 32767) true) else (if bt119.1 > bt121.1 then (earshotlaw02_RoundOrder.j1 k x7 x8 x9 x10 (Int.tmod (wrap64 ((Int.tmod x118000 31) + 31)) 31) (Go.bits .and .i64 x118001 32767) true) else (if bt119.1 = bt121.1 then (if bt119.2 > bt121.2 then (earshotlaw02_RoundOrder.j1 k x7 x8 x9 x10 (Int.tmod (wrap64 ((Int.tmod x118000 31) + 31)) 31) (Go.bits .and .i64 x118001 32767) true) else (earshotlaw02_RoundOrder.j1 k x7 x8 x9 x10 (Int.tmod (wrap64 ((Int.tmod x118000 31) + 31)) 31) (Go.bits .and .i64 x118001 32767) ((wrap64 ((wrap64 (bt119.1 * x10)) + bt119.2)) != x8))) else (earshotlaw02_RoundOrder.j1 k x7 x8 x9 x10 (Int.tmod (wrap64 ((Int.tmod x118000 31) + 31)) 31) (Go.bits .and .i64 x118001 32767) ((wrap64 ((wrap64 (bt119.1 * x10)) + bt119.2)) != x8)))))))))
def earshotlaw02_RoundOrder.j1 : Nat → Bool → Int → Int → Int → Int → Int → Bool → Option (Bool)
  | 0, _, _, _, _, _, _, _ => none
  | k + 1, x7, x8, x9, x10, x11, x12, x91 => if x91 = true then (some false) else (if x7 = true then ((round_Div.f x8 x10).bind fun t123 => ((round_Div.f x9 x10).bind fun t124 => (if t123 ≤ t124 then ((round_Half.f x8 x11).bind fun t125 => ((round_Half.f x9 x11).bind fun t126 => (if t125 ≤ t126 then ((round_Scale.f k x8 x12 x11).bind fun t127 => ((round_Scale.f k x9 x12 x11).bind fun t128 => (some (decide (t127 ≤ t128))))) else (some false)))) else (some false)))) else (some false))
end
def earshotlaw02_RoundOrder.f (k : Nat) (a0_0 : Int) (a0_1 : Int) (a1 : Int) (a2_0 : Int) (a2_1 : Int) : Option (Bool) := (earshotlaw02_awake.f k).bind fun t118 => (if (Go.bits .and .i64 a1 4611686018427387903) = 0 then (earshotlaw02_RoundOrder.j0 k t118 (mn a0_0 a0_1) (mx a0_0 a0_1) 1 a2_0 a2_1) else (earshotlaw02_RoundOrder.j0 k t118 (mn a0_0 a0_1) (mx a0_0 a0_1) (Go.bits .and .i64 a1 4611686018427387903) a2_0 a2_1))
theorem earshotlaw02_RoundOrder.mono_l : ∀ k, (∀ y0 y1 y2 y3 y4 y5, LeO (earshotlaw02_RoundOrder.j0 k y0 y1 y2 y3 y4 y5) (earshotlaw02_RoundOrder.j0 (k + 1) y0 y1 y2 y3 y4 y5)) ∧ (∀ y0 y1 y2 y3 y4 y5 y6, LeO (earshotlaw02_RoundOrder.j1 k y0 y1 y2 y3 y4 y5 y6) (earshotlaw02_RoundOrder.j1 (k + 1) y0 y1 y2 y3 y4 y5 y6))
  | 0 => ⟨fun _ _ _ _ _ _ r h => by simp [earshotlaw02_RoundOrder.j0] at h, fun _ _ _ _ _ _ _ r h => by simp [earshotlaw02_RoundOrder.j1] at h⟩
  | k + 1 => by
    obtain ⟨ih0, ih1⟩ := earshotlaw02_RoundOrder.mono_l k
    refine ⟨?_, ?_⟩
    · intro y0 y1 y2 y3 y4 y5
      unfold earshotlaw02_RoundOrder.j0
      repeat' first
      | (with_reducible exact ih0 _ _ _ _ _ _)
      | (with_reducible exact ih1 _ _ _ _ _ _ _)
      | (with_reducible exact earshotlaw02_awake.mono _)
      | (with_reducible exact round_Scale.mono _ _ _ _)
      | (with_reducible exact LeO.refl _)
      | (with_reducible exact LeO.none _)
      | (with_reducible refine LeO.ite ?_ ?_)
      | (with_reducible refine LeO.bind ?_ (fun _ => ?_))
      | exact ih0 _ _ _ _ _ _
      | exact ih1 _ _ _ _ _ _ _
      | exact earshotlaw02_awake.mono _
      | exact round_Scale.mono _ _ _ _
      | exact LeO.none _
      | refine LeO.ite ?_ ?_
      | refine LeO.bind ?_ (fun _ => ?_)
    · intro y0 y1 y2 y3 y4 y5 y6
      unfold earshotlaw02_RoundOrder.j1
      repeat' first
      | (with_reducible exact ih0 _ _ _ _ _ _)
      | (with_reducible exact ih1 _ _ _ _ _ _ _)
      | (with_reducible exact earshotlaw02_awake.mono _)
      | (with_reducible exact round_Scale.mono _ _ _ _)
      | (with_reducible exact LeO.refl _)
      | (with_reducible exact LeO.none _)
      | (with_reducible refine LeO.ite ?_ ?_)
      | (with_reducible refine LeO.bind ?_ (fun _ => ?_))
      | exact ih0 _ _ _ _ _ _
      | exact ih1 _ _ _ _ _ _ _
      | exact earshotlaw02_awake.mono _
      | exact round_Scale.mono _ _ _ _
      | exact LeO.none _
      | refine LeO.ite ?_ ?_
      | refine LeO.bind ?_ (fun _ => ?_)
theorem earshotlaw02_RoundOrder.mono : ∀ a0 a1 a2 a3 a4 k, LeO (earshotlaw02_RoundOrder.f k a0 a1 a2 a3 a4) (earshotlaw02_RoundOrder.f (k + 1) a0 a1 a2 a3 a4) := by
  intro a0 a1 a2 a3 a4 k
  obtain ⟨ih0, ih1⟩ := earshotlaw02_RoundOrder.mono_l k
  unfold earshotlaw02_RoundOrder.f
  repeat' first
      | (with_reducible exact ih0 _ _ _ _ _ _)
      | (with_reducible exact ih1 _ _ _ _ _ _ _)
      | (with_reducible exact earshotlaw02_awake.mono _)
      | (with_reducible exact round_Scale.mono _ _ _ _)
      | (with_reducible exact LeO.refl _)
      | (with_reducible exact LeO.none _)
      | (with_reducible refine LeO.ite ?_ ?_)
      | (with_reducible refine LeO.bind ?_ (fun _ => ?_))
      | exact ih0 _ _ _ _ _ _
      | exact ih1 _ _ _ _ _ _ _
      | exact earshotlaw02_awake.mono _
      | exact round_Scale.mono _ _ _ _
      | exact LeO.none _
      | refine LeO.ite ?_ ?_
      | refine LeO.bind ?_ (fun _ => ?_)
set_option maxHeartbeats 8000000 in
set_option maxRecDepth 100000 in
theorem earshotlaw02_RoundOrder.calls (k : Nat) (a0_0 : Int) (a0_1 : Int) (a1 : Int) (a2_0 : Int) (a2_1 : Int) (r : Bool) (w : World) (h : earshotlaw02_RoundOrder.f k a0_0 a0_1 a1 a2_0 a2_1 = some r) :
    Calls Try.prog 9 #[.agg #[.int .i64 a0_0, .int .i64 a0_1], .int .i64 a1, .agg #[.int .i64 a2_0, .int .i64 a2_1]] w fun e w' => e = .returned (.bool r) ∧ Below w.heap.size w w' := by
  have hu47 := Try.underlying47
  have HB := Aside0.mk (Below.refl w.heap.size w)
  have H : ((earshotlaw02_awake.f k).bind fun t118 => (if (Go.bits .and .i64 a1 4611686018427387903) = 0 then (earshotlaw02_RoundOrder.j0 k t118 (mn a0_0 a0_1) (mx a0_0 a0_1) 1 a2_0 a2_1) else (earshotlaw02_RoundOrder.j0 k t118 (mn a0_0 a0_1) (mx a0_0 a0_1) (Go.bits .and .i64 a1 4611686018427387903) a2_0 a2_1))) = some r := h
  clear h
  replace H := Option.bind_eq_some_iff.mp H
  obtain ⟨t118, A40, H⟩ := H
  replace H : (if (Go.bits .and .i64 a1 4611686018427387903) = 0 then (earshotlaw02_RoundOrder.j0 k t118 (mn a0_0 a0_1) (mx a0_0 a0_1) 1 a2_0 a2_1) else (earshotlaw02_RoundOrder.j0 k t118 (mn a0_0 a0_1) (mx a0_0 a0_1) (Go.bits .and .i64 a1 4611686018427387903) a2_0 a2_1)) = some r := H
  have A4 := Aside0.mk A40
  clear A40
  obtain ⟨ji5, hji5⟩ : ∃ j_ : Int, (mn a0_0 a0_1) = j_ := ⟨_, rfl⟩
  replace H : (if (Go.bits .and .i64 a1 4611686018427387903) = 0 then (earshotlaw02_RoundOrder.j0 k t118 ji5 (mx a0_0 a0_1) 1 a2_0 a2_1) else (earshotlaw02_RoundOrder.j0 k t118 ji5 (mx a0_0 a0_1) (Go.bits .and .i64 a1 4611686018427387903) a2_0 a2_1)) = some r := by first | (rw [hji5] at H; exact H) | (simp only [hji5] at H ⊢; exact H)
  (try rw [hji5] at A4)
  have hji5_ : (if a0_1 < a0_0 then a0_1 else a0_0) = ji5 := hji5
  obtain ⟨ji6, hji6⟩ : ∃ j_ : Int, (mx a0_0 a0_1) = j_ := ⟨_, rfl⟩
  replace H : (if (Go.bits .and .i64 a1 4611686018427387903) = 0 then (earshotlaw02_RoundOrder.j0 k t118 ji5 ji6 1 a2_0 a2_1) else (earshotlaw02_RoundOrder.j0 k t118 ji5 ji6 (Go.bits .and .i64 a1 4611686018427387903) a2_0 a2_1)) = some r := by first | (rw [hji6] at H; exact H) | (simp only [hji6] at H ⊢; exact H)
  (try rw [hji6] at A4)
  have hji6_ : (if a0_0 < a0_1 then a0_1 else a0_0) = ji6 := hji6
  have HC7 := Aside0.mk H
  clear H
  go_enter Try.func9, Try.ntmps9
  go_upto_if 31 with (first | ((with_reducible refine gate_dst (N := 3) rfl ?_); refine box_event ?hg (N := 3) ?hd (cs := #[.int .i64 a0_0, .int .i64 a0_1]) (t := 47) ?hr ?_; (case hd => rfl); (case hg => rfl); (case hr => first | (go_simp; done) | (go_simp; rfl)); intro gb116 hg w8 hbox hb; have n0_ := Aside0.mk (below_step (by repeat (first | (with_reducible first | exact HB.out | apply below_alloc | apply pw_below_drewN | apply below_drew1) | exact HB.out)) hb); have n1_ := Aside0.mk (hbox); have n2_ := Aside0.mk ((by rw [hg]; exact (below_size (by repeat (first | (with_reducible first | exact HB.out | apply below_alloc | apply pw_below_drewN | apply below_drew1) | exact HB.out))) : w.heap.size ≤ gb116)); have n3_ := Aside0.mk ((by rw [hg]; exact (below_size (by repeat (first | (with_reducible first | exact HB.out | apply below_alloc | apply pw_below_drewN | apply below_drew1) | exact HB.out))) : w.heap.size ≤ gb116)); clear HB; have HB := n0_; have BK116 := n1_; have GW116 := n2_; have GE116 := n3_; clear n0_ n1_ n2_ n3_; clear hb hbox hg) | ((with_reducible refine gate_dst (N := 5) rfl ?_); refine box_event ?hg (N := 5) ?hd (cs := #[.int .i64 a2_0, .int .i64 a2_1]) (t := 47) ?hr ?_; (case hd => rfl); (case hg => rfl); (case hr => first | (go_simp; done) | (go_simp; rfl)); intro gb117 hg w9 hbox hb; have n0_ := Aside0.mk (blk_below (g := gb116) (o := .cells #[.int .i64 a0_0, .int .i64 a0_1] 47 (0, 0)) (by (with_reducible repeat (first | refine blk_drewN ?_ _ | refine blk_drew ?_ | refine blk_alloc ?_ _)); exact BK116.out) hb); have n1_ := Aside0.mk (below_step (by repeat (first | (with_reducible first | exact HB.out | apply below_alloc | apply pw_below_drewN | apply below_drew1 | refine below_set ?_ GE116.out) | exact HB.out)) hb); have n2_ := Aside0.mk (hbox); have n3_ := Aside0.mk ((by rw [hg]; exact (below_size (by repeat (first | (with_reducible first | exact HB.out | apply below_alloc | apply pw_below_drewN | apply below_drew1 | refine below_set ?_ GE116.out) | exact HB.out))) : w.heap.size ≤ gb117)); have n4_ := Aside0.mk ((by rw [hg]; exact (below_size (by repeat (first | (with_reducible first | exact HB.out | apply below_alloc | apply pw_below_drewN | apply below_drew1 | refine below_set ?_ GE116.out) | exact HB.out))) : w.heap.size ≤ gb117)); have n5_ := Aside0.mk ((by rw [hg]; exact Nat.ne_of_lt (blk_lt (g := gb116) (o := .cells #[.int .i64 a0_0, .int .i64 a0_1] 47 (0, 0)) (by (with_reducible repeat (first | refine blk_drewN ?_ _ | refine blk_drew ?_ | refine blk_alloc ?_ _)); exact BK116.out)) : gb116 ≠ gb117)); have n6_ := Aside0.mk ((by rw [hg]; exact Nat.ne_of_gt (blk_lt (g := gb116) (o := .cells #[.int .i64 a0_0, .int .i64 a0_1] 47 (0, 0)) (by (with_reducible repeat (first | refine blk_drewN ?_ _ | refine blk_drew ?_ | refine blk_alloc ?_ _)); exact BK116.out)) : gb117 ≠ gb116)); clear BK116; clear HB; have BK116 := n0_; have HB := n1_; have BK117 := n2_; have GW117 := n3_; have GE117 := n4_; have NB116_117 := n5_; have NB117_116 := n6_; clear n0_ n1_ n2_ n3_ n4_ n5_ n6_; clear hb hbox hg) | ((with_reducible refine gate_callee (f := 26) rfl ?_); refine goesL_ (some 17) rfl rfl Try.func26 (by kernel_rfl) rfl #[] rfl (by (try simp only [List.map_toArray, List.map_cons, List.map_nil]); first | done | rfl | (simp only [List.length_drop, List.length_take]; rfl)) ?_; (with_reducible refine (earshotlaw02_awake.calls k  t118 _ A4.out).mono ?_); rintro e w10 ⟨rfl, hb⟩; refine ⟨_, rfl, ?_⟩; have n0_ := Aside0.mk (blk_below (g := gb116) (o := .cells #[.int .i64 a0_0, .int .i64 a0_1] 47 (0, 0)) (by (with_reducible repeat (first | refine blk_drewN ?_ _ | refine blk_drew ?_ | refine blk_alloc ?_ _)); exact BK116.out) hb); have n1_ := Aside0.mk (blk_below (g := gb117) (o := .cells #[.int .i64 a2_0, .int .i64 a2_1] 47 (0, 0)) (by (with_reducible repeat (first | refine blk_drewN ?_ _ | refine blk_drew ?_ | refine blk_alloc ?_ _)); exact BK117.out) hb); have n2_ := Aside0.mk (below_step (by repeat (first | (with_reducible first | exact HB.out | apply below_alloc | apply pw_below_drewN | apply below_drew1 | refine below_set ?_ GE116.out | refine below_set ?_ GE117.out) | exact HB.out)) hb); clear BK116; clear BK117; clear HB; have BK116 := n0_; have BK117 := n1_; have HB := n2_; clear n0_ n1_ n2_; (try clear hb); (try clear hb2); (try clear hk); (try clear hi); have hnb11 := NB116_117.out; have hnc11 := NB117_116.out; have hcz12_0 : w10.cell? ⟨gb116, 0, none⟩ = some (.int .i64 a0_0) := (blk_cell BK116.out 0).trans rfl; have hcz12_1 : w10.cell? ⟨gb116, 1, none⟩ = some (.int .i64 a0_1) := (blk_cell BK116.out 1).trans rfl; have hfz12_0 := blk_frozen BK116.out 0; have hfz12_1 := blk_frozen BK116.out 1))
  (try simp only [Act.put, List.setIfInBounds_toArray, List.set_cons_zero, List.set_cons_succ])
  go_cut [10] (fun v10 wc => ∃ (kq : Nat) (x10_6 : Int), v10 = .int .i64 x10_6 ∧ Aside0 (earshotlaw02_RoundOrder.j0 kq t118 ji5 ji6 x10_6 a2_0 a2_1 = some r) ∧ Aside0 (kq ≤ k) ∧ Aside0 (wc.heap[gb116]? = some (.cells #[.int .i64 a0_0, .int .i64 a0_1] 47 (0, 0))) ∧ Aside0 (wc.heap[gb117]? = some (.cells #[.int .i64 a2_0, .int .i64 a2_1] 47 (0, 0))) ∧ Aside0 (Below w.heap.size w wc))
  case first =>
    have H := HC7.out
    clear HC7
    by_cases c13 : (Go.bits .and .i64 a1 4611686018427387903) = 0
    · rw [if_pos c13] at H
      have c13b0 : ((Go.bits .and .i64 a1 4611686018427387903) == 0) = true := beq_iff_eq.mpr c13
      have c13b1 : ((Go.bits .and .i64 a1 4611686018427387903) != 0) = false := bne_eq_false_iff_eq.mpr c13
      clear c13
      (first | rw [c13b0] | (simp only [i64_w, i32_w]; rw [c13b0]) | skip)
      have H' := Aside0.mk H
      clear H
      go_wp2
      go_meet
      case rel => exact ⟨_, (1), (by first | rfl | (simp; done) | (simp [*]; done)), H', ⟨by first | omega | exact Nat.le_refl _⟩, ⟨by (with_reducible repeat (first | refine blk_drewN ?_ _ | refine blk_drew ?_ | refine blk_alloc ?_ _)); exact BK116.out⟩, ⟨by (with_reducible repeat (first | refine blk_drewN ?_ _ | refine blk_drew ?_ | refine blk_alloc ?_ _)); exact BK117.out⟩, ⟨by repeat (first | (with_reducible first | exact HB.out | apply below_alloc | apply pw_below_drewN | apply below_drew1 | refine below_set ?_ GE116.out | refine below_set ?_ GE117.out) | exact HB.out)⟩⟩
    · rw [if_neg c13] at H
      have c13b0 : ((Go.bits .and .i64 a1 4611686018427387903) == 0) = false := beq_eq_false_iff_ne.mpr c13
      have c13b1 : ((Go.bits .and .i64 a1 4611686018427387903) != 0) = true := bne_iff_ne.mpr c13
      (first | rw [c13b0] | (simp only [i64_w, i32_w]; rw [c13b0]) | skip)
      have H' := Aside0.mk H
      clear H
      go_wp2
      go_meet
      case rel => exact ⟨_, (Go.bits .and .i64 a1 4611686018427387903), (by first | rfl | (simp; done) | (simp [*]; done)), H', ⟨by first | omega | exact Nat.le_refl _⟩, ⟨by (with_reducible repeat (first | refine blk_drewN ?_ _ | refine blk_drew ?_ | refine blk_alloc ?_ _)); exact BK116.out⟩, ⟨by (with_reducible repeat (first | refine blk_drewN ?_ _ | refine blk_drew ?_ | refine blk_alloc ?_ _)); exact BK117.out⟩, ⟨by repeat (first | (with_reducible first | exact HB.out | apply below_alloc | apply pw_below_drewN | apply below_drew1 | refine below_set ?_ GE116.out | refine below_set ?_ GE117.out) | exact HB.out)⟩⟩
  case rest =>
    clear HC7
    try clear c1
    try clear c2
    try clear p2
    try clear c9
    try clear c11
    try clear c13
    try clear c13b0
    try clear c13b1
    try clear hcz12_0
    try clear hcz12_1
    try clear hfz12_0
    try clear hfz12_1
    obtain ⟨kq, x10_6, rfl, HA, HJ6, BK116, BK117, HB⟩ := hcut
    cases kq with
    | zero => exact absurd HA.out (by simp [earshotlaw02_RoundOrder.j0])
    | succ kj6 =>
      have H := HA.out
      clear HA
      simp only [earshotlaw02_RoundOrder.j0] at H
      replace H := Option.bind_eq_some_iff.mp H
      obtain ⟨⟨t119, t120⟩, A140, H⟩ := H
      replace H : ((round_Parts.f ji6 x10_6).bind fun bt121 => (if t120 < 0 then (earshotlaw02_RoundOrder.j1 kj6 t118 ji5 ji6 x10_6 (Int.tmod (wrap64 ((Int.tmod a2_0 31) + 31)) 31) (Go.bits .and .i64 a2_1 32767) true) else (if t120 ≥ x10_6 then (earshotlaw02_RoundOrder.j1 kj6 t118 ji5 ji6 x10_6 (Int.tmod (wrap64 ((Int.tmod a2_0 31) + 31)) 31) (Go.bits .and .i64 a2_1 32767) true) else (if bt121.2 < 0 then (earshotlaw02_RoundOrder.j1 kj6 t118 ji5 ji6 x10_6 (Int.tmod (wrap64 ((Int.tmod a2_0 31) + 31)) 31) (Go.bits .and .i64 a2_1 32767) true) else (if bt121.2 ≥ x10_6 then (earshotlaw02_RoundOrder.j1 kj6 t118 ji5 ji6 x10_6 (Int.tmod (wrap64 ((Int.tmod a2_0 31) + 31)) 31) (Go.bits .and .i64 a2_1 32767) true) else (if t119 > bt121.1 then (earshotlaw02_RoundOrder.j1 kj6 t118 ji5 ji6 x10_6 (Int.tmod (wrap64 ((Int.tmod a2_0 31) + 31)) 31) (Go.bits .and .i64 a2_1 32767) true) else (if t119 = bt121.1 then (if t120 > bt121.2 then (earshotlaw02_RoundOrder.j1 kj6 t118 ji5 ji6 x10_6 (Int.tmod (wrap64 ((Int.tmod a2_0 31) + 31)) 31) (Go.bits .and .i64 a2_1 32767) true) else (earshotlaw02_RoundOrder.j1 kj6 t118 ji5 ji6 x10_6 (Int.tmod (wrap64 ((Int.tmod a2_0 31) + 31)) 31) (Go.bits .and .i64 a2_1 32767) ((wrap64 ((wrap64 (t119 * x10_6)) + t120)) != ji5))) else (earshotlaw02_RoundOrder.j1 kj6 t118 ji5 ji6 x10_6 (Int.tmod (wrap64 ((Int.tmod a2_0 31) + 31)) 31) (Go.bits .and .i64 a2_1 32767) ((wrap64 ((wrap64 (t119 * x10_6)) + t120)) != ji5))))))))) = some r := H
      have A14 := Aside0.mk A140
      clear A140
      replace H := Option.bind_eq_some_iff.mp H
      obtain ⟨⟨t121, t122⟩, A150, H⟩ := H
      replace H : (if t120 < 0 then (earshotlaw02_RoundOrder.j1 kj6 t118 ji5 ji6 x10_6 (Int.tmod (wrap64 ((Int.tmod a2_0 31) + 31)) 31) (Go.bits .and .i64 a2_1 32767) true) else (if t120 ≥ x10_6 then (earshotlaw02_RoundOrder.j1 kj6 t118 ji5 ji6 x10_6 (Int.tmod (wrap64 ((Int.tmod a2_0 31) + 31)) 31) (Go.bits .and .i64 a2_1 32767) true) else (if t122 < 0 then (earshotlaw02_RoundOrder.j1 kj6 t118 ji5 ji6 x10_6 (Int.tmod (wrap64 ((Int.tmod a2_0 31) + 31)) 31) (Go.bits .and .i64 a2_1 32767) true) else (if t122 ≥ x10_6 then (earshotlaw02_RoundOrder.j1 kj6 t118 ji5 ji6 x10_6 (Int.tmod (wrap64 ((Int.tmod a2_0 31) + 31)) 31) (Go.bits .and .i64 a2_1 32767) true) else (if t119 > t121 then (earshotlaw02_RoundOrder.j1 kj6 t118 ji5 ji6 x10_6 (Int.tmod (wrap64 ((Int.tmod a2_0 31) + 31)) 31) (Go.bits .and .i64 a2_1 32767) true) else (if t119 = t121 then (if t120 > t122 then (earshotlaw02_RoundOrder.j1 kj6 t118 ji5 ji6 x10_6 (Int.tmod (wrap64 ((Int.tmod a2_0 31) + 31)) 31) (Go.bits .and .i64 a2_1 32767) true) else (earshotlaw02_RoundOrder.j1 kj6 t118 ji5 ji6 x10_6 (Int.tmod (wrap64 ((Int.tmod a2_0 31) + 31)) 31) (Go.bits .and .i64 a2_1 32767) ((wrap64 ((wrap64 (t119 * x10_6)) + t120)) != ji5))) else (earshotlaw02_RoundOrder.j1 kj6 t118 ji5 ji6 x10_6 (Int.tmod (wrap64 ((Int.tmod a2_0 31) + 31)) 31) (Go.bits .and .i64 a2_1 32767) ((wrap64 ((wrap64 (t119 * x10_6)) + t120)) != ji5)))))))) = some r := H
      have A15 := Aside0.mk A150
      clear A150
      have HC16 := Aside0.mk H
      clear H
      have hnb17 := NB117_116.out
      have hnc17 := NB116_117.out
      have hcz18_0 : wc.cell? ⟨gb117, 0, none⟩ = some (.int .i64 a2_0) := (blk_cell BK117.out 0).trans rfl
      have hcz18_1 : wc.cell? ⟨gb117, 1, none⟩ = some (.int .i64 a2_1) := (blk_cell BK117.out 1).trans rfl
      have hfz18_0 := blk_frozen BK117.out 0
      have hfz18_1 := blk_frozen BK117.out 1
      go_upto_region 11 with (first | ((with_reducible refine gate_callee (f := 29) rfl ?_); refine goesL_ (some 43) rfl rfl Try.func29 (by kernel_rfl) rfl #[.int .i64 ji5, .int .i64 x10_6] rfl (by (try simp only [List.map_toArray, List.map_cons, List.map_nil]); first | done | (simp only [hji5]; rfl) | rfl | (simp only [List.length_drop, List.length_take]; rfl)) ?_; (with_reducible refine (round_Parts.calls ji5 x10_6 t119 t120 _ A14.out).mono ?_); rintro e w' ⟨rfl, ⟨nd, rfl⟩⟩; refine ⟨_, rfl, ?_⟩) | ((with_reducible refine gate_callee (f := 29) rfl ?_); refine goesL_ (some 49) rfl rfl Try.func29 (by kernel_rfl) rfl #[.int .i64 ji6, .int .i64 x10_6] rfl (by (try simp only [List.map_toArray, List.map_cons, List.map_nil]); first | done | (simp only [hji6]; rfl) | rfl | (simp only [List.length_drop, List.length_take]; rfl)) ?_; (with_reducible refine (round_Parts.calls ji6 x10_6 t121 t122 _ A15.out).mono ?_); rintro e w' ⟨rfl, ⟨nd, rfl⟩⟩; refine ⟨_, rfl, ?_⟩))
      (try simp only [Act.put, List.setIfInBounds_toArray, List.set_cons_zero, List.set_cons_succ])
      go_cut [91] (fun v91 wc => ∃ (kq : Nat) (x91_15 : Bool), v91 = .bool x91_15 ∧ Aside0 (earshotlaw02_RoundOrder.j1 kq t118 ji5 ji6 x10_6 (Int.tmod (wrap64 ((Int.tmod a2_0 31) + 31)) 31) (Go.bits .and .i64 a2_1 32767) x91_15 = some r) ∧ Aside0 (kq ≤ kj6) ∧ Aside0 (wc.heap[gb116]? = some (.cells #[.int .i64 a0_0, .int .i64 a0_1] 47 (0, 0))) ∧ Aside0 (wc.heap[gb117]? = some (.cells #[.int .i64 a2_0, .int .i64 a2_1] 47 (0, 0))) ∧ Aside0 (Below w.heap.size w wc))
      case first =>
        have H := HC16.out
        clear HC16
        by_cases c19 : t120 < 0
        · rw [if_pos c19] at H
          have c19b0 : decide (t120 < 0) = true := decide_eq_true c19
          clear c19
          (first | rw [c19b0] | (simp only [i64_w, i32_w]; rw [c19b0]) | skip)
          have H' := Aside0.mk H
          clear H
          go_wp2
          go_meet
          case rel => exact ⟨_, (true), (by first | rfl | (simp; done) | (simp [*]; done)), H', ⟨by have := HJ6.out; first | omega | exact Nat.le_refl _⟩, ⟨by (with_reducible repeat (first | refine blk_drewN ?_ _ | refine blk_drew ?_ | refine blk_alloc ?_ _)); exact BK116.out⟩, ⟨by (with_reducible repeat (first | refine blk_drewN ?_ _ | refine blk_drew ?_ | refine blk_alloc ?_ _)); exact BK117.out⟩, ⟨by repeat (first | (with_reducible first | exact HB.out | apply below_alloc | apply pw_below_drewN | apply below_drew1 | refine below_set ?_ GE116.out | refine below_set ?_ GE117.out) | exact HB.out)⟩⟩
        · rw [if_neg c19] at H
          have c19b0 : decide (t120 < 0) = false := decide_eq_false c19
          clear c19
          (first | rw [c19b0] | (simp only [i64_w, i32_w]; rw [c19b0]) | skip)
          by_cases c20 : t120 ≥ x10_6
          · rw [if_pos c20] at H
            have c20b0 : decide (x10_6 ≤ t120) = true := decide_eq_true c20
            clear c20
            have H' := Aside0.mk H
            clear H
            go_wp2
            go_meet
            case rel => exact ⟨_, (true), (by first | rfl | (simp; done) | (simp [*]; done)), H', ⟨by have := HJ6.out; first | omega | exact Nat.le_refl _⟩, ⟨by (with_reducible repeat (first | refine blk_drewN ?_ _ | refine blk_drew ?_ | refine blk_alloc ?_ _)); exact BK116.out⟩, ⟨by (with_reducible repeat (first | refine blk_drewN ?_ _ | refine blk_drew ?_ | refine blk_alloc ?_ _)); exact BK117.out⟩, ⟨by repeat (first | (with_reducible first | exact HB.out | apply below_alloc | apply pw_below_drewN | apply below_drew1 | refine below_set ?_ GE116.out | refine below_set ?_ GE117.out) | exact HB.out)⟩⟩
          · rw [if_neg c20] at H
            have c20b0 : decide (x10_6 ≤ t120) = false := decide_eq_false c20
            clear c20
            by_cases c21 : t122 < 0
            · rw [if_pos c21] at H
              have c21b0 : decide (t122 < 0) = true := decide_eq_true c21
              clear c21
              have H' := Aside0.mk H
              clear H
              go_wp2
              go_meet
              case rel => exact ⟨_, (true), (by first | rfl | (simp; done) | (simp [*]; done)), H', ⟨by have := HJ6.out; first | omega | exact Nat.le_refl _⟩, ⟨by (with_reducible repeat (first | refine blk_drewN ?_ _ | refine blk_drew ?_ | refine blk_alloc ?_ _)); exact BK116.out⟩, ⟨by (with_reducible repeat (first | refine blk_drewN ?_ _ | refine blk_drew ?_ | refine blk_alloc ?_ _)); exact BK117.out⟩, ⟨by repeat (first | (with_reducible first | exact HB.out | apply below_alloc | apply pw_below_drewN | apply below_drew1 | refine below_set ?_ GE116.out | refine below_set ?_ GE117.out) | exact HB.out)⟩⟩
            · rw [if_neg c21] at H
              have c21b0 : decide (t122 < 0) = false := decide_eq_false c21
              clear c21
              by_cases c22 : t122 ≥ x10_6
              · rw [if_pos c22] at H
                have c22b0 : decide (x10_6 ≤ t122) = true := decide_eq_true c22
                clear c22
                have H' := Aside0.mk H
                clear H
                go_wp2
                go_meet
                case rel => exact ⟨_, (true), (by first | rfl | (simp; done) | (simp [*]; done)), H', ⟨by have := HJ6.out; first | omega | exact Nat.le_refl _⟩, ⟨by (with_reducible repeat (first | refine blk_drewN ?_ _ | refine blk_drew ?_ | refine blk_alloc ?_ _)); exact BK116.out⟩, ⟨by (with_reducible repeat (first | refine blk_drewN ?_ _ | refine blk_drew ?_ | refine blk_alloc ?_ _)); exact BK117.out⟩, ⟨by repeat (first | (with_reducible first | exact HB.out | apply below_alloc | apply pw_below_drewN | apply below_drew1 | refine below_set ?_ GE116.out | refine below_set ?_ GE117.out) | exact HB.out)⟩⟩
              · rw [if_neg c22] at H
                have c22b0 : decide (x10_6 ≤ t122) = false := decide_eq_false c22
                clear c22
                by_cases c23 : t119 > t121
                · rw [if_pos c23] at H
                  have c23b0 : decide (t121 < t119) = true := decide_eq_true c23
                  clear c23
                  have H' := Aside0.mk H
                  clear H
                  go_wp2
                  go_meet
                  case rel => exact ⟨_, (true), (by first | rfl | (simp; done) | (simp [*]; done)), H', ⟨by have := HJ6.out; first | omega | exact Nat.le_refl _⟩, ⟨by (with_reducible repeat (first | refine blk_drewN ?_ _ | refine blk_drew ?_ | refine blk_alloc ?_ _)); exact BK116.out⟩, ⟨by (with_reducible repeat (first | refine blk_drewN ?_ _ | refine blk_drew ?_ | refine blk_alloc ?_ _)); exact BK117.out⟩, ⟨by repeat (first | (with_reducible first | exact HB.out | apply below_alloc | apply pw_below_drewN | apply below_drew1 | refine below_set ?_ GE116.out | refine below_set ?_ GE117.out) | exact HB.out)⟩⟩
                · rw [if_neg c23] at H
                  have c23b0 : decide (t121 < t119) = false := decide_eq_false c23
                  clear c23
                  by_cases c24 : t119 = t121
                  · rw [if_pos c24] at H
                    have c24b0 : (t119 == t121) = true := beq_iff_eq.mpr c24
                    have c24b1 : (t119 != t121) = false := bne_eq_false_iff_eq.mpr c24
                    clear c24
                    by_cases c25 : t120 > t122
                    · rw [if_pos c25] at H
                      have c25b0 : decide (t122 < t120) = true := decide_eq_true c25
                      clear c25
                      have H' := Aside0.mk H
                      clear H
                      go_wp2
                      go_meet
                      case rel => exact ⟨_, (true), (by first | rfl | (simp; done) | (simp [*]; done)), H', ⟨by have := HJ6.out; first | omega | exact Nat.le_refl _⟩, ⟨by (with_reducible repeat (first | refine blk_drewN ?_ _ | refine blk_drew ?_ | refine blk_alloc ?_ _)); exact BK116.out⟩, ⟨by (with_reducible repeat (first | refine blk_drewN ?_ _ | refine blk_drew ?_ | refine blk_alloc ?_ _)); exact BK117.out⟩, ⟨by repeat (first | (with_reducible first | exact HB.out | apply below_alloc | apply pw_below_drewN | apply below_drew1 | refine below_set ?_ GE116.out | refine below_set ?_ GE117.out) | exact HB.out)⟩⟩
                    · rw [if_neg c25] at H
                      have c25b0 : decide (t122 < t120) = false := decide_eq_false c25
                      clear c25
                      have H' := Aside0.mk H
                      clear H
                      go_wp2
                      go_meet
                      case rel => exact ⟨_, (((wrap64 ((wrap64 (t119 * x10_6)) + t120)) != ji5)), (by first | rfl | (simp; done) | (simp only [← hji5] <;> (first | rfl | simp)) | (simp [*]; done)), H', ⟨by have := HJ6.out; first | omega | exact Nat.le_refl _⟩, ⟨by (with_reducible repeat (first | refine blk_drewN ?_ _ | refine blk_drew ?_ | refine blk_alloc ?_ _)); exact BK116.out⟩, ⟨by (with_reducible repeat (first | refine blk_drewN ?_ _ | refine blk_drew ?_ | refine blk_alloc ?_ _)); exact BK117.out⟩, ⟨by repeat (first | (with_reducible first | exact HB.out | apply below_alloc | apply pw_below_drewN | apply below_drew1 | refine below_set ?_ GE116.out | refine below_set ?_ GE117.out) | exact HB.out)⟩⟩
                  · rw [if_neg c24] at H
                    have c24b0 : (t119 == t121) = false := beq_eq_false_iff_ne.mpr c24
                    have c24b1 : (t119 != t121) = true := bne_iff_ne.mpr c24
                    have H' := Aside0.mk H
                    clear H
                    go_wp2
                    go_meet
                    case rel => exact ⟨_, (((wrap64 ((wrap64 (t119 * x10_6)) + t120)) != ji5)), (by first | rfl | (simp; done) | (simp only [← hji5] <;> (first | rfl | simp)) | (simp [*]; done)), H', ⟨by have := HJ6.out; first | omega | exact Nat.le_refl _⟩, ⟨by (with_reducible repeat (first | refine blk_drewN ?_ _ | refine blk_drew ?_ | refine blk_alloc ?_ _)); exact BK116.out⟩, ⟨by (with_reducible repeat (first | refine blk_drewN ?_ _ | refine blk_drew ?_ | refine blk_alloc ?_ _)); exact BK117.out⟩, ⟨by repeat (first | (with_reducible first | exact HB.out | apply below_alloc | apply pw_below_drewN | apply below_drew1 | refine below_set ?_ GE116.out | refine below_set ?_ GE117.out) | exact HB.out)⟩⟩
      case rest =>
        clear HC16
        try clear c1
        try clear c2
        try clear p2
        try clear p6
        try clear c9
        try clear c11
        try clear c13
        try clear c13b0
        try clear c13b1
        try clear c17
        try clear c19
        try clear c19b0
        try clear c20
        try clear c20b0
        try clear c21
        try clear c21b0
        try clear c22
        try clear c22b0
        try clear c23
        try clear c23b0
        try clear c24
        try clear c24b0
        try clear c24b1
        try clear c25
        try clear c25b0
        try clear hcz12_0
        try clear hcz12_1
        try clear hcz18_0
        try clear hcz18_1
        try clear hfz12_0
        try clear hfz12_1
        try clear hfz18_0
        try clear hfz18_1
        try clear p2
        obtain ⟨kq, x91_15, rfl, HA, HJ15, BK116, BK117, HB⟩ := hcut
        cases kq with
        | zero => exact absurd HA.out (by simp [earshotlaw02_RoundOrder.j1])
        | succ kj15 =>
          have H := HA.out
          clear HA
          simp only [earshotlaw02_RoundOrder.j1] at H
          by_cases c26 : x91_15 = true
          · subst c26
            have H1 : (some false) = some r := by rw [if_pos rfl] at H; exact H
            clear H
            have H := H1
            clear H1
            obtain rfl := Option.some.inj H
            go_wp2
            go_ret
            exact ⟨by first | rfl | (simp only [Int.tdiv_eq_ediv_of_nonneg (show (0 : Int) ≤ 9223372036854775807 by decide), Int.tdiv_eq_ediv_of_nonneg (show (0 : Int) ≤ 9223372036854775808 by decide)] <;> rfl) | (simp [errW_none, errW_some] <;> rfl) | (simp only [← hji5, ← hji6]; first | rfl | (simp [errW_none, errW_some] <;> rfl)) | (simp [*, errW_none, errW_some] <;> rfl), by repeat (first | (with_reducible first | exact HB.out | apply below_alloc | apply pw_below_drewN | apply below_drew1 | refine below_set ?_ GE116.out | refine below_set ?_ GE117.out) | exact HB.out)⟩
          · replace c26 := Bool.eq_false_iff.mpr c26
            subst c26
            have H1 : (if t118 = true then ((round_Div.f ji5 x10_6).bind fun t123 => ((round_Div.f ji6 x10_6).bind fun t124 => (if t123 ≤ t124 then ((round_Half.f ji5 (Int.tmod (wrap64 ((Int.tmod a2_0 31) + 31)) 31)).bind fun t125 => ((round_Half.f ji6 (Int.tmod (wrap64 ((Int.tmod a2_0 31) + 31)) 31)).bind fun t126 => (if t125 ≤ t126 then ((round_Scale.f kj15 ji5 (Go.bits .and .i64 a2_1 32767) (Int.tmod (wrap64 ((Int.tmod a2_0 31) + 31)) 31)).bind fun t127 => ((round_Scale.f kj15 ji6 (Go.bits .and .i64 a2_1 32767) (Int.tmod (wrap64 ((Int.tmod a2_0 31) + 31)) 31)).bind fun t128 => (some (decide (t127 ≤ t128))))) else (some false)))) else (some false)))) else (some false)) = some r := by rw [if_neg (show ¬ (false = true) by decide)] at H; exact H
            clear H
            have H := H1
            clear H1
            by_cases c27 : t118 = true
            · subst c27
              have H1 : ((round_Div.f ji5 x10_6).bind fun t123 => ((round_Div.f ji6 x10_6).bind fun t124 => (if t123 ≤ t124 then ((round_Half.f ji5 (Int.tmod (wrap64 ((Int.tmod a2_0 31) + 31)) 31)).bind fun t125 => ((round_Half.f ji6 (Int.tmod (wrap64 ((Int.tmod a2_0 31) + 31)) 31)).bind fun t126 => (if t125 ≤ t126 then ((round_Scale.f kj15 ji5 (Go.bits .and .i64 a2_1 32767) (Int.tmod (wrap64 ((Int.tmod a2_0 31) + 31)) 31)).bind fun t127 => ((round_Scale.f kj15 ji6 (Go.bits .and .i64 a2_1 32767) (Int.tmod (wrap64 ((Int.tmod a2_0 31) + 31)) 31)).bind fun t128 => (some (decide (t127 ≤ t128))))) else (some false)))) else (some false)))) = some r := by rw [if_pos rfl] at H; exact H
              clear H
              have H := H1
              clear H1
              replace H := Option.bind_eq_some_iff.mp H
              obtain ⟨t123, A280, H⟩ := H
              replace H : ((round_Div.f ji6 x10_6).bind fun t124 => (if t123 ≤ t124 then ((round_Half.f ji5 (Int.tmod (wrap64 ((Int.tmod a2_0 31) + 31)) 31)).bind fun t125 => ((round_Half.f ji6 (Int.tmod (wrap64 ((Int.tmod a2_0 31) + 31)) 31)).bind fun t126 => (if t125 ≤ t126 then ((round_Scale.f kj15 ji5 (Go.bits .and .i64 a2_1 32767) (Int.tmod (wrap64 ((Int.tmod a2_0 31) + 31)) 31)).bind fun t127 => ((round_Scale.f kj15 ji6 (Go.bits .and .i64 a2_1 32767) (Int.tmod (wrap64 ((Int.tmod a2_0 31) + 31)) 31)).bind fun t128 => (some (decide (t127 ≤ t128))))) else (some false)))) else (some false))) = some r := H
              have A28 := Aside0.mk A280
              clear A280
              replace H := Option.bind_eq_some_iff.mp H
              obtain ⟨t124, A290, H⟩ := H
              replace H : (if t123 ≤ t124 then ((round_Half.f ji5 (Int.tmod (wrap64 ((Int.tmod a2_0 31) + 31)) 31)).bind fun t125 => ((round_Half.f ji6 (Int.tmod (wrap64 ((Int.tmod a2_0 31) + 31)) 31)).bind fun t126 => (if t125 ≤ t126 then ((round_Scale.f kj15 ji5 (Go.bits .and .i64 a2_1 32767) (Int.tmod (wrap64 ((Int.tmod a2_0 31) + 31)) 31)).bind fun t127 => ((round_Scale.f kj15 ji6 (Go.bits .and .i64 a2_1 32767) (Int.tmod (wrap64 ((Int.tmod a2_0 31) + 31)) 31)).bind fun t128 => (some (decide (t127 ≤ t128))))) else (some false)))) else (some false)) = some r := H
              have A29 := Aside0.mk A290
              clear A290
              by_cases c30 : t123 ≤ t124
              · rw [if_pos c30] at H
                have c30b0 : decide (t123 ≤ t124) = true := decide_eq_true c30
                clear c30
                replace H := Option.bind_eq_some_iff.mp H
                obtain ⟨t125, A310, H⟩ := H
                replace H : ((round_Half.f ji6 (Int.tmod (wrap64 ((Int.tmod a2_0 31) + 31)) 31)).bind fun t126 => (if t125 ≤ t126 then ((round_Scale.f kj15 ji5 (Go.bits .and .i64 a2_1 32767) (Int.tmod (wrap64 ((Int.tmod a2_0 31) + 31)) 31)).bind fun t127 => ((round_Scale.f kj15 ji6 (Go.bits .and .i64 a2_1 32767) (Int.tmod (wrap64 ((Int.tmod a2_0 31) + 31)) 31)).bind fun t128 => (some (decide (t127 ≤ t128))))) else (some false))) = some r := H
                have A31 := Aside0.mk A310
                clear A310
                replace H := Option.bind_eq_some_iff.mp H
                obtain ⟨t126, A320, H⟩ := H
                replace H : (if t125 ≤ t126 then ((round_Scale.f kj15 ji5 (Go.bits .and .i64 a2_1 32767) (Int.tmod (wrap64 ((Int.tmod a2_0 31) + 31)) 31)).bind fun t127 => ((round_Scale.f kj15 ji6 (Go.bits .and .i64 a2_1 32767) (Int.tmod (wrap64 ((Int.tmod a2_0 31) + 31)) 31)).bind fun t128 => (some (decide (t127 ≤ t128))))) else (some false)) = some r := H
                have A32 := Aside0.mk A320
                clear A320
                by_cases c33 : t125 ≤ t126
                · rw [if_pos c33] at H
                  have c33b0 : decide (t125 ≤ t126) = true := decide_eq_true c33
                  clear c33
                  replace H := Option.bind_eq_some_iff.mp H
                  obtain ⟨t127, A340, H⟩ := H
                  replace H : ((round_Scale.f kj15 ji6 (Go.bits .and .i64 a2_1 32767) (Int.tmod (wrap64 ((Int.tmod a2_0 31) + 31)) 31)).bind fun t128 => (some (decide (t127 ≤ t128)))) = some r := H
                  have A34 := Aside0.mk A340
                  clear A340
                  replace H := Option.bind_eq_some_iff.mp H
                  obtain ⟨t128, A350, H⟩ := H
                  replace H : (some (decide (t127 ≤ t128))) = some r := H
                  have A35 := Aside0.mk A350
                  clear A350
                  obtain rfl := Option.some.inj H
                  go_wp2_with (first | (go_at_call 27; (with_reducible refine (round_Div.calls ji5 x10_6 t123 _ A28.out).mono ?_); rintro e w36 ⟨rfl, hb⟩; have n0_ := Aside0.mk (blk_below (g := gb116) (o := .cells #[.int .i64 a0_0, .int .i64 a0_1] 47 (0, 0)) (by (with_reducible repeat (first | refine blk_drewN ?_ _ | refine blk_drew ?_ | refine blk_alloc ?_ _)); exact BK116.out) hb); have n1_ := Aside0.mk (blk_below (g := gb117) (o := .cells #[.int .i64 a2_0, .int .i64 a2_1] 47 (0, 0)) (by (with_reducible repeat (first | refine blk_drewN ?_ _ | refine blk_drew ?_ | refine blk_alloc ?_ _)); exact BK117.out) hb); have n2_ := Aside0.mk (below_step (by repeat (first | (with_reducible first | exact HB.out | apply below_alloc | apply pw_below_drewN | apply below_drew1 | refine below_set ?_ GE116.out | refine below_set ?_ GE117.out) | exact HB.out)) hb); clear BK116; clear BK117; clear HB; have BK116 := n0_; have BK117 := n1_; have HB := n2_; clear n0_ n1_ n2_; (try clear hb); (try clear hb2); (try clear hk); (try clear hi)) | (go_at_call 27; (with_reducible refine (round_Div.calls ji6 x10_6 t124 _ A29.out).mono ?_); rintro e w37 ⟨rfl, hb⟩; have n0_ := Aside0.mk (blk_below (g := gb116) (o := .cells #[.int .i64 a0_0, .int .i64 a0_1] 47 (0, 0)) (by (with_reducible repeat (first | refine blk_drewN ?_ _ | refine blk_drew ?_ | refine blk_alloc ?_ _)); exact BK116.out) hb); have n1_ := Aside0.mk (blk_below (g := gb117) (o := .cells #[.int .i64 a2_0, .int .i64 a2_1] 47 (0, 0)) (by (with_reducible repeat (first | refine blk_drewN ?_ _ | refine blk_drew ?_ | refine blk_alloc ?_ _)); exact BK117.out) hb); have n2_ := Aside0.mk (below_step (by repeat (first | (with_reducible first | exact HB.out | apply below_alloc | apply pw_below_drewN | apply below_drew1 | refine below_set ?_ GE116.out | refine below_set ?_ GE117.out) | exact HB.out)) hb); clear BK116; clear BK117; clear HB; have BK116 := n0_; have BK117 := n1_; have HB := n2_; clear n0_ n1_ n2_; (try clear hb); (try clear hb2); (try clear hk); (try clear hi)) | (go_at_call 28; (with_reducible refine (round_Half.calls ji5 (Int.tmod (wrap64 ((Int.tmod a2_0 31) + 31)) 31) t125 _ A31.out).mono ?_); rintro e w38 ⟨rfl, hb⟩; have n0_ := Aside0.mk (blk_below (g := gb116) (o := .cells #[.int .i64 a0_0, .int .i64 a0_1] 47 (0, 0)) (by (with_reducible repeat (first | refine blk_drewN ?_ _ | refine blk_drew ?_ | refine blk_alloc ?_ _)); exact BK116.out) hb); have n1_ := Aside0.mk (blk_below (g := gb117) (o := .cells #[.int .i64 a2_0, .int .i64 a2_1] 47 (0, 0)) (by (with_reducible repeat (first | refine blk_drewN ?_ _ | refine blk_drew ?_ | refine blk_alloc ?_ _)); exact BK117.out) hb); have n2_ := Aside0.mk (below_step (by repeat (first | (with_reducible first | exact HB.out | apply below_alloc | apply pw_below_drewN | apply below_drew1 | refine below_set ?_ GE116.out | refine below_set ?_ GE117.out) | exact HB.out)) hb); clear BK116; clear BK117; clear HB; have BK116 := n0_; have BK117 := n1_; have HB := n2_; clear n0_ n1_ n2_; (try clear hb); (try clear hb2); (try clear hk); (try clear hi)) | (go_at_call 28; (with_reducible refine (round_Half.calls ji6 (Int.tmod (wrap64 ((Int.tmod a2_0 31) + 31)) 31) t126 _ A32.out).mono ?_); rintro e w39 ⟨rfl, hb⟩; have n0_ := Aside0.mk (blk_below (g := gb116) (o := .cells #[.int .i64 a0_0, .int .i64 a0_1] 47 (0, 0)) (by (with_reducible repeat (first | refine blk_drewN ?_ _ | refine blk_drew ?_ | refine blk_alloc ?_ _)); exact BK116.out) hb); have n1_ := Aside0.mk (blk_below (g := gb117) (o := .cells #[.int .i64 a2_0, .int .i64 a2_1] 47 (0, 0)) (by (with_reducible repeat (first | refine blk_drewN ?_ _ | refine blk_drew ?_ | refine blk_alloc ?_ _)); exact BK117.out) hb); have n2_ := Aside0.mk (below_step (by repeat (first | (with_reducible first | exact HB.out | apply below_alloc | apply pw_below_drewN | apply below_drew1 | refine below_set ?_ GE116.out | refine below_set ?_ GE117.out) | exact HB.out)) hb); clear BK116; clear BK117; clear HB; have BK116 := n0_; have BK117 := n1_; have HB := n2_; clear n0_ n1_ n2_; (try clear hb); (try clear hb2); (try clear hk); (try clear hi)) | (go_at_call 30; (with_reducible refine (round_Scale.calls kj15 ji5 (Go.bits .and .i64 a2_1 32767) (Int.tmod (wrap64 ((Int.tmod a2_0 31) + 31)) 31) t127 _ A34.out).mono ?_); rintro e w40 ⟨rfl, hb⟩; have n0_ := Aside0.mk (blk_below (g := gb116) (o := .cells #[.int .i64 a0_0, .int .i64 a0_1] 47 (0, 0)) (by (with_reducible repeat (first | refine blk_drewN ?_ _ | refine blk_drew ?_ | refine blk_alloc ?_ _)); exact BK116.out) hb); have n1_ := Aside0.mk (blk_below (g := gb117) (o := .cells #[.int .i64 a2_0, .int .i64 a2_1] 47 (0, 0)) (by (with_reducible repeat (first | refine blk_drewN ?_ _ | refine blk_drew ?_ | refine blk_alloc ?_ _)); exact BK117.out) hb); have n2_ := Aside0.mk (below_step (by repeat (first | (with_reducible first | exact HB.out | apply below_alloc | apply pw_below_drewN | apply below_drew1 | refine below_set ?_ GE116.out | refine below_set ?_ GE117.out) | exact HB.out)) hb); clear BK116; clear BK117; clear HB; have BK116 := n0_; have BK117 := n1_; have HB := n2_; clear n0_ n1_ n2_; (try clear hb); (try clear hb2); (try clear hk); (try clear hi)) | (go_at_call 30; (with_reducible refine (round_Scale.calls kj15 ji6 (Go.bits .and .i64 a2_1 32767) (Int.tmod (wrap64 ((Int.tmod a2_0 31) + 31)) 31) t128 _ A35.out).mono ?_); rintro e w41 ⟨rfl, hb⟩; have n0_ := Aside0.mk (blk_below (g := gb116) (o := .cells #[.int .i64 a0_0, .int .i64 a0_1] 47 (0, 0)) (by (with_reducible repeat (first | refine blk_drewN ?_ _ | refine blk_drew ?_ | refine blk_alloc ?_ _)); exact BK116.out) hb); have n1_ := Aside0.mk (blk_below (g := gb117) (o := .cells #[.int .i64 a2_0, .int .i64 a2_1] 47 (0, 0)) (by (with_reducible repeat (first | refine blk_drewN ?_ _ | refine blk_drew ?_ | refine blk_alloc ?_ _)); exact BK117.out) hb); have n2_ := Aside0.mk (below_step (by repeat (first | (with_reducible first | exact HB.out | apply below_alloc | apply pw_below_drewN | apply below_drew1 | refine below_set ?_ GE116.out | refine below_set ?_ GE117.out) | exact HB.out)) hb); clear BK116; clear BK117; clear HB; have BK116 := n0_; have BK117 := n1_; have HB := n2_; clear n0_ n1_ n2_; (try clear hb); (try clear hb2); (try clear hk); (try clear hi)))
                  go_ret
                  exact ⟨by first | rfl | (simp only [Int.tdiv_eq_ediv_of_nonneg (show (0 : Int) ≤ 9223372036854775807 by decide), Int.tdiv_eq_ediv_of_nonneg (show (0 : Int) ≤ 9223372036854775808 by decide)] <;> rfl) | (simp [errW_none, errW_some] <;> rfl) | (simp only [← hji5, ← hji6]; first | rfl | (simp [errW_none, errW_some] <;> rfl)) | (simp [*, errW_none, errW_some] <;> rfl), by repeat (first | (with_reducible first | exact HB.out | apply below_alloc | apply pw_below_drewN | apply below_drew1 | refine below_set ?_ GE116.out | refine below_set ?_ GE117.out) | exact HB.out)⟩
                · rw [if_neg c33] at H
                  have c33b0 : decide (t125 ≤ t126) = false := decide_eq_false c33
                  clear c33
                  obtain rfl := Option.some.inj H
                  go_wp2_with (first | (go_at_call 27; (with_reducible refine (round_Div.calls ji5 x10_6 t123 _ A28.out).mono ?_); rintro e w42 ⟨rfl, hb⟩; have n0_ := Aside0.mk (blk_below (g := gb116) (o := .cells #[.int .i64 a0_0, .int .i64 a0_1] 47 (0, 0)) (by (with_reducible repeat (first | refine blk_drewN ?_ _ | refine blk_drew ?_ | refine blk_alloc ?_ _)); exact BK116.out) hb); have n1_ := Aside0.mk (blk_below (g := gb117) (o := .cells #[.int .i64 a2_0, .int .i64 a2_1] 47 (0, 0)) (by (with_reducible repeat (first | refine blk_drewN ?_ _ | refine blk_drew ?_ | refine blk_alloc ?_ _)); exact BK117.out) hb); have n2_ := Aside0.mk (below_step (by repeat (first | (with_reducible first | exact HB.out | apply below_alloc | apply pw_below_drewN | apply below_drew1 | refine below_set ?_ GE116.out | refine below_set ?_ GE117.out) | exact HB.out)) hb); clear BK116; clear BK117; clear HB; have BK116 := n0_; have BK117 := n1_; have HB := n2_; clear n0_ n1_ n2_; (try clear hb); (try clear hb2); (try clear hk); (try clear hi)) | (go_at_call 27; (with_reducible refine (round_Div.calls ji6 x10_6 t124 _ A29.out).mono ?_); rintro e w43 ⟨rfl, hb⟩; have n0_ := Aside0.mk (blk_below (g := gb116) (o := .cells #[.int .i64 a0_0, .int .i64 a0_1] 47 (0, 0)) (by (with_reducible repeat (first | refine blk_drewN ?_ _ | refine blk_drew ?_ | refine blk_alloc ?_ _)); exact BK116.out) hb); have n1_ := Aside0.mk (blk_below (g := gb117) (o := .cells #[.int .i64 a2_0, .int .i64 a2_1] 47 (0, 0)) (by (with_reducible repeat (first | refine blk_drewN ?_ _ | refine blk_drew ?_ | refine blk_alloc ?_ _)); exact BK117.out) hb); have n2_ := Aside0.mk (below_step (by repeat (first | (with_reducible first | exact HB.out | apply below_alloc | apply pw_below_drewN | apply below_drew1 | refine below_set ?_ GE116.out | refine below_set ?_ GE117.out) | exact HB.out)) hb); clear BK116; clear BK117; clear HB; have BK116 := n0_; have BK117 := n1_; have HB := n2_; clear n0_ n1_ n2_; (try clear hb); (try clear hb2); (try clear hk); (try clear hi)) | (go_at_call 28; (with_reducible refine (round_Half.calls ji5 (Int.tmod (wrap64 ((Int.tmod a2_0 31) + 31)) 31) t125 _ A31.out).mono ?_); rintro e w44 ⟨rfl, hb⟩; have n0_ := Aside0.mk (blk_below (g := gb116) (o := .cells #[.int .i64 a0_0, .int .i64 a0_1] 47 (0, 0)) (by (with_reducible repeat (first | refine blk_drewN ?_ _ | refine blk_drew ?_ | refine blk_alloc ?_ _)); exact BK116.out) hb); have n1_ := Aside0.mk (blk_below (g := gb117) (o := .cells #[.int .i64 a2_0, .int .i64 a2_1] 47 (0, 0)) (by (with_reducible repeat (first | refine blk_drewN ?_ _ | refine blk_drew ?_ | refine blk_alloc ?_ _)); exact BK117.out) hb); have n2_ := Aside0.mk (below_step (by repeat (first | (with_reducible first | exact HB.out | apply below_alloc | apply pw_below_drewN | apply below_drew1 | refine below_set ?_ GE116.out | refine below_set ?_ GE117.out) | exact HB.out)) hb); clear BK116; clear BK117; clear HB; have BK116 := n0_; have BK117 := n1_; have HB := n2_; clear n0_ n1_ n2_; (try clear hb); (try clear hb2); (try clear hk); (try clear hi)) | (go_at_call 28; (with_reducible refine (round_Half.calls ji6 (Int.tmod (wrap64 ((Int.tmod a2_0 31) + 31)) 31) t126 _ A32.out).mono ?_); rintro e w45 ⟨rfl, hb⟩; have n0_ := Aside0.mk (blk_below (g := gb116) (o := .cells #[.int .i64 a0_0, .int .i64 a0_1] 47 (0, 0)) (by (with_reducible repeat (first | refine blk_drewN ?_ _ | refine blk_drew ?_ | refine blk_alloc ?_ _)); exact BK116.out) hb); have n1_ := Aside0.mk (blk_below (g := gb117) (o := .cells #[.int .i64 a2_0, .int .i64 a2_1] 47 (0, 0)) (by (with_reducible repeat (first | refine blk_drewN ?_ _ | refine blk_drew ?_ | refine blk_alloc ?_ _)); exact BK117.out) hb); have n2_ := Aside0.mk (below_step (by repeat (first | (with_reducible first | exact HB.out | apply below_alloc | apply pw_below_drewN | apply below_drew1 | refine below_set ?_ GE116.out | refine below_set ?_ GE117.out) | exact HB.out)) hb); clear BK116; clear BK117; clear HB; have BK116 := n0_; have BK117 := n1_; have HB := n2_; clear n0_ n1_ n2_; (try clear hb); (try clear hb2); (try clear hk); (try clear hi)))
                  go_ret
                  exact ⟨by first | rfl | (simp only [Int.tdiv_eq_ediv_of_nonneg (show (0 : Int) ≤ 9223372036854775807 by decide), Int.tdiv_eq_ediv_of_nonneg (show (0 : Int) ≤ 9223372036854775808 by decide)] <;> rfl) | (simp [errW_none, errW_some] <;> rfl) | (simp only [← hji5, ← hji6]; first | rfl | (simp [errW_none, errW_some] <;> rfl)) | (simp [*, errW_none, errW_some] <;> rfl), by repeat (first | (with_reducible first | exact HB.out | apply below_alloc | apply pw_below_drewN | apply below_drew1 | refine below_set ?_ GE116.out | refine below_set ?_ GE117.out) | exact HB.out)⟩
              · rw [if_neg c30] at H
                have c30b0 : decide (t123 ≤ t124) = false := decide_eq_false c30
                clear c30
                obtain rfl := Option.some.inj H
                go_wp2_with (first | (go_at_call 27; (with_reducible refine (round_Div.calls ji5 x10_6 t123 _ A28.out).mono ?_); rintro e w46 ⟨rfl, hb⟩; have n0_ := Aside0.mk (blk_below (g := gb116) (o := .cells #[.int .i64 a0_0, .int .i64 a0_1] 47 (0, 0)) (by (with_reducible repeat (first | refine blk_drewN ?_ _ | refine blk_drew ?_ | refine blk_alloc ?_ _)); exact BK116.out) hb); have n1_ := Aside0.mk (blk_below (g := gb117) (o := .cells #[.int .i64 a2_0, .int .i64 a2_1] 47 (0, 0)) (by (with_reducible repeat (first | refine blk_drewN ?_ _ | refine blk_drew ?_ | refine blk_alloc ?_ _)); exact BK117.out) hb); have n2_ := Aside0.mk (below_step (by repeat (first | (with_reducible first | exact HB.out | apply below_alloc | apply pw_below_drewN | apply below_drew1 | refine below_set ?_ GE116.out | refine below_set ?_ GE117.out) | exact HB.out)) hb); clear BK116; clear BK117; clear HB; have BK116 := n0_; have BK117 := n1_; have HB := n2_; clear n0_ n1_ n2_; (try clear hb); (try clear hb2); (try clear hk); (try clear hi)) | (go_at_call 27; (with_reducible refine (round_Div.calls ji6 x10_6 t124 _ A29.out).mono ?_); rintro e w47 ⟨rfl, hb⟩; have n0_ := Aside0.mk (blk_below (g := gb116) (o := .cells #[.int .i64 a0_0, .int .i64 a0_1] 47 (0, 0)) (by (with_reducible repeat (first | refine blk_drewN ?_ _ | refine blk_drew ?_ | refine blk_alloc ?_ _)); exact BK116.out) hb); have n1_ := Aside0.mk (blk_below (g := gb117) (o := .cells #[.int .i64 a2_0, .int .i64 a2_1] 47 (0, 0)) (by (with_reducible repeat (first | refine blk_drewN ?_ _ | refine blk_drew ?_ | refine blk_alloc ?_ _)); exact BK117.out) hb); have n2_ := Aside0.mk (below_step (by repeat (first | (with_reducible first | exact HB.out | apply below_alloc | apply pw_below_drewN | apply below_drew1 | refine below_set ?_ GE116.out | refine below_set ?_ GE117.out) | exact HB.out)) hb); clear BK116; clear BK117; clear HB; have BK116 := n0_; have BK117 := n1_; have HB := n2_; clear n0_ n1_ n2_; (try clear hb); (try clear hb2); (try clear hk); (try clear hi)))
                go_ret
                exact ⟨by first | rfl | (simp only [Int.tdiv_eq_ediv_of_nonneg (show (0 : Int) ≤ 9223372036854775807 by decide), Int.tdiv_eq_ediv_of_nonneg (show (0 : Int) ≤ 9223372036854775808 by decide)] <;> rfl) | (simp [errW_none, errW_some] <;> rfl) | (simp only [← hji5, ← hji6]; first | rfl | (simp [errW_none, errW_some] <;> rfl)) | (simp [*, errW_none, errW_some] <;> rfl), by repeat (first | (with_reducible first | exact HB.out | apply below_alloc | apply pw_below_drewN | apply below_drew1 | refine below_set ?_ GE116.out | refine below_set ?_ GE117.out) | exact HB.out)⟩
            · replace c27 := Bool.eq_false_iff.mpr c27
              subst c27
              have H1 : (some false) = some r := by rw [if_neg (show ¬ (false = true) by decide)] at H; exact H
              clear H
              have H := H1
              clear H1
              obtain rfl := Option.some.inj H
              go_wp2
              go_ret
              exact ⟨by first | rfl | (simp only [Int.tdiv_eq_ediv_of_nonneg (show (0 : Int) ≤ 9223372036854775807 by decide), Int.tdiv_eq_ediv_of_nonneg (show (0 : Int) ≤ 9223372036854775808 by decide)] <;> rfl) | (simp [errW_none, errW_some] <;> rfl) | (simp only [← hji5, ← hji6]; first | rfl | (simp [errW_none, errW_some] <;> rfl)) | (simp [*, errW_none, errW_some] <;> rfl), by repeat (first | (with_reducible first | exact HB.out | apply below_alloc | apply pw_below_drewN | apply below_drew1 | refine below_set ?_ GE116.out | refine below_set ?_ GE117.out) | exact HB.out)⟩

/-- THE ONE PURE STATEMENT of earshotlaw02_RoundOrder. -/
def earshotlaw02_RoundOrder.Pure : Prop := ∀ (a0_0 : Int) (a0_1 : Int) (a1 : Int) (a2_0 : Int) (a2_1 : Int), (Lit.int .i64 a0_0).wf = true → (Lit.int .i64 a0_1).wf = true → (Lit.int .i64 a1).wf = true → (Lit.int .i64 a2_0).wf = true → (Lit.int .i64 a2_1).wf = true → ∃ k, earshotlaw02_RoundOrder.f k a0_0 a0_1 a1 a2_0 a2_1 = some true
theorem earshotlaw02_RoundOrder.walk (P : earshotlaw02_RoundOrder.Pure) (a0_0 : Int) (a0_1 : Int) (a1 : Int) (a2_0 : Int) (a2_1 : Int) (w : World) (w0_0 : (Lit.int .i64 a0_0).wf = true) (w0_1 : (Lit.int .i64 a0_1).wf = true) (w1 : (Lit.int .i64 a1).wf = true) (w2_0 : (Lit.int .i64 a2_0).wf = true) (w2_1 : (Lit.int .i64 a2_1).wf = true) :
    Calls Try.prog 9 #[.agg #[.int .i64 a0_0, .int .i64 a0_1], .int .i64 a1, .agg #[.int .i64 a2_0, .int .i64 a2_1]] w fun e w' => e = .returned (.bool true) ∧ Below w.heap.size w w' := by
  obtain ⟨k, h⟩ := P a0_0 a0_1 a1 a2_0 a2_1 w0_0 w0_1 w1 w2_0 w2_1
  refine (earshotlaw02_RoundOrder.calls k a0_0 a0_1 a1 a2_0 a2_1 true w h).mono ?_
  rintro e w' ⟨rfl, hd⟩
  exact ⟨rfl, hd⟩

end Go.Proofs.Ytpaednaeehlofaa.PRoundOrder
