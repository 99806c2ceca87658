/- Written by xp.py, a program of this session: contracts of the Go functions that a law reaches: each call returns what the Lean function of its name tells. Conditions: those that each theorem names, none else. -/
import Derived.Test.YtpaednaeehlofaaPSatTellsx0
import Derived.Test.YtpaednaeehlofaaPSatTellsx1
namespace Go.Proofs.Ytpaednaeehlofaa.PSatTells
open Go.RowKit Go.Proofs.YtpaednaeehlofaaW.PrintWords Go.Proofs.YtpaednaeehlofaaW.PrintLast Go.Proofs.YtpaednaeehlofaaW.PrintMore
attribute [local go_sem] max2_int min2_int max_two min_two max_three min_three max_four min_four   -- for this text's walks alone
set_option linter.unusedVariables false
set_option linter.unusedSimpArgs false

/-! ### earshotref01_Mul: function 22 -/
mutual
def earshotref01_Mul.j0 : Nat → Int → Int → Bool → Option (Int × Bool)
  | 0, _, _, _ => none
  | k + 1, x0, x1, x11 => if x11 = true then (some (0, true)) else (if x0 = (-1) then (if x1 = (-9223372036854775808) then (earshotref01_Mul.j1 k x0 x1 true) else (if x1 = (-1) then (earshotref01_Mul.j1 k x0 x1 (x0 == (-9223372036854775808))) else (earshotref01_Mul.j1 k x0 x1 false))) else (if x1 = (-1) then (earshotref01_Mul.j1 k x0 x1 (x0 == (-9223372036854775808))) else (earshotref01_Mul.j1 k x0 x1 false)))
def earshotref01_Mul.j1 : Nat → Int → Int → Bool → Option (Int × Bool)
  | 0, _, _, _ => none
  | k + 1, x0, x1, x26 => if x26 = true then (some (0, false)) else (if x1 = 0 then (none) else (if (wrap64 (Int.tdiv (wrap64 (x0 * x1)) x1)) = x0 then (some (wrap64 (x0 * x1), true)) else (some (0, false))))
end
def earshotref01_Mul.f (k : Nat) (a0 : Int) (a1 : Int) : Option (Int × Bool) := if a0 = 0 then (earshotref01_Mul.j0 k a0 a1 true) else (earshotref01_Mul.j0 k a0 a1 (a1 == 0))
theorem earshotref01_Mul.mono_l : ∀ k, (∀ y0 y1 y2, LeO (earshotref01_Mul.j0 k y0 y1 y2) (earshotref01_Mul.j0 (k + 1) y0 y1 y2)) ∧ (∀ y0 y1 y2, LeO (earshotref01_Mul.j1 k y0 y1 y2) (earshotref01_Mul.j1 (k + 1) y0 y1 y2))
  | 0 => ⟨fun _ _ _ r h => by simp [earshotref01_Mul.j0] at h, fun _ _ _ r h => by simp [earshotref01_Mul.j1] at h⟩
  | k + 1 => by
    obtain ⟨ih0, ih1⟩ := earshotref01_Mul.mono_l k
    refine ⟨?_, ?_⟩
    · intro y0 y1 y2
      unfold earshotref01_Mul.j0
      repeat' first
      | (with_reducible exact ih0 _ _ _)
      | (with_reducible exact ih1 _ _ _)
      | (with_reducible exact LeO.refl _)
      | (with_reducible exact LeO.none _)
      | (with_reducible refine LeO.ite ?_ ?_)
      | (with_reducible refine LeO.bind ?_ (fun _ => ?_))
      | exact ih0 _ _ _
      | exact ih1 _ _ _
      | exact LeO.none _
      | refine LeO.ite ?_ ?_
      | refine LeO.bind ?_ (fun _ => ?_)
    · intro y0 y1 y2
      unfold earshotref01_Mul.j1
      repeat' first
      | (with_reducible exact ih0 _ _ _)
      | (with_reducible exact ih1 _ _ _)
      | (with_reducible exact LeO.refl _)
      | (with_reducible exact LeO.none _)
      | (with_reducible refine LeO.ite ?_ ?_)
      | (with_reducible refine LeO.bind ?_ (fun _ => ?_))
      | exact ih0 _ _ _
      | exact ih1 _ _ _
      | exact LeO.none _
      | refine LeO.ite ?_ ?_
      | refine LeO.bind ?_ (fun _ => ?_)
theorem earshotref01_Mul.mono : ∀ a0 a1 k, LeO (earshotref01_Mul.f k a0 a1) (earshotref01_Mul.f (k + 1) a0 a1) := by
  intro a0 a1 k
  obtain ⟨ih0, ih1⟩ := earshotref01_Mul.mono_l k
  unfold earshotref01_Mul.f
  repeat' first
      | (with_reducible exact ih0 _ _ _)
      | (with_reducible exact ih1 _ _ _)
      | (with_reducible exact LeO.refl _)
      | (with_reducible exact LeO.none _)
      | (with_reducible refine LeO.ite ?_ ?_)
      | (with_reducible refine LeO.bind ?_ (fun _ => ?_))
      | exact ih0 _ _ _
      | exact ih1 _ _ _
      | exact LeO.none _
      | refine LeO.ite ?_ ?_
      | refine LeO.bind ?_ (fun _ => ?_)
set_option maxHeartbeats 8000000 in
set_option maxRecDepth 100000 in
theorem earshotref01_Mul.calls (k : Nat) (a0 : Int) (a1 : Int) (r1 : Int) (r2 : Bool) (w : World) (h : earshotref01_Mul.f k a0 a1 = some (r1, r2)) :
    Calls Try.prog 22 #[.int .i64 a0, .int .i64 a1] w fun e w' => e = .returned (.agg #[.int .i64 r1, .bool r2]) ∧ Below w.heap.size w w' := by
  have hu37 := Try.underlying37
  have HB := Aside0.mk (Below.refl w.heap.size w)
  have H : (if a0 = 0 then (earshotref01_Mul.j0 k a0 a1 true) else (earshotref01_Mul.j0 k a0 a1 (a1 == 0))) = some (r1, r2) := h
  clear h
  have HC3 := Aside0.mk H
  clear H
  go_enter Try.func22, Try.ntmps22
  go_upto_region 1 with (first | ((with_reducible refine gate_dst (N := 4) rfl ?_); refine box_event ?hg (N := 4) ?hd (cs := #[.int .i64 0, .bool false]) (t := 37) ?hr ?_; (case hd => rfl); (case hg => rfl); (case hr => first | (go_simp; done) | (go_simp; rfl)); intro gb127 hg w4 hbox hb; have n0_ := Aside0.mk (below_step (by repeat (first | (with_reducible first | exact HB.out | apply below_alloc | apply pw_below_drewN | apply below_drew1) | exact HB.out)) hb); have n1_ := Aside0.mk (hbox); have n2_ := Aside0.mk ((by rw [hg]; exact (below_size (by repeat (first | (with_reducible first | exact HB.out | apply below_alloc | apply pw_below_drewN | apply below_drew1) | exact HB.out))) : w.heap.size ≤ gb127)); have n3_ := Aside0.mk ((by rw [hg]; exact (below_size (by repeat (first | (with_reducible first | exact HB.out | apply below_alloc | apply pw_below_drewN | apply below_drew1) | exact HB.out))) : w.heap.size ≤ gb127)); clear HB; have HB := n0_; have BK127 := n1_; have GW127 := n2_; have GE127 := n3_; clear n0_ n1_ n2_ n3_; clear hb hbox hg))
  (try simp only [Act.put, List.setIfInBounds_toArray, List.set_cons_zero, List.set_cons_succ])
  go_cut [11] (fun v11 wc => ∃ (kq : Nat) (x11_2 : Bool), v11 = .bool x11_2 ∧ Aside0 (earshotref01_Mul.j0 kq a0 a1 x11_2 = some (r1, r2)) ∧ Aside0 (kq ≤ k) ∧ Aside0 (wc.heap[gb127]? = some (.cells #[.int .i64 0, .bool false] 37 (0, 0))) ∧ Aside0 (Below w.heap.size w wc))
  case first =>
    have H := HC3.out
    clear HC3
    by_cases c5 : a0 = 0
    · rw [if_pos c5] at H
      have c5b0 : (a0 == 0) = true := beq_iff_eq.mpr c5
      have c5b1 : (a0 != 0) = false := bne_eq_false_iff_eq.mpr c5
      clear c5
      (first | rw [c5b0] | (simp only [i64_w, i32_w]; rw [c5b0]) | skip)
      have H' := Aside0.mk H
      clear H
      go_wp2
      go_meet
      case rel => exact ⟨_, (true), (by first | rfl | (simp; done) | (simp [*]; done)), H', ⟨by first | omega | exact Nat.le_refl _⟩, ⟨by (with_reducible repeat (first | refine blk_drewN ?_ _ | refine blk_drew ?_ | refine blk_alloc ?_ _)); exact BK127.out⟩, ⟨by repeat (first | (with_reducible first | exact HB.out | apply below_alloc | apply pw_below_drewN | apply below_drew1 | refine below_set ?_ GE127.out) | exact HB.out)⟩⟩
    · rw [if_neg c5] at H
      have c5b0 : (a0 == 0) = false := beq_eq_false_iff_ne.mpr c5
      have c5b1 : (a0 != 0) = true := bne_iff_ne.mpr c5
      (first | rw [c5b0] | (simp only [i64_w, i32_w]; rw [c5b0]) | skip)
      have H' := Aside0.mk H
      clear H
      go_wp2
      go_meet
      case rel => exact ⟨_, ((a1 == 0)), (by first | rfl | (simp; done) | (simp [*]; done)), H', ⟨by first | omega | exact Nat.le_refl _⟩, ⟨by (with_reducible repeat (first | refine blk_drewN ?_ _ | refine blk_drew ?_ | refine blk_alloc ?_ _)); exact BK127.out⟩, ⟨by repeat (first | (with_reducible first | exact HB.out | apply below_alloc | apply pw_below_drewN | apply below_drew1 | refine below_set ?_ GE127.out) | exact HB.out)⟩⟩
  case rest =>
    clear HC3
    try clear c2
    try clear p2
    try clear c5
    try clear c5b0
    try clear c5b1
    obtain ⟨kq, x11_2, rfl, HA, HJ2, BK127, HB⟩ := hcut
    cases kq with
    | zero => exact absurd HA.out (by simp [earshotref01_Mul.j0])
    | succ kj2 =>
      have H := HA.out
      clear HA
      simp only [earshotref01_Mul.j0] at H
      by_cases c6 : x11_2 = true
      · subst c6
        have H1 : (some (0, true)) = some (r1, r2) := by rw [if_pos rfl] at H; exact H
        clear H
        have H := H1
        clear H1
        simp only [Option.some.injEq, Prod.mk.injEq] at H
        obtain ⟨rfl, rfl⟩ := H
        have hcz7_0 : wc.cell? ⟨gb127, 0, none⟩ = some (.int .i64 0) := (blk_cell BK127.out 0).trans rfl
        have hcz7_1 : wc.cell? ⟨gb127, 1, none⟩ = some (.bool false) := (blk_cell BK127.out 1).trans rfl
        have hfz7_0 := blk_frozen BK127.out 0
        have hfz7_1 := blk_frozen BK127.out 1
        go_wp2
        refine bodyPost_ret (results_cell_row rfl _ _ gb127 37 #[.int .i64 0, .bool true] (0, 0) _ rfl (by (with_reducible repeat (first | refine blk_drewN ?_ _ | refine blk_drew ?_ | refine blk_alloc ?_ _)); refine blk_put (cs := #[.int .i64 0, .bool false]) ?_ 1 _ rfl; (with_reducible repeat (first | refine blk_drewN ?_ _ | refine blk_drew ?_ | refine blk_alloc ?_ _)); refine blk_put (cs := #[.int .i64 0, .bool false]) ?_ 0 _ rfl; (with_reducible repeat (first | refine blk_drewN ?_ _ | refine blk_drew ?_ | refine blk_alloc ?_ _)); exact BK127.out) Try.underlying37 rfl (by kernel_rfl)) rfl ?_
        exact ⟨by first | rfl | (simp only [Int.tdiv_eq_ediv_of_nonneg (show (0 : Int) ≤ 9223372036854775807 by decide), Int.tdiv_eq_ediv_of_nonneg (show (0 : Int) ≤ 9223372036854775808 by decide)] <;> rfl) | (simp [errW_none, errW_some] <;> rfl) | (simp [*, errW_none, errW_some] <;> rfl), by repeat (first | (with_reducible first | exact HB.out | apply below_alloc | apply pw_below_drewN | apply below_drew1 | refine below_set ?_ GE127.out) | exact HB.out)⟩
      · replace c6 := Bool.eq_false_iff.mpr c6
        subst c6
        have H1 : (if a0 = (-1) then (if a1 = (-9223372036854775808) then (earshotref01_Mul.j1 kj2 a0 a1 true) else (if a1 = (-1) then (earshotref01_Mul.j1 kj2 a0 a1 (a0 == (-9223372036854775808))) else (earshotref01_Mul.j1 kj2 a0 a1 false))) else (if a1 = (-1) then (earshotref01_Mul.j1 kj2 a0 a1 (a0 == (-9223372036854775808))) else (earshotref01_Mul.j1 kj2 a0 a1 false))) = some (r1, r2) := by rw [if_neg (show ¬ (false = true) by decide)] at H; exact H
        clear H
        have H := H1
        clear H1
        have HC8 := Aside0.mk H
        clear H
        go_upto_region 3 with (fail)
        go_cut [26] (fun v26 wc => ∃ (kq : Nat) (x26_7 : Bool), v26 = .bool x26_7 ∧ Aside0 (earshotref01_Mul.j1 kq a0 a1 x26_7 = some (r1, r2)) ∧ Aside0 (kq ≤ kj2) ∧ Aside0 (wc.heap[gb127]? = some (.cells #[.int .i64 0, .bool false] 37 (0, 0))) ∧ Aside0 (Below w.heap.size w wc))
        case first =>
          have H := HC8.out
          clear HC8
          by_cases c9 : a0 = (-1)
          · rw [if_pos c9] at H
            have c9b0 : (a0 == (-1)) = true := beq_iff_eq.mpr c9
            have c9b1 : (a0 != (-1)) = false := bne_eq_false_iff_eq.mpr c9
            clear c9
            (first | rw [c9b0] | (simp only [i64_w, i32_w]; rw [c9b0]) | skip)
            by_cases c10 : a1 = (-9223372036854775808)
            · rw [if_pos c10] at H
              have c10b0 : (a1 == (-9223372036854775808)) = true := beq_iff_eq.mpr c10
              have c10b1 : (a1 != (-9223372036854775808)) = false := bne_eq_false_iff_eq.mpr c10
              clear c10
              have H' := Aside0.mk H
              clear H
              go_wp2
              go_meet
              case rel => exact ⟨_, (true), (by first | rfl | (simp; done) | (simp [*]; done)), H', ⟨by have := HJ2.out; first | omega | exact Nat.le_refl _⟩, ⟨by (with_reducible repeat (first | refine blk_drewN ?_ _ | refine blk_drew ?_ | refine blk_alloc ?_ _)); exact BK127.out⟩, ⟨by repeat (first | (with_reducible first | exact HB.out | apply below_alloc | apply pw_below_drewN | apply below_drew1 | refine below_set ?_ GE127.out) | exact HB.out)⟩⟩
            · rw [if_neg c10] at H
              have c10b0 : (a1 == (-9223372036854775808)) = false := beq_eq_false_iff_ne.mpr c10
              have c10b1 : (a1 != (-9223372036854775808)) = true := bne_iff_ne.mpr c10
              by_cases c11 : a1 = (-1)
              · rw [if_pos c11] at H
                have c11b0 : (a1 == (-1)) = true := beq_iff_eq.mpr c11
                have c11b1 : (a1 != (-1)) = false := bne_eq_false_iff_eq.mpr c11
                clear c11
                have H' := Aside0.mk H
                clear H
                go_wp2
                go_meet
                case rel => exact ⟨_, ((a0 == (-9223372036854775808))), (by first | rfl | (simp; done) | (simp [*]; done)), H', ⟨by have := HJ2.out; first | omega | exact Nat.le_refl _⟩, ⟨by (with_reducible repeat (first | refine blk_drewN ?_ _ | refine blk_drew ?_ | refine blk_alloc ?_ _)); exact BK127.out⟩, ⟨by repeat (first | (with_reducible first | exact HB.out | apply below_alloc | apply pw_below_drewN | apply below_drew1 | refine below_set ?_ GE127.out) | exact HB.out)⟩⟩
              · rw [if_neg c11] at H
                have c11b0 : (a1 == (-1)) = false := beq_eq_false_iff_ne.mpr c11
                have c11b1 : (a1 != (-1)) = true := bne_iff_ne.mpr c11
                have H' := Aside0.mk H
                clear H
                go_wp2
                go_meet
                case rel => exact ⟨_, (false), (by first | rfl | (simp; done) | (simp [*]; done)), H', ⟨by have := HJ2.out; first | omega | exact Nat.le_refl _⟩, ⟨by (with_reducible repeat (first | refine blk_drewN ?_ _ | refine blk_drew ?_ | refine blk_alloc ?_ _)); exact BK127.out⟩, ⟨by repeat (first | (with_reducible first | exact HB.out | apply below_alloc | apply pw_below_drewN | apply below_drew1 | refine below_set ?_ GE127.out) | exact HB.out)⟩⟩
          · rw [if_neg c9] at H
            have c9b0 : (a0 == (-1)) = false := beq_eq_false_iff_ne.mpr c9
            have c9b1 : (a0 != (-1)) = true := bne_iff_ne.mpr c9
            (first | rw [c9b0] | (simp only [i64_w, i32_w]; rw [c9b0]) | skip)
            by_cases c12 : a1 = (-1)
            · rw [if_pos c12] at H
              have c12b0 : (a1 == (-1)) = true := beq_iff_eq.mpr c12
              have c12b1 : (a1 != (-1)) = false := bne_eq_false_iff_eq.mpr c12
              clear c12
              have H' := Aside0.mk H
              clear H
              go_wp2
              go_meet
              case rel => exact ⟨_, ((a0 == (-9223372036854775808))), (by first | rfl | (simp; done) | (simp [*]; done)), H', ⟨by have := HJ2.out; first | omega | exact Nat.le_refl _⟩, ⟨by (with_reducible repeat (first | refine blk_drewN ?_ _ | refine blk_drew ?_ | refine blk_alloc ?_ _)); exact BK127.out⟩, ⟨by repeat (first | (with_reducible first | exact HB.out | apply below_alloc | apply pw_below_drewN | apply below_drew1 | refine below_set ?_ GE127.out) | exact HB.out)⟩⟩
            · rw [if_neg c12] at H
              have c12b0 : (a1 == (-1)) = false := beq_eq_false_iff_ne.mpr c12
              have c12b1 : (a1 != (-1)) = true := bne_iff_ne.mpr c12
              have H' := Aside0.mk H
              clear H
              go_wp2
              go_meet
              case rel => exact ⟨_, (false), (by first | rfl | (simp; done) | (simp [*]; done)), H', ⟨by have := HJ2.out; first | omega | exact Nat.le_refl _⟩, ⟨by (with_reducible repeat (first | refine blk_drewN ?_ _ | refine blk_drew ?_ | refine blk_alloc ?_ _)); exact BK127.out⟩, ⟨by repeat (first | (with_reducible first | exact HB.out | apply below_alloc | apply pw_below_drewN | apply below_drew1 | refine below_set ?_ GE127.out) | exact HB.out)⟩⟩
        case rest =>
          clear HC8
          try clear c1
          try clear c2
          try clear p2
          try clear c5
          try clear c5b0
          try clear c5b1
          try clear c6
          try clear c9
          try clear c9b0
          try clear c9b1
          try clear c10
          try clear c10b0
          try clear c10b1
          try clear c11
          try clear c11b0
          try clear c11b1
          try clear c12
          try clear c12b0
          try clear c12b1
          try clear hcz7_0
          try clear hcz7_1
          try clear hfz7_0
          try clear hfz7_1
          try clear p2
          obtain ⟨kq, x26_7, rfl, HA, HJ7, BK127, HB⟩ := hcut
          cases kq with
          | zero => exact absurd HA.out (by simp [earshotref01_Mul.j1])
          | succ kj7 =>
            have H := HA.out
            clear HA
            simp only [earshotref01_Mul.j1] at H
            by_cases c13 : x26_7 = true
            · subst c13
              have H1 : (some (0, false)) = some (r1, r2) := by rw [if_pos rfl] at H; exact H
              clear H
              have H := H1
              clear H1
              simp only [Option.some.injEq, Prod.mk.injEq] at H
              obtain ⟨rfl, rfl⟩ := H
              have hcz14_0 : wc.cell? ⟨gb127, 0, none⟩ = some (.int .i64 0) := (blk_cell BK127.out 0).trans rfl
              have hcz14_1 : wc.cell? ⟨gb127, 1, none⟩ = some (.bool false) := (blk_cell BK127.out 1).trans rfl
              have hfz14_0 := blk_frozen BK127.out 0
              have hfz14_1 := blk_frozen BK127.out 1
              go_wp2
              refine bodyPost_ret (results_cell_row rfl _ _ gb127 37 #[.int .i64 0, .bool false] (0, 0) _ rfl (by (with_reducible repeat (first | refine blk_drewN ?_ _ | refine blk_drew ?_ | refine blk_alloc ?_ _)); refine blk_put (cs := #[.int .i64 0, .bool false]) ?_ 1 _ rfl; (with_reducible repeat (first | refine blk_drewN ?_ _ | refine blk_drew ?_ | refine blk_alloc ?_ _)); refine blk_put (cs := #[.int .i64 0, .bool false]) ?_ 0 _ rfl; (with_reducible repeat (first | refine blk_drewN ?_ _ | refine blk_drew ?_ | refine blk_alloc ?_ _)); exact BK127.out) Try.underlying37 rfl (by kernel_rfl)) rfl ?_
              exact ⟨by first | rfl | (simp only [Int.tdiv_eq_ediv_of_nonneg (show (0 : Int) ≤ 9223372036854775807 by decide), Int.tdiv_eq_ediv_of_nonneg (show (0 : Int) ≤ 9223372036854775808 by decide)] <;> rfl) | (simp [errW_none, errW_some] <;> rfl) | (simp [*, errW_none, errW_some] <;> rfl), by repeat (first | (with_reducible first | exact HB.out | apply below_alloc | apply pw_below_drewN | apply below_drew1 | refine below_set ?_ GE127.out) | exact HB.out)⟩
            · replace c13 := Bool.eq_false_iff.mpr c13
              subst c13
              have H1 : (if a1 = 0 then (none) else (if (wrap64 (Int.tdiv (wrap64 (a0 * a1)) a1)) = a0 then (some (wrap64 (a0 * a1), true)) else (some (0, false)))) = some (r1, r2) := by rw [if_neg (show ¬ (false = true) by decide)] at H; exact H
              clear H
              have H := H1
              clear H1
              by_cases c15 : a1 = 0
              · rw [if_pos c15] at H
                exact absurd H (by simp)
              · rw [if_neg c15] at H
                have c15b0 : (a1 == 0) = false := beq_eq_false_iff_ne.mpr c15
                have c15b1 : (a1 != 0) = true := bne_iff_ne.mpr c15
                by_cases c16 : (wrap64 (Int.tdiv (wrap64 (a0 * a1)) a1)) = a0
                · rw [if_pos c16] at H
                  have c16b0 : ((wrap64 (Int.tdiv (wrap64 (a0 * a1)) a1)) == a0) = true := beq_iff_eq.mpr c16
                  have c16b1 : ((wrap64 (Int.tdiv (wrap64 (a0 * a1)) a1)) != a0) = false := bne_eq_false_iff_eq.mpr c16
                  clear c16
                  simp only [Option.some.injEq, Prod.mk.injEq] at H
                  obtain ⟨rfl, rfl⟩ := H
                  have hcz17_0 : wc.cell? ⟨gb127, 0, none⟩ = some (.int .i64 0) := (blk_cell BK127.out 0).trans rfl
                  have hcz17_1 : wc.cell? ⟨gb127, 1, none⟩ = some (.bool false) := (blk_cell BK127.out 1).trans rfl
                  have hfz17_0 := blk_frozen BK127.out 0
                  have hfz17_1 := blk_frozen BK127.out 1
                  go_wp2
                  refine bodyPost_ret (results_cell_row rfl _ _ gb127 37 #[.int .i64 (wrap64 (a0 * a1)), .bool true] (0, 0) _ rfl (by (with_reducible repeat (first | refine blk_drewN ?_ _ | refine blk_drew ?_ | refine blk_alloc ?_ _)); refine blk_put (cs := #[.int .i64 (wrap64 (a0 * a1)), .bool false]) ?_ 1 _ rfl; (with_reducible repeat (first | refine blk_drewN ?_ _ | refine blk_drew ?_ | refine blk_alloc ?_ _)); refine blk_put (cs := #[.int .i64 0, .bool false]) ?_ 0 _ rfl; (with_reducible repeat (first | refine blk_drewN ?_ _ | refine blk_drew ?_ | refine blk_alloc ?_ _)); exact BK127.out) Try.underlying37 rfl (by kernel_rfl)) rfl ?_
                  exact ⟨by first | rfl | (simp only [Int.tdiv_eq_ediv_of_nonneg (show (0 : Int) ≤ 9223372036854775807 by decide), Int.tdiv_eq_ediv_of_nonneg (show (0 : Int) ≤ 9223372036854775808 by decide)] <;> rfl) | (simp [errW_none, errW_some] <;> rfl) | (simp [*, errW_none, errW_some] <;> rfl), by repeat (first | (with_reducible first | exact HB.out | apply below_alloc | apply pw_below_drewN | apply below_drew1 | refine below_set ?_ GE127.out) | exact HB.out)⟩
                · rw [if_neg c16] at H
                  have c16b0 : ((wrap64 (Int.tdiv (wrap64 (a0 * a1)) a1)) == a0) = false := beq_eq_false_iff_ne.mpr c16
                  have c16b1 : ((wrap64 (Int.tdiv (wrap64 (a0 * a1)) a1)) != a0) = true := bne_iff_ne.mpr c16
                  simp only [Option.some.injEq, Prod.mk.injEq] at H
                  obtain ⟨rfl, rfl⟩ := H
                  have hcz18_0 : wc.cell? ⟨gb127, 0, none⟩ = some (.int .i64 0) := (blk_cell BK127.out 0).trans rfl
                  have hcz18_1 : wc.cell? ⟨gb127, 1, none⟩ = some (.bool false) := (blk_cell BK127.out 1).trans rfl
                  have hfz18_0 := blk_frozen BK127.out 0
                  have hfz18_1 := blk_frozen BK127.out 1
                  go_wp2
                  refine bodyPost_ret (results_cell_row rfl _ _ gb127 37 #[.int .i64 0, .bool false] (0, 0) _ rfl (by (with_reducible repeat (first | refine blk_drewN ?_ _ | refine blk_drew ?_ | refine blk_alloc ?_ _)); refine blk_put (cs := #[.int .i64 0, .bool false]) ?_ 1 _ rfl; (with_reducible repeat (first | refine blk_drewN ?_ _ | refine blk_drew ?_ | refine blk_alloc ?_ _)); refine blk_put (cs := #[.int .i64 0, .bool false]) ?_ 0 _ rfl; (with_reducible repeat (first | refine blk_drewN ?_ _ | refine blk_drew ?_ | refine blk_alloc ?_ _)); exact BK127.out) Try.underlying37 rfl (by kernel_rfl)) rfl ?_
                  exact ⟨by first | rfl | (simp only [Int.tdiv_eq_ediv_of_nonneg (show (0 : Int) ≤ 9223372036854775807 by decide), Int.tdiv_eq_ediv_of_nonneg (show (0 : Int) ≤ 9223372036854775808 by decide)] <;> rfl) | (simp [errW_none, errW_some] <;> rfl) | (simp [*, errW_none, errW_some] <;> rfl), by repeat (first | (with_reducible first | exact HB.out | apply below_alloc | apply pw_below_drewN | apply below_drew1 | refine below_set ?_ GE127.out) | exact HB.out)⟩

/-! ### earshotref01_Clamp: function 23 -/
def earshotref01_Clamp.f (a0 : Int) (a1 : Int) (a2 : Int) : Option (Int) := if a0 < a1 then (some a1) else (if a0 > a2 then (some a2) else (some a0))
set_option maxHeartbeats 8000000 in
set_option maxRecDepth 100000 in
theorem earshotref01_Clamp.calls (a0 : Int) (a1 : Int) (a2 : Int) (r : Int) (w : World) (h : earshotref01_Clamp.f a0 a1 a2 = some r) :
    Calls Try.prog 23 #[.int .i64 a0, .int .i64 a1, .int .i64 a2] w fun e w' => e = .returned (.int .i64 r) ∧ Drawn0 w w' := by
  have H : (if a0 < a1 then (some a1) else (if a0 > a2 then (some a2) else (some a0))) = some r := h
  clear h
  by_cases c4 : a0 < a1
  · rw [if_pos c4] at H
    have c4b0 : decide (a0 < a1) = true := decide_eq_true c4
    clear c4
    obtain rfl := Option.some.inj H
    go_enter Try.func23, Try.ntmps23
    go_wp2
    go_ret
    exact ⟨by first | rfl | (simp; done) | (simp [*]; done), by repeat (first | exact Drawn0.refl _ | apply Drawn0.step)⟩
  · rw [if_neg c4] at H
    have c4b0 : decide (a0 < a1) = false := decide_eq_false c4
    clear c4
    by_cases c5 : a0 > a2
    · rw [if_pos c5] at H
      have c5b0 : decide (a2 < a0) = true := decide_eq_true c5
      clear c5
      obtain rfl := Option.some.inj H
      go_enter Try.func23, Try.ntmps23
      go_wp2
      go_ret
      exact ⟨by first | rfl | (simp; done) | (simp [*]; done), by repeat (first | exact Drawn0.refl _ | apply Drawn0.step)⟩
    · rw [if_neg c5] at H
      have c5b0 : decide (a2 < a0) = false := decide_eq_false c5
      clear c5
      obtain rfl := Option.some.inj H
      go_enter Try.func23, Try.ntmps23
      go_wp2
      go_ret
      exact ⟨by first | rfl | (simp; done) | (simp [*]; done), by repeat (first | exact Drawn0.refl _ | apply Drawn0.step)⟩

/-! ### earshotref01_May: function 46 -/
def earshotref01_May.f (a0 : Int) : Option (Bool) := if a0 ≥ 1 then (some (decide (a0 ≤ 64))) else (some false)
set_option maxHeartbeats 8000000 in
set_option maxRecDepth 100000 in
theorem earshotref01_May.calls (a0 : Int) (r : Bool) (w : World) (h : earshotref01_May.f a0 = some r) :
    Calls Try.prog 46 #[.int .i64 a0] w fun e w' => e = .returned (.bool r) ∧ Drawn0 w w' := by
  have H : (if a0 ≥ 1 then (some (decide (a0 ≤ 64))) else (some false)) = some r := h
  clear h
  by_cases c2 : a0 ≥ 1
  · rw [if_pos c2] at H
    have c2b0 : decide (1 ≤ a0) = true := decide_eq_true c2
    clear c2
    obtain rfl := Option.some.inj H
    go_enter Try.func46, Try.ntmps46
    go_wp2
    go_ret
    exact ⟨by first | rfl | (simp; done) | (simp [*]; done), by repeat (first | exact Drawn0.refl _ | apply Drawn0.step)⟩
  · rw [if_neg c2] at H
    have c2b0 : decide (1 ≤ a0) = false := decide_eq_false c2
    clear c2
    obtain rfl := Option.some.inj H
    go_enter Try.func46, Try.ntmps46
    go_wp2
    go_ret
    exact ⟨by first | rfl | (simp; done) | (simp [*]; done), by repeat (first | exact Drawn0.refl _ | apply Drawn0.step)⟩

/-! ### earshotref01_Low: function 47 -/
def earshotref01_Low.l0 : Nat → Int → Int → Int → Option (Int)
  | 0, _, _, _ => none
  | k + 1, x0, x3, x4 => if x4 < x0 then (earshotref01_Low.l0 k x0 (wrap64 (x3 * 2)) (wrap64 (x4 + 1))) else (some x3)
def earshotref01_Low.f (k : Nat) (a0 : Int) : Option (Int) := earshotref01_Low.l0 k a0 (-1) 1
theorem earshotref01_Low.mono_l : ∀ k, (∀ y0 y1 y2, LeO (earshotref01_Low.l0 k y0 y1 y2) (earshotref01_Low.l0 (k + 1) y0 y1 y2))
  | 0 => fun _ _ _ r h => by simp [earshotref01_Low.l0] at h
  | k + 1 => by
    have ih0 := earshotref01_Low.mono_l k
    · intro y0 y1 y2
      unfold earshotref01_Low.l0
      repeat' first
      | (with_reducible exact ih0 _ _ _)
      | (with_reducible exact LeO.refl _)
      | (with_reducible exact LeO.none _)
      | (with_reducible refine LeO.ite ?_ ?_)
      | (with_reducible refine LeO.bind ?_ (fun _ => ?_))
      | exact ih0 _ _ _
      | exact LeO.none _
      | refine LeO.ite ?_ ?_
      | refine LeO.bind ?_ (fun _ => ?_)
theorem earshotref01_Low.mono : ∀ a0 k, LeO (earshotref01_Low.f k a0) (earshotref01_Low.f (k + 1) a0) := by
  intro a0 k
  have ih0 := earshotref01_Low.mono_l k
  unfold earshotref01_Low.f
  repeat' first
      | (with_reducible exact ih0 _ _ _)
      | (with_reducible exact LeO.refl _)
      | (with_reducible exact LeO.none _)
      | (with_reducible refine LeO.ite ?_ ?_)
      | (with_reducible refine LeO.bind ?_ (fun _ => ?_))
      | exact ih0 _ _ _
      | exact LeO.none _
      | refine LeO.ite ?_ ?_
      | refine LeO.bind ?_ (fun _ => ?_)
set_option maxHeartbeats 8000000 in
set_option maxRecDepth 100000 in
theorem earshotref01_Low.calls (k : Nat) (a0 : Int) (r : Int) (w : World) (h : earshotref01_Low.f k a0 = some r) :
    Calls Try.prog 47 #[.int .i64 a0] w fun e w' => e = .returned (.int .i64 r) ∧ Drawn0 w w' := by
  have H : (earshotref01_Low.l0 k a0 (-1) 1) = some r := h
  clear h
  have H' := Aside0.mk H
  clear H
  go_enter Try.func47, Try.ntmps47
  go_wp2
  go_loopg [3, 4] k (fun kq v3 v4 w' => ∃ (x3_1 : Int) (x4_1 : Int), v3 = .int .i64 x3_1 ∧ v4 = .int .i64 x4_1 ∧ Aside0 (earshotref01_Low.l0 kq a0 x3_1 x4_1 = some r) ∧ Aside0 (kq ≤ k) ∧ Drawn0 w w')
  case atStart => exact ⟨((-1)), (1), (by first | rfl | (simp; done) | (simp [*]; done)), (by first | rfl | (simp; done) | (simp [*]; done)), H', ⟨Nat.le_refl _⟩, by repeat (first | exact Drawn0.refl _ | apply Drawn0.step)⟩
  case round =>
    clear H'
    obtain ⟨x3_1, x4_1, rfl, rfl, HA, HK1, ⟨m1, rfl⟩⟩ := hrel
    cases gk with
    | zero => exact absurd HA.out (by simp [earshotref01_Low.l0])
    | succ k1 =>
      have H := HA.out
      clear HA
      simp only [earshotref01_Low.l0] at H
      by_cases c2 : x4_1 < a0
      · rw [if_pos c2] at H
        have c2b0 : decide (x4_1 < a0) = true := decide_eq_true c2
        clear c2
        have H' := Aside0.mk H
        clear H
        go_wp2
        go_roundg k1
        case measure => have := HK1.out; omega
        case rel => exact ⟨(wrap64 (x3_1 * 2)), (wrap64 (x4_1 + 1)), (by first | rfl | (simp; done) | (simp [*]; done)), (by first | rfl | (simp; done) | (simp [*]; done)), H', ⟨by have := HK1.out; omega⟩, by repeat (first | exact Drawn0.refl _ | apply Drawn0.step)⟩
      · rw [if_neg c2] at H
        have c2b0 : decide (x4_1 < a0) = false := decide_eq_false c2
        clear c2
        obtain rfl := Option.some.inj H
        go_wp2
        go_ret
        exact ⟨by first | rfl | (simp; done) | (simp [*]; done), by repeat (first | exact Drawn0.refl _ | apply Drawn0.step)⟩

/-! ### earshotref01_Sat: function 39 -/
def earshotref01_Sat.f (k : Nat) (a0 : Int) (a1 : Int) : Option (Int) := (earshotref01_May.f a1).bind fun t128 => (if t128 = true then ((earshotref01_Low.f k a1).bind fun t129 => ((earshotref01_Clamp.f a0 t129 (wrap64 ((-1) - t129))).bind fun t130 => (some t130))) else (some 0))
theorem earshotref01_Sat.mono : ∀ a0 a1 k, LeO (earshotref01_Sat.f k a0 a1) (earshotref01_Sat.f (k + 1) a0 a1) := by
  intro a0 a1 k
  unfold earshotref01_Sat.f
  repeat' first
      | (with_reducible exact earshotref01_Low.mono _ _)
      | (with_reducible exact LeO.refl _)
      | (with_reducible exact LeO.none _)
      | (with_reducible refine LeO.ite ?_ ?_)
      | (with_reducible refine LeO.bind ?_ (fun _ => ?_))
      | exact earshotref01_Low.mono _ _
      | exact LeO.none _
      | refine LeO.ite ?_ ?_
      | refine LeO.bind ?_ (fun _ => ?_)
set_option maxHeartbeats 8000000 in
set_option maxRecDepth 100000 in
theorem earshotref01_Sat.calls (k : Nat) (a0 : Int) (a1 : Int) (r : Int) (w : World) (h : earshotref01_Sat.f k a0 a1 = some r) :
    Calls Try.prog 39 #[.int .i64 a0, .int .i64 a1] w fun e w' => e = .returned (.int .i64 r) ∧ Drawn0 w w' := by
  have H : ((earshotref01_May.f a1).bind fun t128 => (if t128 = true then ((earshotref01_Low.f k a1).bind fun t129 => ((earshotref01_Clamp.f a0 t129 (wrap64 ((-1) - t129))).bind fun t130 => (some t130))) else (some 0))) = some r := h
  clear h
  replace H := Option.bind_eq_some_iff.mp H
  obtain ⟨t128, A30, H⟩ := H
  replace H : (if t128 = true then ((earshotref01_Low.f k a1).bind fun t129 => ((earshotref01_Clamp.f a0 t129 (wrap64 ((-1) - t129))).bind fun t130 => (some t130))) else (some 0)) = some r := H
  have A3 := Aside0.mk A30
  clear A30
  by_cases c4 : t128 = true
  · subst c4
    have H1 : ((earshotref01_Low.f k a1).bind fun t129 => ((earshotref01_Clamp.f a0 t129 (wrap64 ((-1) - t129))).bind fun t130 => (some t130))) = some r := by rw [if_pos rfl] at H; exact H
    clear H
    have H := H1
    clear H1
    replace H := Option.bind_eq_some_iff.mp H
    obtain ⟨t129, A50, H⟩ := H
    replace H : ((earshotref01_Clamp.f a0 t129 (wrap64 ((-1) - t129))).bind fun t130 => (some t130)) = some r := H
    have A5 := Aside0.mk A50
    clear A50
    replace H := Option.bind_eq_some_iff.mp H
    obtain ⟨t130, A60, H⟩ := H
    replace H : (some t130) = some r := H
    have A6 := Aside0.mk A60
    clear A60
    obtain rfl := Option.some.inj H
    go_enter Try.func39, Try.ntmps39
    go_wp2_with (first | ((with_reducible refine gate_callee (f := 46) rfl ?_); refine goesL_ (some 8) rfl rfl Try.func46 (by kernel_rfl) rfl #[.int .i64 a1] rfl (by (try simp only [List.map_toArray, List.map_cons, List.map_nil]); first | done | rfl | (simp only [List.length_drop, List.length_take]; rfl)) ?_; (with_reducible refine (earshotref01_May.calls a1 true _ A3.out).mono ?_); rintro e w' ⟨rfl, ⟨nd, rfl⟩⟩; refine ⟨_, rfl, ?_⟩; (try clear A3)) | ((with_reducible refine gate_callee (f := 47) rfl ?_); refine goesL_ (some 12) rfl rfl Try.func47 (by kernel_rfl) rfl #[.int .i64 a1] rfl (by (try simp only [List.map_toArray, List.map_cons, List.map_nil]); first | done | rfl | (simp only [List.length_drop, List.length_take]; rfl)) ?_; (with_reducible refine (earshotref01_Low.calls k a1 t129 _ A5.out).mono ?_); rintro e w' ⟨rfl, ⟨nd, rfl⟩⟩; refine ⟨_, rfl, ?_⟩; (try clear A5)) | ((with_reducible refine gate_callee (f := 23) rfl ?_); refine goesL_ (some 17) rfl rfl Try.func23 (by kernel_rfl) rfl #[.int .i64 a0, .int .i64 t129, .int .i64 (wrap64 ((-1) - t129))] rfl (by (try simp only [List.map_toArray, List.map_cons, List.map_nil]); first | done | rfl | (simp only [List.length_drop, List.length_take]; rfl)) ?_; (with_reducible refine (earshotref01_Clamp.calls a0 t129 (wrap64 ((-1) - t129)) t130 _ A6.out).mono ?_); rintro e w' ⟨rfl, ⟨nd, rfl⟩⟩; refine ⟨_, rfl, ?_⟩; (try clear A6)))
    go_ret
    exact ⟨by first | rfl | (simp; done) | (simp [*]; done), by repeat (first | exact Drawn0.refl _ | apply Drawn0.step)⟩
  · replace c4 := Bool.eq_false_iff.mpr c4
    subst c4
    have H1 : (some 0) = some r := by rw [if_neg (show ¬ (false = true) by decide)] at H; exact H
    clear H
    have H := H1
    clear H1
    obtain rfl := Option.some.inj H
    go_enter Try.func39, Try.ntmps39
    go_wp2_with (first | ((with_reducible refine gate_callee (f := 46) rfl ?_); refine goesL_ (some 8) rfl rfl Try.func46 (by kernel_rfl) rfl #[.int .i64 a1] rfl (by (try simp only [List.map_toArray, List.map_cons, List.map_nil]); first | done | rfl | (simp only [List.length_drop, List.length_take]; rfl)) ?_; (with_reducible refine (earshotref01_May.calls a1 false _ A3.out).mono ?_); rintro e w' ⟨rfl, ⟨nd, rfl⟩⟩; refine ⟨_, rfl, ?_⟩; (try clear A3)))
    go_ret
    exact ⟨by first | rfl | (simp; done) | (simp [*]; done), by repeat (first | exact Drawn0.refl _ | apply Drawn0.step)⟩

/-! ### earshotref01_Fits: function 38 -/
def earshotref01_Fits.f (k : Nat) (a0 : Int) (a1 : Int) : Option (Bool) := (earshotref01_May.f a1).bind fun t131 => (if t131 = true then ((earshotref01_Sat.f k a0 a1).bind fun t132 => (some (t132 == a0))) else (some false))
theorem earshotref01_Fits.mono : ∀ a0 a1 k, LeO (earshotref01_Fits.f k a0 a1) (earshotref01_Fits.f (k + 1) a0 a1) := by
  intro a0 a1 k
  unfold earshotref01_Fits.f
  repeat' first
      | (with_reducible exact earshotref01_Sat.mono _ _ _)
      | (with_reducible exact LeO.refl _)
      | (with_reducible exact LeO.none _)
      | (with_reducible refine LeO.ite ?_ ?_)
      | (with_reducible refine LeO.bind ?_ (fun _ => ?_))
      | exact earshotref01_Sat.mono _ _ _
      | exact LeO.none _
      | refine LeO.ite ?_ ?_
      | refine LeO.bind ?_ (fun _ => ?_)
set_option maxHeartbeats 8000000 in
set_option maxRecDepth 100000 in
theorem earshotref01_Fits.calls (k : Nat) (a0 : Int) (a1 : Int) (r : Bool) (w : World) (h : earshotref01_Fits.f k a0 a1 = some r) :
    Calls Try.prog 38 #[.int .i64 a0, .int .i64 a1] w fun e w' => e = .returned (.bool r) ∧ Drawn0 w w' := by
  have H : ((earshotref01_May.f a1).bind fun t131 => (if t131 = true then ((earshotref01_Sat.f k a0 a1).bind fun t132 => (some (t132 == a0))) else (some false))) = some r := h
  clear h
  replace H := Option.bind_eq_some_iff.mp H
  obtain ⟨t131, A30, H⟩ := H
  replace H : (if t131 = true then ((earshotref01_Sat.f k a0 a1).bind fun t132 => (some (t132 == a0))) else (some false)) = some r := H
  have A3 := Aside0.mk A30
  clear A30
  by_cases c4 : t131 = true
  · subst c4
    have H1 : ((earshotref01_Sat.f k a0 a1).bind fun t132 => (some (t132 == a0))) = some r := by rw [if_pos rfl] at H; exact H
    clear H
    have H := H1
    clear H1
    replace H := Option.bind_eq_some_iff.mp H
    obtain ⟨t132, A50, H⟩ := H
    replace H : (some (t132 == a0)) = some r := H
    have A5 := Aside0.mk A50
    clear A50
    obtain rfl := Option.some.inj H
    go_enter Try.func38, Try.ntmps38
    go_wp2_with (first | ((with_reducible refine gate_callee (f := 46) rfl ?_); refine goesL_ (some 7) rfl rfl Try.func46 (by kernel_rfl) rfl #[.int .i64 a1] rfl (by (try simp only [List.map_toArray, List.map_cons, List.map_nil]); first | done | rfl | (simp only [List.length_drop, List.length_take]; rfl)) ?_; (with_reducible refine (earshotref01_May.calls a1 true _ A3.out).mono ?_); rintro e w' ⟨rfl, ⟨nd, rfl⟩⟩; refine ⟨_, rfl, ?_⟩; (try clear A3)) | (go_at_call 39; (with_reducible refine (earshotref01_Sat.calls k a0 a1 t132 _ A5.out).mono ?_); rintro e w' ⟨rfl, ⟨nd, rfl⟩⟩; (try clear A5)))
    go_ret
    exact ⟨by first | rfl | (simp; done) | (simp [*]; done), by repeat (first | exact Drawn0.refl _ | apply Drawn0.step)⟩
  · replace c4 := Bool.eq_false_iff.mpr c4
    subst c4
    have H1 : (some false) = some r := by rw [if_neg (show ¬ (false = true) by decide)] at H; exact H
    clear H
    have H := H1
    clear H1
    obtain rfl := Option.some.inj H
    go_enter Try.func38, Try.ntmps38
    go_wp2_with (first | ((with_reducible refine gate_callee (f := 46) rfl ?_); refine goesL_ (some 7) rfl rfl Try.func46 (by kernel_rfl) rfl #[.int .i64 a1] rfl (by (try simp only [List.map_toArray, List.map_cons, List.map_nil]); first | done | rfl | (simp only [List.length_drop, List.length_take]; rfl)) ?_; (with_reducible refine (earshotref01_May.calls a1 false _ A3.out).mono ?_); rintro e w' ⟨rfl, ⟨nd, rfl⟩⟩; refine ⟨_, rfl, ?_⟩; (try clear A3)))
    go_ret
    exact ⟨by first | rfl | (simp; done) | (simp [*]; done), by repeat (first | exact Drawn0.refl _ | apply Drawn0.step)⟩

/-! ### earshotref01_plus: function 48 -/
def earshotref01_plus.j0 : Nat → Int → Int → Bool → Option (Int)
  | 0, _, _, _ => none
  | k + 1, x0, x1, x12 => if x12 = true then (some 9223372036854775807) else (if x1 < 0 then (if x0 < (wrap64 ((-9223372036854775808) - x1)) then (some (-9223372036854775808)) else (some (wrap64 (x0 + x1)))) else (some (wrap64 (x0 + x1))))
def earshotref01_plus.f (k : Nat) (a0 : Int) (a1 : Int) : Option (Int) := if a1 > 0 then (earshotref01_plus.j0 k a0 a1 (decide (a0 > (wrap64 (9223372036854775807 - a1))))) else (earshotref01_plus.j0 k a0 a1 false)
theorem earshotref01_plus.mono_l : ∀ k, (∀ y0 y1 y2, LeO (earshotref01_plus.j0 k y0 y1 y2) (earshotref01_plus.j0 (k + 1) y0 y1 y2))
  | 0 => fun _ _ _ r h => by simp [earshotref01_plus.j0] at h
  | k + 1 => by
    have ih0 := earshotref01_plus.mono_l k
    · intro y0 y1 y2
      unfold earshotref01_plus.j0
      repeat' first
      | (with_reducible exact ih0 _ _ _)
      | (with_reducible exact LeO.refl _)
      | (with_reducible exact LeO.none _)
      | (with_reducible refine LeO.ite ?_ ?_)
      | (with_reducible refine LeO.bind ?_ (fun _ => ?_))
      | exact ih0 _ _ _
      | exact LeO.none _
      | refine LeO.ite ?_ ?_
      | refine LeO.bind ?_ (fun _ => ?_)
theorem earshotref01_plus.mono : ∀ a0 a1 k, LeO (earshotref01_plus.f k a0 a1) (earshotref01_plus.f (k + 1) a0 a1) := by
  intro a0 a1 k
  have ih0 := earshotref01_plus.mono_l k
  unfold earshotref01_plus.f
  repeat' first
      | (with_reducible exact ih0 _ _ _)
      | (with_reducible exact LeO.refl _)
      | (with_reducible exact LeO.none _)
      | (with_reducible refine LeO.ite ?_ ?_)
      | (with_reducible refine LeO.bind ?_ (fun _ => ?_))
      | exact ih0 _ _ _
      | exact LeO.none _
      | refine LeO.ite ?_ ?_
      | refine LeO.bind ?_ (fun _ => ?_)
set_option maxHeartbeats 8000000 in
set_option maxRecDepth 100000 in
theorem earshotref01_plus.calls (k : Nat) (a0 : Int) (a1 : Int) (r : Int) (w : World) (h : earshotref01_plus.f k a0 a1 = some r) :
    Calls Try.prog 48 #[.int .i64 a0, .int .i64 a1] w fun e w' => e = .returned (.int .i64 r) ∧ Drawn0 w w' := by
  have H : (if a1 > 0 then (earshotref01_plus.j0 k a0 a1 (decide (a0 > (wrap64 (9223372036854775807 - a1))))) else (earshotref01_plus.j0 k a0 a1 false)) = some r := h
  clear h
  have HC3 := Aside0.mk H
  clear H
  go_enter Try.func48, Try.ntmps48
  go_upto_region 1 with (fail)
  go_cut [12] (fun v12 wc => ∃ (kq : Nat) (x12_2 : Bool), v12 = .bool x12_2 ∧ Aside0 (earshotref01_plus.j0 kq a0 a1 x12_2 = some r) ∧ Aside0 (kq ≤ k) ∧ Drawn0 w wc)
  case first =>
    have H := HC3.out
    clear HC3
    by_cases c4 : a1 > 0
    · rw [if_pos c4] at H
      have c4b0 : decide (0 < a1) = true := decide_eq_true c4
      clear c4
      (first | rw [c4b0] | (simp only [i64_w, i32_w]; rw [c4b0]) | skip)
      have H' := Aside0.mk H
      clear H
      go_wp2
      go_meet
      case rel => exact ⟨_, (decide (a0 > (wrap64 (9223372036854775807 - a1)))), (by first | rfl | (simp; done) | (simp [*]; done)), H', ⟨by first | omega | exact Nat.le_refl _⟩, by repeat (first | exact Drawn0.refl _ | apply Drawn0.step)⟩
    · rw [if_neg c4] at H
      have c4b0 : decide (0 < a1) = false := decide_eq_false c4
      clear c4
      (first | rw [c4b0] | (simp only [i64_w, i32_w]; rw [c4b0]) | skip)
      have H' := Aside0.mk H
      clear H
      go_wp2
      go_meet
      case rel => exact ⟨_, (false), (by first | rfl | (simp; done) | (simp [*]; done)), H', ⟨by first | omega | exact Nat.le_refl _⟩, by repeat (first | exact Drawn0.refl _ | apply Drawn0.step)⟩
  case rest =>
    clear HC3
    try clear p2
    try clear c4
    try clear c4b0
    obtain ⟨kq, x12_2, rfl, HA, HJ2, ⟨mc2, rfl⟩⟩ := hcut
    cases kq with
    | zero => exact absurd HA.out (by simp [earshotref01_plus.j0])
    | succ kj2 =>
      have H := HA.out
      clear HA
      simp only [earshotref01_plus.j0] at H
      by_cases c5 : x12_2 = true
      · subst c5
        have H1 : (some 9223372036854775807) = some r := by rw [if_pos rfl] at H; exact H
        clear H
        have H := H1
        clear H1
        obtain rfl := Option.some.inj H
        go_wp2
        go_ret
        exact ⟨by first | rfl | (simp; done) | (simp [*]; done), by repeat (first | exact Drawn0.refl _ | apply Drawn0.step)⟩
      · replace c5 := Bool.eq_false_iff.mpr c5
        subst c5
        have H1 : (if a1 < 0 then (if a0 < (wrap64 ((-9223372036854775808) - a1)) then (some (-9223372036854775808)) else (some (wrap64 (a0 + a1)))) else (some (wrap64 (a0 + a1)))) = some r := by rw [if_neg (show ¬ (false = true) by decide)] at H; exact H
        clear H
        have H := H1
        clear H1
        by_cases c6 : a1 < 0
        · rw [if_pos c6] at H
          have c6b0 : decide (a1 < 0) = true := decide_eq_true c6
          clear c6
          by_cases c7 : a0 < (wrap64 ((-9223372036854775808) - a1))
          · rw [if_pos c7] at H
            have c7b0 : decide (a0 < (wrap64 ((-9223372036854775808) - a1))) = true := decide_eq_true c7
            clear c7
            obtain rfl := Option.some.inj H
            go_wp2
            go_ret
            exact ⟨by first | rfl | (simp; done) | (simp [*]; done), by repeat (first | exact Drawn0.refl _ | apply Drawn0.step)⟩
          · rw [if_neg c7] at H
            have c7b0 : decide (a0 < (wrap64 ((-9223372036854775808) - a1))) = false := decide_eq_false c7
            clear c7
            obtain rfl := Option.some.inj H
            go_wp2
            go_ret
            exact ⟨by first | rfl | (simp; done) | (simp [*]; done), by repeat (first | exact Drawn0.refl _ | apply Drawn0.step)⟩
        · rw [if_neg c6] at H
          have c6b0 : decide (a1 < 0) = false := decide_eq_false c6
          clear c6
          obtain rfl := Option.some.inj H
          go_wp2
          go_ret
          exact ⟨by first | rfl | (simp; done) | (simp [*]; done), by repeat (first | exact Drawn0.refl _ | apply Drawn0.step)⟩

/-! ### earshotref01_Add: function 40 -/
def earshotref01_Add.l0 : Nat → Int → List Int → Int → Int → Option (Int)
  | 0, _, _, _, _ => none
  | k + 1, x0, x1, x5, x6 => if x6 < (x1.length : Int) then (if 0 ≤ x6 then ((earshotref01_plus.f k x5 (rd x1 x6)).bind fun t134 => ((earshotref01_Sat.f k t134 x0).bind fun t135 => (earshotref01_Add.l0 k x0 x1 t135 (wrap64 (x6 + 1))))) else (none)) else (some x5)
def earshotref01_Add.f (k : Nat) (a0 : Int) (l1 : List Int) : Option (Int) := earshotref01_Add.l0 k a0 l1 0 0
theorem earshotref01_Add.mono_l : ∀ k, (∀ y0 y1 y2 y3, LeO (earshotref01_Add.l0 k y0 y1 y2 y3) (earshotref01_Add.l0 (k + 1) y0 y1 y2 y3))
  | 0 => fun _ _ _ _ r h => by simp [earshotref01_Add.l0] at h
  | k + 1 => by
    have ih0 := earshotref01_Add.mono_l k
    · intro y0 y1 y2 y3
      unfold earshotref01_Add.l0
      repeat' first
      | (with_reducible exact ih0 _ _ _ _)
      | (with_reducible exact earshotref01_Sat.mono _ _ _)
      | (with_reducible exact earshotref01_plus.mono _ _ _)
      | (with_reducible exact LeO.refl _)
      | (with_reducible exact LeO.none _)
      | (with_reducible refine LeO.ite ?_ ?_)
      | (with_reducible refine LeO.bind ?_ (fun _ => ?_))
      | exact ih0 _ _ _ _
      | exact earshotref01_Sat.mono _ _ _
      | exact earshotref01_plus.mono _ _ _
      | exact LeO.none _
      | refine LeO.ite ?_ ?_
      | refine LeO.bind ?_ (fun _ => ?_)
theorem earshotref01_Add.mono : ∀ a0 a1 k, LeO (earshotref01_Add.f k a0 a1) (earshotref01_Add.f (k + 1) a0 a1) := by
  intro a0 a1 k
  have ih0 := earshotref01_Add.mono_l k
  unfold earshotref01_Add.f
  repeat' first
      | (with_reducible exact ih0 _ _ _ _)
      | (with_reducible exact earshotref01_Sat.mono _ _ _)
      | (with_reducible exact earshotref01_plus.mono _ _ _)
      | (with_reducible exact LeO.refl _)
      | (with_reducible exact LeO.none _)
      | (with_reducible refine LeO.ite ?_ ?_)
      | (with_reducible refine LeO.bind ?_ (fun _ => ?_))
      | exact ih0 _ _ _ _
      | exact earshotref01_Sat.mono _ _ _
      | exact earshotref01_plus.mono _ _ _
      | exact LeO.none _
      | refine LeO.ite ?_ ?_
      | refine LeO.bind ?_ (fun _ => ?_)
set_option maxHeartbeats 8000000 in
set_option maxRecDepth 100000 in
theorem earshotref01_Add.calls (k : Nat) (a0 : Int) (A1 : Option Addr) (c1 : Nat) (l1 : List Int) (r : Int) (w : World) (hr1 : Kd.C (Kd.int .i64) w A1 l1.length l1) (hc1 : l1.length ≤ c1) (h : earshotref01_Add.f k a0 l1 = some r) :
    Calls Try.prog 40 #[.int .i64 a0, .slice A1 l1.length c1] w fun e w' => e = .returned (.int .i64 r) ∧ Drawn0 w w' := by
  have HR1 := Aside0.mk hr1
  have HC1 := Aside0.mk hc1
  clear hr1 hc1
  have H : (earshotref01_Add.l0 k a0 l1 0 0) = some r := h
  clear h
  have H' := Aside0.mk H
  clear H
  go_enter Try.func40, Try.ntmps40
  go_wp2
  go_loopg [5, 6] k (fun kq v5 v6 w' => ∃ (x5_1 : Int) (x6_1 : Int), v5 = .int .i64 x5_1 ∧ v6 = .int .i64 x6_1 ∧ Aside0 (earshotref01_Add.l0 kq a0 l1 x5_1 x6_1 = some r) ∧ Aside0 (kq ≤ k) ∧ Drawn0 w w')
  case atStart => exact ⟨(0), (0), (by first | rfl | (simp; done) | (simp [*]; done)), (by first | rfl | (simp; done) | (simp [*]; done)), H', ⟨Nat.le_refl _⟩, by repeat (first | exact Drawn0.refl _ | apply Drawn0.step)⟩
  case round =>
    clear H'
    try clear c1
    try clear p2
    obtain ⟨x5_1, x6_1, rfl, rfl, HA, HK1, ⟨m1, rfl⟩⟩ := hrel
    cases gk with
    | zero => exact absurd HA.out (by simp [earshotref01_Add.l0])
    | succ k1 =>
      have H := HA.out
      clear HA
      simp only [earshotref01_Add.l0] at H
      by_cases c3 : x6_1 < (l1.length : Int)
      · rw [if_pos c3] at H
        have c3b0 : decide (x6_1 < (l1.length : Int)) = true := decide_eq_true c3
        clear c3
        by_cases c4 : 0 ≤ x6_1
        · rw [if_pos c4] at H
          have c4b0 : decide (0 ≤ x6_1) = true := decide_eq_true c4
          clear c4
          replace H := Option.bind_eq_some_iff.mp H
          obtain ⟨t134, A50, H⟩ := H
          replace H : ((earshotref01_Sat.f k1 t134 a0).bind fun t135 => (earshotref01_Add.l0 k1 a0 l1 t135 (wrap64 (x6_1 + 1)))) = some r := H
          have A5 := Aside0.mk A50
          clear A50
          replace H := Option.bind_eq_some_iff.mp H
          obtain ⟨t135, A60, H⟩ := H
          replace H : (earshotref01_Add.l0 k1 a0 l1 t135 (wrap64 (x6_1 + 1))) = some r := H
          have A6 := Aside0.mk A60
          clear A60
          have H' := Aside0.mk H
          clear H
          have p133 : 0 ≤ (x6_1 : Int) := of_decide_eq_true (by first | (with_reducible assumption) | assumption)
          have q133 : x6_1 < (l1.length : Int) := of_decide_eq_true (by first | (with_reducible assumption) | assumption)
          obtain ⟨ad133, e133, hx133_0⟩ := Kd.at_int HR1.out x6_1 p133 q133
          cases e133
          replace p133 := eq_true p133
          replace q133 := eq_true q133
          go_wp2_with (first | ((with_reducible refine gate_callee (f := 48) rfl ?_); refine goesL_ (some 18) rfl rfl Try.func48 (by kernel_rfl) rfl #[.int .i64 x5_1, .int .i64 (rd l1 x6_1)] rfl (by (try simp only [List.map_toArray, List.map_cons, List.map_nil]); first | done | rfl | (simp only [List.length_drop, List.length_take]; rfl)) ?_; (with_reducible refine (earshotref01_plus.calls k1 x5_1 (rd l1 x6_1) t134 _ A5.out).mono ?_); rintro e w' ⟨rfl, ⟨nd, rfl⟩⟩; refine ⟨_, rfl, ?_⟩; (try clear A5)) | ((with_reducible refine gate_callee (f := 39) rfl ?_); refine goesL_ (some 20) rfl rfl Try.func39 (by kernel_rfl) rfl #[.int .i64 t134, .int .i64 a0] rfl (by (try simp only [List.map_toArray, List.map_cons, List.map_nil]); first | done | rfl | (simp only [List.length_drop, List.length_take]; rfl)) ?_; (with_reducible refine (earshotref01_Sat.calls k1 t134 a0 t135 _ A6.out).mono ?_); rintro e w' ⟨rfl, ⟨nd, rfl⟩⟩; refine ⟨_, rfl, ?_⟩; (try clear A6)))
          go_roundg k1
          case measure => have := HK1.out; omega
          case rel => exact ⟨(t135), (wrap64 (x6_1 + 1)), (by first | rfl | (simp; done) | (simp [*]; done)), (by first | rfl | (simp; done) | (simp [*]; done)), H', ⟨by have := HK1.out; omega⟩, by repeat (first | exact Drawn0.refl _ | apply Drawn0.step)⟩
        · rw [if_neg c4] at H
          exact absurd H (by simp)
      · rw [if_neg c3] at H
        have c3b0 : decide (x6_1 < (l1.length : Int)) = false := decide_eq_false c3
        clear c3
        obtain rfl := Option.some.inj H
        go_wp2
        go_ret
        exact ⟨by first | rfl | (simp; done) | (simp [*]; done), by repeat (first | exact Drawn0.refl _ | apply Drawn0.step)⟩

/-! ### earshotlaw01_tells: function 24 -/
def earshotlaw01_tells.f (k : Nat) (a0 : Int) (a1 : Int) (l2 : List Int) : Option (Bool) := (sat_Fits.f a0 a1).bind fun t136 => ((earshotref01_Fits.f k a0 a1).bind fun t137 => (if (t136 == t137) = true then ((sat_Sat.f a0 a1).bind fun t138 => ((earshotref01_Sat.f k a0 a1).bind fun t139 => (if t138 = t139 then ((sat_Add.f a1 l2).bind fun t140 => ((earshotref01_Add.f k a1 l2).bind fun t141 => (some (t140 == t141)))) else (some false)))) else (some false)))
theorem earshotlaw01_tells.mono : ∀ a0 a1 a2 k, LeO (earshotlaw01_tells.f k a0 a1 a2) (earshotlaw01_tells.f (k + 1) a0 a1 a2) := by
  intro a0 a1 a2 k
  unfold earshotlaw01_tells.f
  repeat' first
      | (with_reducible exact earshotref01_Add.mono _ _ _)
      | (with_reducible exact earshotref01_Fits.mono _ _ _)
      | (with_reducible exact earshotref01_Sat.mono _ _ _)
      | (with_reducible exact LeO.refl _)
      | (with_reducible exact LeO.none _)
      | (with_reducible refine LeO.ite ?_ ?_)
      | (with_reducible refine LeO.bind ?_ (fun _ => ?_))
      | exact earshotref01_Add.mono _ _ _
      | exact earshotref01_Fits.mono _ _ _
      | exact earshotref01_Sat.mono _ _ _
      | exact LeO.none _
      | refine LeO.ite ?_ ?_
      | refine LeO.bind ?_ (fun _ => ?_)
set_option maxHeartbeats 8000000 in
set_option maxRecDepth 100000 in
theorem earshotlaw01_tells.calls (k : Nat) (a0 : Int) (a1 : Int) (A2 : Option Addr) (c2 : Nat) (l2 : List Int) (r : Bool) (w : World) (hr2 : Kd.C (Kd.int .i64) w A2 l2.length l2) (hc2 : l2.length ≤ c2) (h : earshotlaw01_tells.f k a0 a1 l2 = some r) :
    Calls Try.prog 24 #[.int .i64 a0, .int .i64 a1, .slice A2 l2.length c2] w fun e w' => e = .returned (.bool r) ∧ Below w.heap.size w w' := by
  have HR2 := Aside0.mk hr2
  have HC2 := Aside0.mk hc2
  clear hr2 hc2
  have HB := Aside0.mk (Below.refl w.heap.size w)
  have H : ((sat_Fits.f a0 a1).bind fun t136 => ((earshotref01_Fits.f k a0 a1).bind fun t137 => (if (t136 == t137) = true then ((sat_Sat.f a0 a1).bind fun t138 => ((earshotref01_Sat.f k a0 a1).bind fun t139 => (if t138 = t139 then ((sat_Add.f a1 l2).bind fun t140 => ((earshotref01_Add.f k a1 l2).bind fun t141 => (some (t140 == t141)))) else (some false)))) else (some false)))) = some r := h
  clear h
  replace H := Option.bind_eq_some_iff.mp H
  obtain ⟨t136, A40, H⟩ := H
  replace H : ((earshotref01_Fits.f k a0 a1).bind fun t137 => (if (t136 == t137) = true then ((sat_Sat.f a0 a1).bind fun t138 => ((earshotref01_Sat.f k a0 a1).bind fun t139 => (if t138 = t139 then ((sat_Add.f a1 l2).bind fun t140 => ((earshotref01_Add.f k a1 l2).bind fun t141 => (some (t140 == t141)))) else (some false)))) else (some false))) = some r := H
  have A4 := Aside0.mk A40
  clear A40
  replace H := Option.bind_eq_some_iff.mp H
  obtain ⟨t137, A50, H⟩ := H
  replace H : (if (t136 == t137) = true then ((sat_Sat.f a0 a1).bind fun t138 => ((earshotref01_Sat.f k a0 a1).bind fun t139 => (if t138 = t139 then ((sat_Add.f a1 l2).bind fun t140 => ((earshotref01_Add.f k a1 l2).bind fun t141 => (some (t140 == t141)))) else (some false)))) else (some false)) = some r := H
  have A5 := Aside0.mk A50
  clear A50
  by_cases c6 : (t136 == t137) = true
  · rw [if_pos c6] at H
    have c6b0 : (t136 == t137) = true := c6
    (try (have c6b1 : decide (t136 = t137) = true := by simpa using c6))
    (try (have c6b2 : (t136 == t137) = true := by simpa using c6))
    clear c6
    replace H := Option.bind_eq_some_iff.mp H
    obtain ⟨t138, A70, H⟩ := H
    replace H : ((earshotref01_Sat.f k a0 a1).bind fun t139 => (if t138 = t139 then ((sat_Add.f a1 l2).bind fun t140 => ((earshotref01_Add.f k a1 l2).bind fun t141 => (some (t140 == t141)))) else (some false))) = some r := H
    have A7 := Aside0.mk A70
    clear A70
    replace H := Option.bind_eq_some_iff.mp H
    obtain ⟨t139, A80, H⟩ := H
    replace H : (if t138 = t139 then ((sat_Add.f a1 l2).bind fun t140 => ((earshotref01_Add.f k a1 l2).bind fun t141 => (some (t140 == t141)))) else (some false)) = some r := H
    have A8 := Aside0.mk A80
    clear A80
    by_cases c9 : t138 = t139
    · rw [if_pos c9] at H
      have c9b0 : (t138 == t139) = true := beq_iff_eq.mpr c9
      have c9b1 : (t138 != t139) = false := bne_eq_false_iff_eq.mpr c9
      clear c9
      replace H := Option.bind_eq_some_iff.mp H
      obtain ⟨t140, A100, H⟩ := H
      replace H : ((earshotref01_Add.f k a1 l2).bind fun t141 => (some (t140 == t141))) = some r := H
      have A10 := Aside0.mk A100
      clear A100
      replace H := Option.bind_eq_some_iff.mp H
      obtain ⟨t141, A110, H⟩ := H
      replace H : (some (t140 == t141)) = some r := H
      have A11 := Aside0.mk A110
      clear A110
      obtain rfl := Option.some.inj H
      go_enter Try.func24, Try.ntmps24
      go_wp2_with (first | ((with_reducible refine gate_callee (f := 15) rfl ?_); refine goesL_ (some 9) rfl rfl Try.func15 (by kernel_rfl) rfl #[.int .i64 a0, .int .i64 a1] rfl (by (try simp only [List.map_toArray, List.map_cons, List.map_nil]); first | done | rfl | (simp only [List.length_drop, List.length_take]; rfl)) ?_; (with_reducible refine (sat_Fits.calls a0 a1 t136 _ A4.out).mono ?_); rintro e w' ⟨rfl, ⟨nd, rfl⟩⟩; refine ⟨_, rfl, ?_⟩; (try clear A4)) | ((with_reducible refine gate_callee (f := 38) rfl ?_); refine goesL_ (some 12) rfl rfl Try.func38 (by kernel_rfl) rfl #[.int .i64 a0, .int .i64 a1] rfl (by (try simp only [List.map_toArray, List.map_cons, List.map_nil]); first | done | rfl | (simp only [List.length_drop, List.length_take]; rfl)) ?_; (with_reducible refine (earshotref01_Fits.calls k a0 a1 t137 _ A5.out).mono ?_); rintro e w' ⟨rfl, ⟨nd, rfl⟩⟩; refine ⟨_, rfl, ?_⟩; (try clear A5)) | (go_at_call 14; (with_reducible refine (sat_Sat.calls a0 a1 t138 _ A7.out).mono ?_); rintro e w' ⟨rfl, ⟨nd, rfl⟩⟩; (try clear A7)) | (go_at_call 39; (with_reducible refine (earshotref01_Sat.calls k a0 a1 t139 _ A8.out).mono ?_); rintro e w' ⟨rfl, ⟨nd, rfl⟩⟩; (try clear A8)) | (go_at_call 19; (with_reducible refine (sat_Add.calls a1 _ _ l2 t140 _ ?side1 ?side2 A10.out).mono ?_); (case side1 => repeat (first | exact HR2.out | (with_reducible refine Kd.C_alloc ?_ _) | (with_reducible refine Kd.C_drewN ?_ _) | (with_reducible refine Kd.C_drew ?_))); (case side2 => exact HC2.out); rintro e w12 ⟨rfl, hb⟩; have n0_ := Aside0.mk (below_step (by repeat (first | (with_reducible first | exact HB.out | apply below_alloc | apply pw_below_drewN | apply below_drew1) | exact HB.out)) hb); clear HB; have HB := n0_; clear n0_; (try clear hb); (try clear hb2); (try clear hk); (try clear hi); (try clear A10)) | (go_at_call 40; (with_reducible refine (earshotref01_Add.calls k a1 _ _ l2 t141 _ ?side1 ?side2 A11.out).mono ?_); (case side1 => repeat (first | exact (Kd.C_below HR2.out HB.out) | (with_reducible refine Kd.C_alloc ?_ _) | (with_reducible refine Kd.C_drewN ?_ _) | (with_reducible refine Kd.C_drew ?_))); (case side2 => exact HC2.out); rintro e w' ⟨rfl, ⟨nd, rfl⟩⟩; (try clear A11)))
      go_ret
      exact ⟨by first | rfl | (simp only [Int.tdiv_eq_ediv_of_nonneg (show (0 : Int) ≤ 9223372036854775807 by decide), Int.tdiv_eq_ediv_of_nonneg (show (0 : Int) ≤ 9223372036854775808 by decide)] <;> rfl) | (simp [errW_none, errW_some] <;> rfl) | (simp [*, errW_none, errW_some] <;> rfl), by repeat (first | (with_reducible first | exact HB.out | apply below_alloc | apply pw_below_drewN | apply below_drew1) | exact HB.out)⟩
    · rw [if_neg c9] at H
      have c9b0 : (t138 == t139) = false := beq_eq_false_iff_ne.mpr c9
      have c9b1 : (t138 != t139) = true := bne_iff_ne.mpr c9
      obtain rfl := Option.some.inj H
      go_enter Try.func24, Try.ntmps24
      go_wp2_with (first | ((with_reducible refine gate_callee (f := 15) rfl ?_); refine goesL_ (some 9) rfl rfl Try.func15 (by kernel_rfl) rfl #[.int .i64 a0, .int .i64 a1] rfl (by (try simp only [List.map_toArray, List.map_cons, List.map_nil]); first | done | rfl | (simp only [List.length_drop, List.length_take]; rfl)) ?_; (with_reducible refine (sat_Fits.calls a0 a1 t136 _ A4.out).mono ?_); rintro e w' ⟨rfl, ⟨nd, rfl⟩⟩; refine ⟨_, rfl, ?_⟩; (try clear A4)) | ((with_reducible refine gate_callee (f := 38) rfl ?_); refine goesL_ (some 12) rfl rfl Try.func38 (by kernel_rfl) rfl #[.int .i64 a0, .int .i64 a1] rfl (by (try simp only [List.map_toArray, List.map_cons, List.map_nil]); first | done | rfl | (simp only [List.length_drop, List.length_take]; rfl)) ?_; (with_reducible refine (earshotref01_Fits.calls k a0 a1 t137 _ A5.out).mono ?_); rintro e w' ⟨rfl, ⟨nd, rfl⟩⟩; refine ⟨_, rfl, ?_⟩; (try clear A5)) | (go_at_call 14; (with_reducible refine (sat_Sat.calls a0 a1 t138 _ A7.out).mono ?_); rintro e w' ⟨rfl, ⟨nd, rfl⟩⟩; (try clear A7)) | (go_at_call 39; (with_reducible refine (earshotref01_Sat.calls k a0 a1 t139 _ A8.out).mono ?_); rintro e w' ⟨rfl, ⟨nd, rfl⟩⟩; (try clear A8)))
      go_ret
      exact ⟨by first | rfl | (simp only [Int.tdiv_eq_ediv_of_nonneg (show (0 : Int) ≤ 9223372036854775807 by decide), Int.tdiv_eq_ediv_of_nonneg (show (0 : Int) ≤ 9223372036854775808 by decide)] <;> rfl) | (simp [errW_none, errW_some] <;> rfl) | (simp [*, errW_none, errW_some] <;> rfl), by repeat (first | (with_reducible first | exact HB.out | apply below_alloc | apply pw_below_drewN | apply below_drew1) | exact HB.out)⟩
  · rw [if_neg c6] at H
    have c6b0 : (t136 == t137) = false := by simpa using c6
    (try (have c6b1 : decide (t136 = t137) = false := by simpa using c6))
    (try (have c6b2 : (t136 == t137) = false := by simpa using c6))
    (try (have c6b3 : ¬ (t136 = t137) := by simpa using c6))
    clear c6
    obtain rfl := Option.some.inj H
    go_enter Try.func24, Try.ntmps24
    go_wp2_with (first | ((with_reducible refine gate_callee (f := 15) rfl ?_); refine goesL_ (some 9) rfl rfl Try.func15 (by kernel_rfl) rfl #[.int .i64 a0, .int .i64 a1] rfl (by (try simp only [List.map_toArray, List.map_cons, List.map_nil]); first | done | rfl | (simp only [List.length_drop, List.length_take]; rfl)) ?_; (with_reducible refine (sat_Fits.calls a0 a1 t136 _ A4.out).mono ?_); rintro e w' ⟨rfl, ⟨nd, rfl⟩⟩; refine ⟨_, rfl, ?_⟩; (try clear A4)) | ((with_reducible refine gate_callee (f := 38) rfl ?_); refine goesL_ (some 12) rfl rfl Try.func38 (by kernel_rfl) rfl #[.int .i64 a0, .int .i64 a1] rfl (by (try simp only [List.map_toArray, List.map_cons, List.map_nil]); first | done | rfl | (simp only [List.length_drop, List.length_take]; rfl)) ?_; (with_reducible refine (earshotref01_Fits.calls k a0 a1 t137 _ A5.out).mono ?_); rintro e w' ⟨rfl, ⟨nd, rfl⟩⟩; refine ⟨_, rfl, ?_⟩; (try clear A5)))
    go_ret
    exact ⟨by first | rfl | (simp only [Int.tdiv_eq_ediv_of_nonneg (show (0 : Int) ≤ 9223372036854775807 by decide), Int.tdiv_eq_ediv_of_nonneg (show (0 : Int) ≤ 9223372036854775808 by decide)] <;> rfl) | (simp [errW_none, errW_some] <;> rfl) | (simp [*, errW_none, errW_some] <;> rfl), by repeat (first | (with_reducible first | exact HB.out | apply below_alloc | apply pw_below_drewN | apply below_drew1) | exact HB.out)⟩

end Go.Proofs.Ytpaednaeehlofaa.PSatTells
