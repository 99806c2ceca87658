/- Written by xp.py, a program of this session: contracts of the Go functions that a law reaches: each call returns what the Lean function of its name tells. Conditions: those that each theorem names, none else. -/
import Derived.Test.YtpaednaeehlofaaPRoundTellsx0
import Derived.Test.YtpaednaeehlofaaPRoundTellsx1
import Derived.Test.YtpaednaeehlofaaPRoundTellsx2
namespace Go.Proofs.Ytpaednaeehlofaa.PRoundTells
open Go.RowKit Go.Proofs.YtpaednaeehlofaaW.PrintWords Go.Proofs.YtpaednaeehlofaaW.PrintLast Go.Proofs.YtpaednaeehlofaaW.PrintMore
attribute [local go_sem] max2_int min2_int max_two min_two max_three min_three max_four min_four   -- for this text's walks alone
set_option linter.unusedVariables false
set_option linter.unusedSimpArgs false

/-! ### earshotref02_Scale: function 32 -/
mutual
def earshotref02_Scale.j0 : Nat → Int → Int → Int → Bool → Option (Int)
  | 0, _, _, _, _ => none
  | k + 1, x0, x1, x2, x21 => if x21 = true then (some 0) else ((earshotref01_Mul.f k x0 x1).bind fun bt125 => (if bt125.2 = true then (earshotref02_Scale.j1 k x2 false bt125.1 bt125.2) else (earshotref02_Scale.j1 k x2 (decide (x0 < 0)) bt125.1 bt125.2)))
def earshotref02_Scale.j1 : Nat → Int → Bool → Int → Bool → Option (Int)
  | 0, _, _, _, _ => none
  | k + 1, x2, x31, x128000, x128001 => if x31 = true then (some (-2147483648)) else (if x128001 = true then ((earshotref02_Half.f k x128000 x2).bind fun t128 => ((earshotref01_Sat.f k t128 32).bind fun t129 => (some t129))) else (some 2147483647))
end
def earshotref02_Scale.f (k : Nat) (a0 : Int) (a1 : Int) (a2 : Int) : Option (Int) := if a1 < 0 then (earshotref02_Scale.j0 k a0 a1 a2 true) else (if a1 > 32767 then (earshotref02_Scale.j0 k a0 a1 a2 true) else (if a2 < 0 then (earshotref02_Scale.j0 k a0 a1 a2 true) else (earshotref02_Scale.j0 k a0 a1 a2 (decide (a2 > 30)))))
theorem earshotref02_Scale.mono_l : ∀ k, (∀ y0 y1 y2 y3, LeO (earshotref02_Scale.j0 k y0 y1 y2 y3) (earshotref02_Scale.j0 (k + 1) y0 y1 y2 y3)) ∧ (∀ y0 y1 y2 y3, LeO (earshotref02_Scale.j1 k y0 y1 y2 y3) (earshotref02_Scale.j1 (k + 1) y0 y1 y2 y3))
  | 0 => ⟨fun _ _ _ _ r h => by simp [earshotref02_Scale.j0] at h, fun _ _ _ _ r h => by simp [earshotref02_Scale.j1] at h⟩
  | k + 1 => by
    obtain ⟨ih0, ih1⟩ := earshotref02_Scale.mono_l k
    refine ⟨?_, ?_⟩
    · intro y0 y1 y2 y3
      unfold earshotref02_Scale.j0
      repeat' first
      | (with_reducible exact ih0 _ _ _ _)
      | (with_reducible exact ih1 _ _ _ _)
      | (with_reducible exact earshotref01_Mul.mono _ _ _)
      | (with_reducible exact earshotref01_Sat.mono _ _ _)
      | (with_reducible exact earshotref02_Half.mono _ _ _)
      | (with_reducible exact LeO.refl _)
      | (with_reducible exact LeO.none _)
      | (with_reducible refine LeO.ite ?_ ?_)
      | (with_reducible refine LeO.bind ?_ (fun _ => ?_))
      | exact ih0 _ _ _ _
      | exact ih1 _ _ _ _
      | exact earshotref01_Mul.mono _ _ _
      | exact earshotref01_Sat.mono _ _ _
      | exact earshotref02_Half.mono _ _ _
      | exact LeO.none _
      | refine LeO.ite ?_ ?_
      | refine LeO.bind ?_ (fun _ => ?_)
    · intro y0 y1 y2 y3
      unfold earshotref02_Scale.j1
      repeat' first
      | (with_reducible exact ih0 _ _ _ _)
      | (with_reducible exact ih1 _ _ _ _)
      | (with_reducible exact earshotref01_Mul.mono _ _ _)
      | (with_reducible exact earshotref01_Sat.mono _ _ _)
      | (with_reducible exact earshotref02_Half.mono _ _ _)
      | (with_reducible exact LeO.refl _)
      | (with_reducible exact LeO.none _)
      | (with_reducible refine LeO.ite ?_ ?_)
      | (with_reducible refine LeO.bind ?_ (fun _ => ?_))
      | exact ih0 _ _ _ _
      | exact ih1 _ _ _ _
      | exact earshotref01_Mul.mono _ _ _
      | exact earshotref01_Sat.mono _ _ _
      | exact earshotref02_Half.mono _ _ _
      | exact LeO.none _
      | refine LeO.ite ?_ ?_
      | refine LeO.bind ?_ (fun _ => ?_)
theorem earshotref02_Scale.mono : ∀ a0 a1 a2 k, LeO (earshotref02_Scale.f k a0 a1 a2) (earshotref02_Scale.f (k + 1) a0 a1 a2) := by
  intro a0 a1 a2 k
  obtain ⟨ih0, ih1⟩ := earshotref02_Scale.mono_l k
  unfold earshotref02_Scale.f
  repeat' first
      | (with_reducible exact ih0 _ _ _ _)
      | (with_reducible exact ih1 _ _ _ _)
      | (with_reducible exact earshotref01_Mul.mono _ _ _)
      | (with_reducible exact earshotref01_Sat.mono _ _ _)
      | (with_reducible exact earshotref02_Half.mono _ _ _)
      | (with_reducible exact LeO.refl _)
      | (with_reducible exact LeO.none _)
      | (with_reducible refine LeO.ite ?_ ?_)
      | (with_reducible refine LeO.bind ?_ (fun _ => ?_))
      | exact ih0 _ _ _ _
      | exact ih1 _ _ _ _
      | exact earshotref01_Mul.mono _ _ _
      | exact earshotref01_Sat.mono _ _ _
      | exact earshotref02_Half.mono _ _ _
      | exact LeO.none _
      | refine LeO.ite ?_ ?_
      | refine LeO.bind ?_ (fun _ => ?_)
set_option maxHeartbeats 8000000 in
set_option maxRecDepth 100000 in
theorem earshotref02_Scale.calls (k : Nat) (a0 : Int) (a1 : Int) (a2 : Int) (r : Int) (w : World) (h : earshotref02_Scale.f k a0 a1 a2 = some r) :
    Calls Try.prog 32 #[.int .i64 a0, .int .i64 a1, .int .i64 a2] w fun e w' => e = .returned (.int .i64 r) ∧ Below w.heap.size w w' := by
  have hu37 := Try.underlying37
  have HB := Aside0.mk (Below.refl w.heap.size w)
  have H : (if a1 < 0 then (earshotref02_Scale.j0 k a0 a1 a2 true) else (if a1 > 32767 then (earshotref02_Scale.j0 k a0 a1 a2 true) else (if a2 < 0 then (earshotref02_Scale.j0 k a0 a1 a2 true) else (earshotref02_Scale.j0 k a0 a1 a2 (decide (a2 > 30)))))) = some r := h
  clear h
  have HC4 := Aside0.mk H
  clear H
  go_enter Try.func32, Try.ntmps32
  go_upto_region 1 with (fail)
  go_cut [21] (fun v21 wc => ∃ (kq : Nat) (x21_3 : Bool), v21 = .bool x21_3 ∧ Aside0 (earshotref02_Scale.j0 kq a0 a1 a2 x21_3 = some r) ∧ Aside0 (kq ≤ k) ∧ Aside0 (Below w.heap.size w wc))
  case first =>
    have H := HC4.out
    clear HC4
    by_cases c5 : a1 < 0
    · rw [if_pos c5] at H
      have c5b0 : decide (a1 < 0) = true := decide_eq_true c5
      clear c5
      (first | rw [c5b0] | (simp only [i64_w, i32_w]; rw [c5b0]) | skip)
      have H' := Aside0.mk H
      clear H
      go_wp2
      go_meet
      case rel => exact ⟨_, (true), (by first | rfl | (simp; done) | (simp [*]; done)), H', ⟨by first | omega | exact Nat.le_refl _⟩, ⟨by repeat (first | (with_reducible first | exact HB.out | apply below_alloc | apply pw_below_drewN | apply below_drew1) | exact HB.out)⟩⟩
    · rw [if_neg c5] at H
      have c5b0 : decide (a1 < 0) = false := decide_eq_false c5
      clear c5
      (first | rw [c5b0] | (simp only [i64_w, i32_w]; rw [c5b0]) | skip)
      by_cases c6 : a1 > 32767
      · rw [if_pos c6] at H
        have c6b0 : decide (32767 < a1) = true := decide_eq_true c6
        clear c6
        have H' := Aside0.mk H
        clear H
        go_wp2
        go_meet
        case rel => exact ⟨_, (true), (by first | rfl | (simp; done) | (simp [*]; done)), H', ⟨by first | omega | exact Nat.le_refl _⟩, ⟨by repeat (first | (with_reducible first | exact HB.out | apply below_alloc | apply pw_below_drewN | apply below_drew1) | exact HB.out)⟩⟩
      · rw [if_neg c6] at H
        have c6b0 : decide (32767 < a1) = false := decide_eq_false c6
        clear c6
        by_cases c7 : a2 < 0
        · rw [if_pos c7] at H
          have c7b0 : decide (a2 < 0) = true := decide_eq_true c7
          clear c7
          have H' := Aside0.mk H
          clear H
          go_wp2
          go_meet
          case rel => exact ⟨_, (true), (by first | rfl | (simp; done) | (simp [*]; done)), H', ⟨by first | omega | exact Nat.le_refl _⟩, ⟨by repeat (first | (with_reducible first | exact HB.out | apply below_alloc | apply pw_below_drewN | apply below_drew1) | exact HB.out)⟩⟩
        · rw [if_neg c7] at H
          have c7b0 : decide (a2 < 0) = false := decide_eq_false c7
          clear c7
          have H' := Aside0.mk H
          clear H
          go_wp2
          go_meet
          case rel => exact ⟨_, (decide (a2 > 30)), (by first | rfl | (simp; done) | (simp [*]; done)), H', ⟨by first | omega | exact Nat.le_refl _⟩, ⟨by repeat (first | (with_reducible first | exact HB.out | apply below_alloc | apply pw_below_drewN | apply below_drew1) | exact HB.out)⟩⟩
  case rest =>
    clear HC4
    try clear p2
    try clear c3
    try clear c5
    try clear c5b0
    try clear c6
    try clear c6b0
    try clear c7
    try clear c7b0
    obtain ⟨kq, x21_3, rfl, HA, HJ3, HB⟩ := hcut
    cases kq with
    | zero => exact absurd HA.out (by simp [earshotref02_Scale.j0])
    | succ kj3 =>
      have H := HA.out
      clear HA
      simp only [earshotref02_Scale.j0] at H
      by_cases c8 : x21_3 = true
      · subst c8
        have H1 : (some 0) = some r := by rw [if_pos rfl] at H; exact H
        clear H
        have H := H1
        clear H1
        obtain rfl := Option.some.inj H
        go_wp2
        go_ret
        exact ⟨by first | rfl | (simp only [Int.tdiv_eq_ediv_of_nonneg (show (0 : Int) ≤ 9223372036854775807 by decide), Int.tdiv_eq_ediv_of_nonneg (show (0 : Int) ≤ 9223372036854775808 by decide)] <;> rfl) | (simp [errW_none, errW_some] <;> rfl) | (simp [*, errW_none, errW_some] <;> rfl), by repeat (first | (with_reducible first | exact HB.out | apply below_alloc | apply pw_below_drewN | apply below_drew1) | exact HB.out)⟩
      · replace c8 := Bool.eq_false_iff.mpr c8
        subst c8
        have H1 : ((earshotref01_Mul.f kj3 a0 a1).bind fun bt125 => (if bt125.2 = true then (earshotref02_Scale.j1 kj3 a2 false bt125.1 bt125.2) else (earshotref02_Scale.j1 kj3 a2 (decide (a0 < 0)) bt125.1 bt125.2))) = some r := by rw [if_neg (show ¬ (false = true) by decide)] at H; exact H
        clear H
        have H := H1
        clear H1
        replace H := Option.bind_eq_some_iff.mp H
        obtain ⟨⟨t125, t126⟩, A90, H⟩ := H
        replace H : (if t126 = true then (earshotref02_Scale.j1 kj3 a2 false t125 t126) else (earshotref02_Scale.j1 kj3 a2 (decide (a0 < 0)) t125 t126)) = some r := H
        have A9 := Aside0.mk A90
        clear A90
        have HC10 := Aside0.mk H
        clear H
        go_upto_region 4 with (first | ((with_reducible refine gate_callee (f := 22) rfl ?_); refine goesL_ (some 24) rfl rfl Try.func22 (by kernel_rfl) rfl #[.int .i64 a0, .int .i64 a1] rfl (by (try simp only [List.map_toArray, List.map_cons, List.map_nil]); first | done | rfl | (simp only [List.length_drop, List.length_take]; rfl)) ?_; (with_reducible refine (earshotref01_Mul.calls kj3 a0 a1 t125 t126 _ A9.out).mono ?_); rintro e w11 ⟨rfl, hb⟩; refine ⟨_, rfl, ?_⟩; have n0_ := Aside0.mk (below_step (by repeat (first | (with_reducible first | exact HB.out | apply below_alloc | apply pw_below_drewN | apply below_drew1) | exact HB.out)) hb); clear HB; have HB := n0_; clear n0_; (try clear hb); (try clear hb2); (try clear hk); (try clear hi); (try clear A9)) | ((with_reducible refine gate_dst (N := 7) rfl ?_); refine box_event ?hg (N := 7) ?hd (cs := #[.int .i64 0, .bool false]) (t := 37) ?hr ?_; (case hd => rfl); (case hg => rfl); (case hr => first | (go_simp; done) | (go_simp; rfl)); intro gb127 hg w12 hbox hb; have n0_ := Aside0.mk (below_step (by repeat (first | (with_reducible first | exact HB.out | apply below_alloc | apply pw_below_drewN | apply below_drew1) | exact HB.out)) hb); have n1_ := Aside0.mk (hbox); have n2_ := Aside0.mk ((by rw [hg]; exact (below_size (by repeat (first | (with_reducible first | exact HB.out | apply below_alloc | apply pw_below_drewN | apply below_drew1) | exact HB.out))) : w.heap.size ≤ gb127)); have n3_ := Aside0.mk ((by rw [hg]; exact (below_size (by repeat (first | (with_reducible first | exact HB.out | apply below_alloc | apply pw_below_drewN | apply below_drew1) | exact HB.out))) : w.heap.size ≤ gb127)); clear HB; have HB := n0_; have BK127 := n1_; have GW127 := n2_; have GE127 := n3_; clear n0_ n1_ n2_ n3_; clear hb hbox hg; have hcz13_0 : w12.cell? ⟨gb127, 0, none⟩ = some (.int .i64 0) := (blk_cell BK127.out 0).trans rfl; have hcz13_1 : w12.cell? ⟨gb127, 1, none⟩ = some (.bool false) := (blk_cell BK127.out 1).trans rfl; have hfz13_0 := blk_frozen BK127.out 0; have hfz13_1 := blk_frozen BK127.out 1))
        (try simp only [Act.put, List.setIfInBounds_toArray, List.set_cons_zero, List.set_cons_succ])
        go_cut [31] (fun v31 wc => ∃ (kq : Nat) (x31_9 : Bool), v31 = .bool x31_9 ∧ Aside0 (earshotref02_Scale.j1 kq a2 x31_9 t125 t126 = some r) ∧ Aside0 (kq ≤ kj3) ∧ Aside0 (wc.heap[gb127]? = some (.cells #[.int .i64 t125, .bool t126] 37 (0, 0))) ∧ Aside0 (Below w.heap.size w wc))
        case first =>
          have H := HC10.out
          clear HC10
          by_cases c14 : t126 = true
          · subst c14
            have H1 : (earshotref02_Scale.j1 kj3 a2 false t125 true) = some r := by rw [if_pos rfl] at H; exact H
            clear H
            have H := H1
            clear H1
            have H' := Aside0.mk H
            clear H
            have hcz15_0 : w12.cell? ⟨gb127, 0, none⟩ = some (.int .i64 0) := (blk_cell BK127.out 0).trans rfl
            have hcz15_1 : w12.cell? ⟨gb127, 1, none⟩ = some (.bool false) := (blk_cell BK127.out 1).trans rfl
            have hfz15_0 := blk_frozen BK127.out 0
            have hfz15_1 := blk_frozen BK127.out 1
            go_wp2
            go_meet
            case rel => exact ⟨_, (false), (by first | rfl | (simp; done) | (simp [*]; done)), H', ⟨by have := HJ3.out; first | omega | exact Nat.le_refl _⟩, ⟨by (with_reducible repeat (first | refine blk_drewN ?_ _ | refine blk_drew ?_ | refine blk_alloc ?_ _)); refine blk_put (cs := #[.int .i64 t125, .bool false]) ?_ 1 _ rfl; (with_reducible repeat (first | refine blk_drewN ?_ _ | refine blk_drew ?_ | refine blk_alloc ?_ _)); refine blk_put (cs := #[.int .i64 0, .bool false]) ?_ 0 _ rfl; (with_reducible repeat (first | refine blk_drewN ?_ _ | refine blk_drew ?_ | refine blk_alloc ?_ _)); exact BK127.out⟩, ⟨by repeat (first | (with_reducible first | exact HB.out | apply below_alloc | apply pw_below_drewN | apply below_drew1 | refine below_set ?_ GE127.out) | exact HB.out)⟩⟩
          · replace c14 := Bool.eq_false_iff.mpr c14
            subst c14
            have H1 : (earshotref02_Scale.j1 kj3 a2 (decide (a0 < 0)) t125 false) = some r := by rw [if_neg (show ¬ (false = true) by decide)] at H; exact H
            clear H
            have H := H1
            clear H1
            have H' := Aside0.mk H
            clear H
            have hcz16_0 : w12.cell? ⟨gb127, 0, none⟩ = some (.int .i64 0) := (blk_cell BK127.out 0).trans rfl
            have hcz16_1 : w12.cell? ⟨gb127, 1, none⟩ = some (.bool false) := (blk_cell BK127.out 1).trans rfl
            have hfz16_0 := blk_frozen BK127.out 0
            have hfz16_1 := blk_frozen BK127.out 1
            go_wp2
            go_meet
            case rel => exact ⟨_, (decide (a0 < 0)), (by first | rfl | (simp; done) | (simp [*]; done)), H', ⟨by have := HJ3.out; first | omega | exact Nat.le_refl _⟩, ⟨by (with_reducible repeat (first | refine blk_drewN ?_ _ | refine blk_drew ?_ | refine blk_alloc ?_ _)); refine blk_put (cs := #[.int .i64 t125, .bool false]) ?_ 1 _ rfl; (with_reducible repeat (first | refine blk_drewN ?_ _ | refine blk_drew ?_ | refine blk_alloc ?_ _)); refine blk_put (cs := #[.int .i64 0, .bool false]) ?_ 0 _ rfl; (with_reducible repeat (first | refine blk_drewN ?_ _ | refine blk_drew ?_ | refine blk_alloc ?_ _)); exact BK127.out⟩, ⟨by repeat (first | (with_reducible first | exact HB.out | apply below_alloc | apply pw_below_drewN | apply below_drew1 | refine below_set ?_ GE127.out) | exact HB.out)⟩⟩
        case rest =>
          clear HC10
          try clear c1
          try clear c2
          try clear p2
          try clear c3
          try clear c5
          try clear c5b0
          try clear c6
          try clear c6b0
          try clear c7
          try clear c7b0
          try clear c8
          try clear c14
          try clear hcz13_0
          try clear hcz13_1
          try clear hcz15_0
          try clear hcz15_1
          try clear hcz16_0
          try clear hcz16_1
          try clear hfz13_0
          try clear hfz13_1
          try clear hfz15_0
          try clear hfz15_1
          try clear hfz16_0
          try clear hfz16_1
          try clear p2
          obtain ⟨kq, x31_9, rfl, HA, HJ9, BK127, HB⟩ := hcut
          cases kq with
          | zero => exact absurd HA.out (by simp [earshotref02_Scale.j1])
          | succ kj9 =>
            have H := HA.out
            clear HA
            simp only [earshotref02_Scale.j1] at H
            by_cases c17 : x31_9 = true
            · subst c17
              have H1 : (some (-2147483648)) = some r := by rw [if_pos rfl] at H; exact H
              clear H
              have H := H1
              clear H1
              obtain rfl := Option.some.inj H
              go_wp2
              go_ret
              exact ⟨by first | rfl | (simp only [Int.tdiv_eq_ediv_of_nonneg (show (0 : Int) ≤ 9223372036854775807 by decide), Int.tdiv_eq_ediv_of_nonneg (show (0 : Int) ≤ 9223372036854775808 by decide)] <;> rfl) | (simp [errW_none, errW_some] <;> rfl) | (simp [*, errW_none, errW_some] <;> rfl), by repeat (first | (with_reducible first | exact HB.out | apply below_alloc | apply pw_below_drewN | apply below_drew1 | refine below_set ?_ GE127.out) | exact HB.out)⟩
            · replace c17 := Bool.eq_false_iff.mpr c17
              subst c17
              have H1 : (if t126 = true then ((earshotref02_Half.f kj9 t125 a2).bind fun t128 => ((earshotref01_Sat.f kj9 t128 32).bind fun t129 => (some t129))) else (some 2147483647)) = some r := by rw [if_neg (show ¬ (false = true) by decide)] at H; exact H
              clear H
              have H := H1
              clear H1
              by_cases c18 : t126 = true
              · subst c18
                have H1 : ((earshotref02_Half.f kj9 t125 a2).bind fun t128 => ((earshotref01_Sat.f kj9 t128 32).bind fun t129 => (some t129))) = some r := by rw [if_pos rfl] at H; exact H
                clear H
                have H := H1
                clear H1
                replace H := Option.bind_eq_some_iff.mp H
                obtain ⟨t128, A190, H⟩ := H
                replace H : ((earshotref01_Sat.f kj9 t128 32).bind fun t129 => (some t129)) = some r := H
                have A19 := Aside0.mk A190
                clear A190
                replace H := Option.bind_eq_some_iff.mp H
                obtain ⟨t129, A200, H⟩ := H
                replace H : (some t129) = some r := H
                have A20 := Aside0.mk A200
                clear A200
                obtain rfl := Option.some.inj H
                have hcz21_0 : wc.cell? ⟨gb127, 0, none⟩ = some (.int .i64 t125) := (blk_cell BK127.out 0).trans rfl
                have hcz21_1 : wc.cell? ⟨gb127, 1, none⟩ = some (.bool true) := (blk_cell BK127.out 1).trans rfl
                have hfz21_0 := blk_frozen BK127.out 0
                have hfz21_1 := blk_frozen BK127.out 1
                go_wp2_with (first | ((with_reducible refine gate_callee (f := 42) rfl ?_); refine goesL_ (some 38) rfl rfl Try.func42 (by kernel_rfl) rfl #[.int .i64 t125, .int .i64 a2] rfl (by (try simp only [List.map_toArray, List.map_cons, List.map_nil]); first | done | rfl | (simp only [List.length_drop, List.length_take]; rfl)) ?_; (with_reducible refine (earshotref02_Half.calls kj9 t125 a2 t128 _ A19.out).mono ?_); rintro e w' ⟨rfl, ⟨nd, rfl⟩⟩; refine ⟨_, rfl, ?_⟩; (try clear A19)) | ((with_reducible refine gate_callee (f := 39) rfl ?_); refine goesL_ (some 39) rfl rfl Try.func39 (by kernel_rfl) rfl #[.int .i64 t128, .int .i64 32] rfl (by (try simp only [List.map_toArray, List.map_cons, List.map_nil]); first | done | rfl | (simp only [List.length_drop, List.length_take]; rfl)) ?_; (with_reducible refine (earshotref01_Sat.calls kj9 t128 32 t129 _ A20.out).mono ?_); rintro e w' ⟨rfl, ⟨nd, rfl⟩⟩; refine ⟨_, rfl, ?_⟩; (try clear A20)))
                go_ret
                exact ⟨by first | rfl | (simp only [Int.tdiv_eq_ediv_of_nonneg (show (0 : Int) ≤ 9223372036854775807 by decide), Int.tdiv_eq_ediv_of_nonneg (show (0 : Int) ≤ 9223372036854775808 by decide)] <;> rfl) | (simp [errW_none, errW_some] <;> rfl) | (simp [*, errW_none, errW_some] <;> rfl), by repeat (first | (with_reducible first | exact HB.out | apply below_alloc | apply pw_below_drewN | apply below_drew1 | refine below_set ?_ GE127.out) | exact HB.out)⟩
              · replace c18 := Bool.eq_false_iff.mpr c18
                subst c18
                have H1 : (some 2147483647) = some r := by rw [if_neg (show ¬ (false = true) by decide)] at H; exact H
                clear H
                have H := H1
                clear H1
                obtain rfl := Option.some.inj H
                have hcz22_0 : wc.cell? ⟨gb127, 0, none⟩ = some (.int .i64 t125) := (blk_cell BK127.out 0).trans rfl
                have hcz22_1 : wc.cell? ⟨gb127, 1, none⟩ = some (.bool false) := (blk_cell BK127.out 1).trans rfl
                have hfz22_0 := blk_frozen BK127.out 0
                have hfz22_1 := blk_frozen BK127.out 1
                go_wp2
                go_ret
                exact ⟨by first | rfl | (simp only [Int.tdiv_eq_ediv_of_nonneg (show (0 : Int) ≤ 9223372036854775807 by decide), Int.tdiv_eq_ediv_of_nonneg (show (0 : Int) ≤ 9223372036854775808 by decide)] <;> rfl) | (simp [errW_none, errW_some] <;> rfl) | (simp [*, errW_none, errW_some] <;> rfl), by repeat (first | (with_reducible first | exact HB.out | apply below_alloc | apply pw_below_drewN | apply below_drew1 | refine below_set ?_ GE127.out) | exact HB.out)⟩

/-! ### earshotlaw02_tells: function 31 -/
def earshotlaw02_tells.f (k : Nat) (a0 : Int) (a1 : Int) (a2 : Int) : Option (Bool) := (round_Parts.f a0 a1).bind fun bt130 => (if a1 < 1 then (if bt130.1 = 0 then (if bt130.2 = 0 then ((round_Div.f a0 a1).bind fun t132 => (if t132 = 0 then ((round_Half.f a0 a2).bind fun t133 => ((earshotref02_Half.f k a0 a2).bind fun t134 => (some (t133 == t134)))) else (some false))) else (some false)) else (some false)) else ((earshotref02_Quot.f a0 a1).bind fun t135 => (if bt130.1 = t135 then ((earshotref02_Rest.f a0 a1).bind fun t136 => (if bt130.2 = t136 then ((round_Div.f a0 a1).bind fun t137 => ((earshotref02_Div.f a0 a1).bind fun t138 => (if t137 = t138 then ((round_Half.f a0 a2).bind fun t139 => ((earshotref02_Half.f k a0 a2).bind fun t140 => (if t139 = t140 then ((round_Scale.f k a0 a1 a2).bind fun t141 => ((earshotref02_Scale.f k a0 a1 a2).bind fun t142 => (some (t141 == t142)))) else (some false)))) else (some false)))) else (some false))) else (some false))))
theorem earshotlaw02_tells.mono : ∀ a0 a1 a2 k, LeO (earshotlaw02_tells.f k a0 a1 a2) (earshotlaw02_tells.f (k + 1) a0 a1 a2) := by
  intro a0 a1 a2 k
  unfold earshotlaw02_tells.f
  repeat' first
      | (with_reducible exact earshotref02_Half.mono _ _ _)
      | (with_reducible exact earshotref02_Scale.mono _ _ _ _)
      | (with_reducible exact round_Scale.mono _ _ _ _)
      | (with_reducible exact LeO.refl _)
      | (with_reducible exact LeO.none _)
      | (with_reducible refine LeO.ite ?_ ?_)
      | (with_reducible refine LeO.bind ?_ (fun _ => ?_))
      | exact earshotref02_Half.mono _ _ _
      | exact earshotref02_Scale.mono _ _ _ _
      | exact round_Scale.mono _ _ _ _
      | exact LeO.none _
      | refine LeO.ite ?_ ?_
      | refine LeO.bind ?_ (fun _ => ?_)
set_option maxHeartbeats 8000000 in
set_option maxRecDepth 100000 in
theorem earshotlaw02_tells.calls (k : Nat) (a0 : Int) (a1 : Int) (a2 : Int) (r : Bool) (w : World) (h : earshotlaw02_tells.f k a0 a1 a2 = some r) :
    Calls Try.prog 31 #[.int .i64 a0, .int .i64 a1, .int .i64 a2] w fun e w' => e = .returned (.bool r) ∧ Below w.heap.size w w' := by
  have HB := Aside0.mk (Below.refl w.heap.size w)
  have H : ((round_Parts.f a0 a1).bind fun bt130 => (if a1 < 1 then (if bt130.1 = 0 then (if bt130.2 = 0 then ((round_Div.f a0 a1).bind fun t132 => (if t132 = 0 then ((round_Half.f a0 a2).bind fun t133 => ((earshotref02_Half.f k a0 a2).bind fun t134 => (some (t133 == t134)))) else (some false))) else (some false)) else (some false)) else ((earshotref02_Quot.f a0 a1).bind fun t135 => (if bt130.1 = t135 then ((earshotref02_Rest.f a0 a1).bind fun t136 => (if bt130.2 = t136 then ((round_Div.f a0 a1).bind fun t137 => ((earshotref02_Div.f a0 a1).bind fun t138 => (if t137 = t138 then ((round_Half.f a0 a2).bind fun t139 => ((earshotref02_Half.f k a0 a2).bind fun t140 => (if t139 = t140 then ((round_Scale.f k a0 a1 a2).bind fun t141 => ((earshotref02_Scale.f k a0 a1 a2).bind fun t142 => (some (t141 == t142)))) else (some false)))) else (some false)))) else (some false))) else (some false))))) = some r := h
  clear h
  replace H := Option.bind_eq_some_iff.mp H
  obtain ⟨⟨t130, t131⟩, A40, H⟩ := H
  replace H : (if a1 < 1 then (if t130 = 0 then (if t131 = 0 then ((round_Div.f a0 a1).bind fun t132 => (if t132 = 0 then ((round_Half.f a0 a2).bind fun t133 => ((earshotref02_Half.f k a0 a2).bind fun t134 => (some (t133 == t134)))) else (some false))) else (some false)) else (some false)) else ((earshotref02_Quot.f a0 a1).bind fun t135 => (if t130 = t135 then ((earshotref02_Rest.f a0 a1).bind fun t136 => (if t131 = t136 then ((round_Div.f a0 a1).bind fun t137 => ((earshotref02_Div.f a0 a1).bind fun t138 => (if t137 = t138 then ((round_Half.f a0 a2).bind fun t139 => ((earshotref02_Half.f k a0 a2).bind fun t140 => (if t139 = t140 then ((round_Scale.f k a0 a1 a2).bind fun t141 => ((earshotref02_Scale.f k a0 a1 a2).bind fun t142 => (some (t141 == t142)))) else (some false)))) else (some false)))) else (some false))) else (some false)))) = some r := H
  have A4 := Aside0.mk A40
  clear A40
  by_cases c5 : a1 < 1
  · rw [if_pos c5] at H
    have c5b0 : decide (a1 < 1) = true := decide_eq_true c5
    clear c5
    by_cases c6 : t130 = 0
    · rw [if_pos c6] at H
      have c6b0 : (t130 == 0) = true := beq_iff_eq.mpr c6
      have c6b1 : (t130 != 0) = false := bne_eq_false_iff_eq.mpr c6
      clear c6
      by_cases c7 : t131 = 0
      · rw [if_pos c7] at H
        have c7b0 : (t131 == 0) = true := beq_iff_eq.mpr c7
        have c7b1 : (t131 != 0) = false := bne_eq_false_iff_eq.mpr c7
        clear c7
        replace H := Option.bind_eq_some_iff.mp H
        obtain ⟨t132, A80, H⟩ := H
        replace H : (if t132 = 0 then ((round_Half.f a0 a2).bind fun t133 => ((earshotref02_Half.f k a0 a2).bind fun t134 => (some (t133 == t134)))) else (some false)) = some r := H
        have A8 := Aside0.mk A80
        clear A80
        by_cases c9 : t132 = 0
        · rw [if_pos c9] at H
          have c9b0 : (t132 == 0) = true := beq_iff_eq.mpr c9
          have c9b1 : (t132 != 0) = false := bne_eq_false_iff_eq.mpr c9
          clear c9
          replace H := Option.bind_eq_some_iff.mp H
          obtain ⟨t133, A100, H⟩ := H
          replace H : ((earshotref02_Half.f k a0 a2).bind fun t134 => (some (t133 == t134))) = some r := H
          have A10 := Aside0.mk A100
          clear A100
          replace H := Option.bind_eq_some_iff.mp H
          obtain ⟨t134, A110, H⟩ := H
          replace H : (some (t133 == t134)) = some r := H
          have A11 := Aside0.mk A110
          clear A110
          obtain rfl := Option.some.inj H
          go_enter Try.func31, Try.ntmps31
          go_wp2_with (first | ((with_reducible refine gate_callee (f := 29) rfl ?_); refine goesL_ (some 12) rfl rfl Try.func29 (by kernel_rfl) rfl #[.int .i64 a0, .int .i64 a1] rfl (by (try simp only [List.map_toArray, List.map_cons, List.map_nil]); first | done | rfl | (simp only [List.length_drop, List.length_take]; rfl)) ?_; (with_reducible refine (round_Parts.calls a0 a1 t130 t131 _ A4.out).mono ?_); rintro e w' ⟨rfl, ⟨nd, rfl⟩⟩; refine ⟨_, rfl, ?_⟩; (try clear A4)) | (go_at_call 27; (with_reducible refine (round_Div.calls a0 a1 t132 _ A8.out).mono ?_); rintro e w12 ⟨rfl, hb⟩; have n0_ := Aside0.mk (below_step (by repeat (first | (with_reducible first | exact HB.out | apply below_alloc | apply pw_below_drewN | apply below_drew1) | exact HB.out)) hb); clear HB; have HB := n0_; clear n0_; (try clear hb); (try clear hb2); (try clear hk); (try clear hi); (try clear A8)) | (go_at_call 28; (with_reducible refine (round_Half.calls a0 a2 t133 _ A10.out).mono ?_); rintro e w13 ⟨rfl, hb⟩; have n0_ := Aside0.mk (below_step (by repeat (first | (with_reducible first | exact HB.out | apply below_alloc | apply pw_below_drewN | apply below_drew1) | exact HB.out)) hb); clear HB; have HB := n0_; clear n0_; (try clear hb); (try clear hb2); (try clear hk); (try clear hi); (try clear A10)) | (go_at_call 42; (with_reducible refine (earshotref02_Half.calls k a0 a2 t134 _ A11.out).mono ?_); rintro e w' ⟨rfl, ⟨nd, rfl⟩⟩; (try clear A11)))
          go_ret
          exact ⟨by first | rfl | (simp only [Int.tdiv_eq_ediv_of_nonneg (show (0 : Int) ≤ 9223372036854775807 by decide), Int.tdiv_eq_ediv_of_nonneg (show (0 : Int) ≤ 9223372036854775808 by decide)] <;> rfl) | (simp [errW_none, errW_some] <;> rfl) | (simp [*, errW_none, errW_some] <;> rfl), by repeat (first | (with_reducible first | exact HB.out | apply below_alloc | apply pw_below_drewN | apply below_drew1) | exact HB.out)⟩
        · rw [if_neg c9] at H
          have c9b0 : (t132 == 0) = false := beq_eq_false_iff_ne.mpr c9
          have c9b1 : (t132 != 0) = true := bne_iff_ne.mpr c9
          obtain rfl := Option.some.inj H
          go_enter Try.func31, Try.ntmps31
          go_wp2_with (first | ((with_reducible refine gate_callee (f := 29) rfl ?_); refine goesL_ (some 12) rfl rfl Try.func29 (by kernel_rfl) rfl #[.int .i64 a0, .int .i64 a1] rfl (by (try simp only [List.map_toArray, List.map_cons, List.map_nil]); first | done | rfl | (simp only [List.length_drop, List.length_take]; rfl)) ?_; (with_reducible refine (round_Parts.calls a0 a1 t130 t131 _ A4.out).mono ?_); rintro e w' ⟨rfl, ⟨nd, rfl⟩⟩; refine ⟨_, rfl, ?_⟩; (try clear A4)) | (go_at_call 27; (with_reducible refine (round_Div.calls a0 a1 t132 _ A8.out).mono ?_); rintro e w14 ⟨rfl, hb⟩; have n0_ := Aside0.mk (below_step (by repeat (first | (with_reducible first | exact HB.out | apply below_alloc | apply pw_below_drewN | apply below_drew1) | exact HB.out)) hb); clear HB; have HB := n0_; clear n0_; (try clear hb); (try clear hb2); (try clear hk); (try clear hi); (try clear A8)))
          go_ret
          exact ⟨by first | rfl | (simp only [Int.tdiv_eq_ediv_of_nonneg (show (0 : Int) ≤ 9223372036854775807 by decide), Int.tdiv_eq_ediv_of_nonneg (show (0 : Int) ≤ 9223372036854775808 by decide)] <;> rfl) | (simp [errW_none, errW_some] <;> rfl) | (simp [*, errW_none, errW_some] <;> rfl), by repeat (first | (with_reducible first | exact HB.out | apply below_alloc | apply pw_below_drewN | apply below_drew1) | exact HB.out)⟩
      · rw [if_neg c7] at H
        have c7b0 : (t131 == 0) = false := beq_eq_false_iff_ne.mpr c7
        have c7b1 : (t131 != 0) = true := bne_iff_ne.mpr c7
        obtain rfl := Option.some.inj H
        go_enter Try.func31, Try.ntmps31
        go_wp2_with (first | ((with_reducible refine gate_callee (f := 29) rfl ?_); refine goesL_ (some 12) rfl rfl Try.func29 (by kernel_rfl) rfl #[.int .i64 a0, .int .i64 a1] rfl (by (try simp only [List.map_toArray, List.map_cons, List.map_nil]); first | done | rfl | (simp only [List.length_drop, List.length_take]; rfl)) ?_; (with_reducible refine (round_Parts.calls a0 a1 t130 t131 _ A4.out).mono ?_); rintro e w' ⟨rfl, ⟨nd, rfl⟩⟩; refine ⟨_, rfl, ?_⟩; (try clear A4)))
        go_ret
        exact ⟨by first | rfl | (simp only [Int.tdiv_eq_ediv_of_nonneg (show (0 : Int) ≤ 9223372036854775807 by decide), Int.tdiv_eq_ediv_of_nonneg (show (0 : Int) ≤ 9223372036854775808 by decide)] <;> rfl) | (simp [errW_none, errW_some] <;> rfl) | (simp [*, errW_none, errW_some] <;> rfl), by repeat (first | (with_reducible first | exact HB.out | apply below_alloc | apply pw_below_drewN | apply below_drew1) | exact HB.out)⟩
    · rw [if_neg c6] at H
      have c6b0 : (t130 == 0) = false := beq_eq_false_iff_ne.mpr c6
      have c6b1 : (t130 != 0) = true := bne_iff_ne.mpr c6
      obtain rfl := Option.some.inj H
      go_enter Try.func31, Try.ntmps31
      go_wp2_with (first | ((with_reducible refine gate_callee (f := 29) rfl ?_); refine goesL_ (some 12) rfl rfl Try.func29 (by kernel_rfl) rfl #[.int .i64 a0, .int .i64 a1] rfl (by (try simp only [List.map_toArray, List.map_cons, List.map_nil]); first | done | rfl | (simp only [List.length_drop, List.length_take]; rfl)) ?_; (with_reducible refine (round_Parts.calls a0 a1 t130 t131 _ A4.out).mono ?_); rintro e w' ⟨rfl, ⟨nd, rfl⟩⟩; refine ⟨_, rfl, ?_⟩; (try clear A4)))
      go_ret
      exact ⟨by first | rfl | (simp only [Int.tdiv_eq_ediv_of_nonneg (show (0 : Int) ≤ 9223372036854775807 by decide), Int.tdiv_eq_ediv_of_nonneg (show (0 : Int) ≤ 9223372036854775808 by decide)] <;> rfl) | (simp [errW_none, errW_some] <;> rfl) | (simp [*, errW_none, errW_some] <;> rfl), by repeat (first | (with_reducible first | exact HB.out | apply below_alloc | apply pw_below_drewN | apply below_drew1) | exact HB.out)⟩
  · rw [if_neg c5] at H
    have c5b0 : decide (a1 < 1) = false := decide_eq_false c5
    clear c5
    replace H := Option.bind_eq_some_iff.mp H
    obtain ⟨t135, A150, H⟩ := H
    replace H : (if t130 = t135 then ((earshotref02_Rest.f a0 a1).bind fun t136 => (if t131 = t136 then ((round_Div.f a0 a1).bind fun t137 => ((earshotref02_Div.f a0 a1).bind fun t138 => (if t137 = t138 then ((round_Half.f a0 a2).bind fun t139 => ((earshotref02_Half.f k a0 a2).bind fun t140 => (if t139 = t140 then ((round_Scale.f k a0 a1 a2).bind fun t141 => ((earshotref02_Scale.f k a0 a1 a2).bind fun t142 => (some (t141 == t142)))) else (some false)))) else (some false)))) else (some false))) else (some false)) = some r := H
    have A15 := Aside0.mk A150
    clear A150
    by_cases c16 : t130 = t135
    · rw [if_pos c16] at H
      have c16b0 : (t130 == t135) = true := beq_iff_eq.mpr c16
      have c16b1 : (t130 != t135) = false := bne_eq_false_iff_eq.mpr c16
      clear c16
      replace H := Option.bind_eq_some_iff.mp H
      obtain ⟨t136, A170, H⟩ := H
      replace H : (if t131 = t136 then ((round_Div.f a0 a1).bind fun t137 => ((earshotref02_Div.f a0 a1).bind fun t138 => (if t137 = t138 then ((round_Half.f a0 a2).bind fun t139 => ((earshotref02_Half.f k a0 a2).bind fun t140 => (if t139 = t140 then ((round_Scale.f k a0 a1 a2).bind fun t141 => ((earshotref02_Scale.f k a0 a1 a2).bind fun t142 => (some (t141 == t142)))) else (some false)))) else (some false)))) else (some false)) = some r := H
      have A17 := Aside0.mk A170
      clear A170
      by_cases c18 : t131 = t136
      · rw [if_pos c18] at H
        have c18b0 : (t131 == t136) = true := beq_iff_eq.mpr c18
        have c18b1 : (t131 != t136) = false := bne_eq_false_iff_eq.mpr c18
        clear c18
        replace H := Option.bind_eq_some_iff.mp H
        obtain ⟨t137, A190, H⟩ := H
        replace H : ((earshotref02_Div.f a0 a1).bind fun t138 => (if t137 = t138 then ((round_Half.f a0 a2).bind fun t139 => ((earshotref02_Half.f k a0 a2).bind fun t140 => (if t139 = t140 then ((round_Scale.f k a0 a1 a2).bind fun t141 => ((earshotref02_Scale.f k a0 a1 a2).bind fun t142 => (some (t141 == t142)))) else (some false)))) else (some false))) = some r := H
        have A19 := Aside0.mk A190
        clear A190
        replace H := Option.bind_eq_some_iff.mp H
        obtain ⟨t138, A200, H⟩ := H
        replace H : (if t137 = t138 then ((round_Half.f a0 a2).bind fun t139 => ((earshotref02_Half.f k a0 a2).bind fun t140 => (if t139 = t140 then ((round_Scale.f k a0 a1 a2).bind fun t141 => ((earshotref02_Scale.f k a0 a1 a2).bind fun t142 => (some (t141 == t142)))) else (some false)))) else (some false)) = some r := H
        have A20 := Aside0.mk A200
        clear A200
        by_cases c21 : t137 = t138
        · rw [if_pos c21] at H
          have c21b0 : (t137 == t138) = true := beq_iff_eq.mpr c21
          have c21b1 : (t137 != t138) = false := bne_eq_false_iff_eq.mpr c21
          clear c21
          replace H := Option.bind_eq_some_iff.mp H
          obtain ⟨t139, A220, H⟩ := H
          replace H : ((earshotref02_Half.f k a0 a2).bind fun t140 => (if t139 = t140 then ((round_Scale.f k a0 a1 a2).bind fun t141 => ((earshotref02_Scale.f k a0 a1 a2).bind fun t142 => (some (t141 == t142)))) else (some false))) = some r := H
          have A22 := Aside0.mk A220
          clear A220
          replace H := Option.bind_eq_some_iff.mp H
          obtain ⟨t140, A230, H⟩ := H
          replace H : (if t139 = t140 then ((round_Scale.f k a0 a1 a2).bind fun t141 => ((earshotref02_Scale.f k a0 a1 a2).bind fun t142 => (some (t141 == t142)))) else (some false)) = some r := H
          have A23 := Aside0.mk A230
          clear A230
          by_cases c24 : t139 = t140
          · rw [if_pos c24] at H
            have c24b0 : (t139 == t140) = true := beq_iff_eq.mpr c24
            have c24b1 : (t139 != t140) = false := bne_eq_false_iff_eq.mpr c24
            clear c24
            replace H := Option.bind_eq_some_iff.mp H
            obtain ⟨t141, A250, H⟩ := H
            replace H : ((earshotref02_Scale.f k a0 a1 a2).bind fun t142 => (some (t141 == t142))) = some r := H
            have A25 := Aside0.mk A250
            clear A250
            replace H := Option.bind_eq_some_iff.mp H
            obtain ⟨t142, A260, H⟩ := H
            replace H : (some (t141 == t142)) = some r := H
            have A26 := Aside0.mk A260
            clear A260
            obtain rfl := Option.some.inj H
            go_enter Try.func31, Try.ntmps31
            go_wp2_with (first | ((with_reducible refine gate_callee (f := 29) rfl ?_); refine goesL_ (some 12) rfl rfl Try.func29 (by kernel_rfl) rfl #[.int .i64 a0, .int .i64 a1] rfl (by (try simp only [List.map_toArray, List.map_cons, List.map_nil]); first | done | rfl | (simp only [List.length_drop, List.length_take]; rfl)) ?_; (with_reducible refine (round_Parts.calls a0 a1 t130 t131 _ A4.out).mono ?_); rintro e w' ⟨rfl, ⟨nd, rfl⟩⟩; refine ⟨_, rfl, ?_⟩; (try clear A4)) | ((with_reducible refine gate_callee (f := 43) rfl ?_); refine goesL_ (some 41) rfl rfl Try.func43 (by kernel_rfl) rfl #[.int .i64 a0, .int .i64 a1] rfl (by (try simp only [List.map_toArray, List.map_cons, List.map_nil]); first | done | rfl | (simp only [List.length_drop, List.length_take]; rfl)) ?_; (with_reducible refine (earshotref02_Quot.calls a0 a1 t135 _ A15.out).mono ?_); rintro e w' ⟨rfl, ⟨nd, rfl⟩⟩; refine ⟨_, rfl, ?_⟩; (try clear A15)) | (go_at_call 44; (with_reducible refine (earshotref02_Rest.calls a0 a1 t136 _ A17.out).mono ?_); rintro e w' ⟨rfl, ⟨nd, rfl⟩⟩; (try clear A17)) | (go_at_call 27; (with_reducible refine (round_Div.calls a0 a1 t137 _ A19.out).mono ?_); rintro e w27 ⟨rfl, hb⟩; have n0_ := Aside0.mk (below_step (by repeat (first | (with_reducible first | exact HB.out | apply below_alloc | apply pw_below_drewN | apply below_drew1) | exact HB.out)) hb); clear HB; have HB := n0_; clear n0_; (try clear hb); (try clear hb2); (try clear hk); (try clear hi); (try clear A19)) | (go_at_call 45; (with_reducible refine (earshotref02_Div.calls a0 a1 t138 _ A20.out).mono ?_); rintro e w' ⟨rfl, ⟨nd, rfl⟩⟩; (try clear A20)) | (go_at_call 28; (with_reducible refine (round_Half.calls a0 a2 t139 _ A22.out).mono ?_); rintro e w28 ⟨rfl, hb⟩; have n0_ := Aside0.mk (below_step (by repeat (first | (with_reducible first | exact HB.out | apply below_alloc | apply pw_below_drewN | apply below_drew1) | exact HB.out)) hb); clear HB; have HB := n0_; clear n0_; (try clear hb); (try clear hb2); (try clear hk); (try clear hi); (try clear A22)) | (go_at_call 42; (with_reducible refine (earshotref02_Half.calls k a0 a2 t140 _ A23.out).mono ?_); rintro e w' ⟨rfl, ⟨nd, rfl⟩⟩; (try clear A23)) | (go_at_call 30; (with_reducible refine (round_Scale.calls k a0 a1 a2 t141 _ A25.out).mono ?_); rintro e w29 ⟨rfl, hb⟩; have n0_ := Aside0.mk (below_step (by repeat (first | (with_reducible first | exact HB.out | apply below_alloc | apply pw_below_drewN | apply below_drew1) | exact HB.out)) hb); clear HB; have HB := n0_; clear n0_; (try clear hb); (try clear hb2); (try clear hk); (try clear hi); (try clear A25)) | (go_at_call 32; (with_reducible refine (earshotref02_Scale.calls k a0 a1 a2 t142 _ A26.out).mono ?_); rintro e w30 ⟨rfl, hb⟩; have n0_ := Aside0.mk (below_step (by repeat (first | (with_reducible first | exact HB.out | apply below_alloc | apply pw_below_drewN | apply below_drew1) | exact HB.out)) hb); clear HB; have HB := n0_; clear n0_; (try clear hb); (try clear hb2); (try clear hk); (try clear hi); (try clear A26)))
            go_ret
            exact ⟨by first | rfl | (simp only [Int.tdiv_eq_ediv_of_nonneg (show (0 : Int) ≤ 9223372036854775807 by decide), Int.tdiv_eq_ediv_of_nonneg (show (0 : Int) ≤ 9223372036854775808 by decide)] <;> rfl) | (simp [errW_none, errW_some] <;> rfl) | (simp [*, errW_none, errW_some] <;> rfl), by repeat (first | (with_reducible first | exact HB.out | apply below_alloc | apply pw_below_drewN | apply below_drew1) | exact HB.out)⟩
          · rw [if_neg c24] at H
            have c24b0 : (t139 == t140) = false := beq_eq_false_iff_ne.mpr c24
            have c24b1 : (t139 != t140) = true := bne_iff_ne.mpr c24
            obtain rfl := Option.some.inj H
            go_enter Try.func31, Try.ntmps31
            go_wp2_with (first | ((with_reducible refine gate_callee (f := 29) rfl ?_); refine goesL_ (some 12) rfl rfl Try.func29 (by kernel_rfl) rfl #[.int .i64 a0, .int .i64 a1] rfl (by (try simp only [List.map_toArray, List.map_cons, List.map_nil]); first | done | rfl | (simp only [List.length_drop, List.length_take]; rfl)) ?_; (with_reducible refine (round_Parts.calls a0 a1 t130 t131 _ A4.out).mono ?_); rintro e w' ⟨rfl, ⟨nd, rfl⟩⟩; refine ⟨_, rfl, ?_⟩; (try clear A4)) | ((with_reducible refine gate_callee (f := 43) rfl ?_); refine goesL_ (some 41) rfl rfl Try.func43 (by kernel_rfl) rfl #[.int .i64 a0, .int .i64 a1] rfl (by (try simp only [List.map_toArray, List.map_cons, List.map_nil]); first | done | rfl | (simp only [List.length_drop, List.length_take]; rfl)) ?_; (with_reducible refine (earshotref02_Quot.calls a0 a1 t135 _ A15.out).mono ?_); rintro e w' ⟨rfl, ⟨nd, rfl⟩⟩; refine ⟨_, rfl, ?_⟩; (try clear A15)) | (go_at_call 44; (with_reducible refine (earshotref02_Rest.calls a0 a1 t136 _ A17.out).mono ?_); rintro e w' ⟨rfl, ⟨nd, rfl⟩⟩; (try clear A17)) | (go_at_call 27; (with_reducible refine (round_Div.calls a0 a1 t137 _ A19.out).mono ?_); rintro e w31 ⟨rfl, hb⟩; have n0_ := Aside0.mk (below_step (by repeat (first | (with_reducible first | exact HB.out | apply below_alloc | apply pw_below_drewN | apply below_drew1) | exact HB.out)) hb); clear HB; have HB := n0_; clear n0_; (try clear hb); (try clear hb2); (try clear hk); (try clear hi); (try clear A19)) | (go_at_call 45; (with_reducible refine (earshotref02_Div.calls a0 a1 t138 _ A20.out).mono ?_); rintro e w' ⟨rfl, ⟨nd, rfl⟩⟩; (try clear A20)) | (go_at_call 28; (with_reducible refine (round_Half.calls a0 a2 t139 _ A22.out).mono ?_); rintro e w32 ⟨rfl, hb⟩; have n0_ := Aside0.mk (below_step (by repeat (first | (with_reducible first | exact HB.out | apply below_alloc | apply pw_below_drewN | apply below_drew1) | exact HB.out)) hb); clear HB; have HB := n0_; clear n0_; (try clear hb); (try clear hb2); (try clear hk); (try clear hi); (try clear A22)) | (go_at_call 42; (with_reducible refine (earshotref02_Half.calls k a0 a2 t140 _ A23.out).mono ?_); rintro e w' ⟨rfl, ⟨nd, rfl⟩⟩; (try clear A23)))
            go_ret
            exact ⟨by first | rfl | (simp only [Int.tdiv_eq_ediv_of_nonneg (show (0 : Int) ≤ 9223372036854775807 by decide), Int.tdiv_eq_ediv_of_nonneg (show (0 : Int) ≤ 9223372036854775808 by decide)] <;> rfl) | (simp [errW_none, errW_some] <;> rfl) | (simp [*, errW_none, errW_some] <;> rfl), by repeat (first | (with_reducible first | exact HB.out | apply below_alloc | apply pw_below_drewN | apply below_drew1) | exact HB.out)⟩
        · rw [if_neg c21] at H
          have c21b0 : (t137 == t138) = false := beq_eq_false_iff_ne.mpr c21
          have c21b1 : (t137 != t138) = true := bne_iff_ne.mpr c21
          obtain rfl := Option.some.inj H
          go_enter Try.func31, Try.ntmps31
          go_wp2_with (first | ((with_reducible refine gate_callee (f := 29) rfl ?_); refine goesL_ (some 12) rfl rfl Try.func29 (by kernel_rfl) rfl #[.int .i64 a0, .int .i64 a1] rfl (by (try simp only [List.map_toArray, List.map_cons, List.map_nil]); first | done | rfl | (simp only [List.length_drop, List.length_take]; rfl)) ?_; (with_reducible refine (round_Parts.calls a0 a1 t130 t131 _ A4.out).mono ?_); rintro e w' ⟨rfl, ⟨nd, rfl⟩⟩; refine ⟨_, rfl, ?_⟩; (try clear A4)) | ((with_reducible refine gate_callee (f := 43) rfl ?_); refine goesL_ (some 41) rfl rfl Try.func43 (by kernel_rfl) rfl #[.int .i64 a0, .int .i64 a1] rfl (by (try simp only [List.map_toArray, List.map_cons, List.map_nil]); first | done | rfl | (simp only [List.length_drop, List.length_take]; rfl)) ?_; (with_reducible refine (earshotref02_Quot.calls a0 a1 t135 _ A15.out).mono ?_); rintro e w' ⟨rfl, ⟨nd, rfl⟩⟩; refine ⟨_, rfl, ?_⟩; (try clear A15)) | (go_at_call 44; (with_reducible refine (earshotref02_Rest.calls a0 a1 t136 _ A17.out).mono ?_); rintro e w' ⟨rfl, ⟨nd, rfl⟩⟩; (try clear A17)) | (go_at_call 27; (with_reducible refine (round_Div.calls a0 a1 t137 _ A19.out).mono ?_); rintro e w33 ⟨rfl, hb⟩; have n0_ := Aside0.mk (below_step (by repeat (first | (with_reducible first | exact HB.out | apply below_alloc | apply pw_below_drewN | apply below_drew1) | exact HB.out)) hb); clear HB; have HB := n0_; clear n0_; (try clear hb); (try clear hb2); (try clear hk); (try clear hi); (try clear A19)) | (go_at_call 45; (with_reducible refine (earshotref02_Div.calls a0 a1 t138 _ A20.out).mono ?_); rintro e w' ⟨rfl, ⟨nd, rfl⟩⟩; (try clear A20)))
          go_ret
          exact ⟨by first | rfl | (simp only [Int.tdiv_eq_ediv_of_nonneg (show (0 : Int) ≤ 9223372036854775807 by decide), Int.tdiv_eq_ediv_of_nonneg (show (0 : Int) ≤ 9223372036854775808 by decide)] <;> rfl) | (simp [errW_none, errW_some] <;> rfl) | (simp [*, errW_none, errW_some] <;> rfl), by repeat (first | (with_reducible first | exact HB.out | apply below_alloc | apply pw_below_drewN | apply below_drew1) | exact HB.out)⟩
      · rw [if_neg c18] at H
        have c18b0 : (t131 == t136) = false := beq_eq_false_iff_ne.mpr c18
        have c18b1 : (t131 != t136) = true := bne_iff_ne.mpr c18
        obtain rfl := Option.some.inj H
        go_enter Try.func31, Try.ntmps31
        go_wp2_with (first | ((with_reducible refine gate_callee (f := 29) rfl ?_); refine goesL_ (some 12) rfl rfl Try.func29 (by kernel_rfl) rfl #[.int .i64 a0, .int .i64 a1] rfl (by (try simp only [List.map_toArray, List.map_cons, List.map_nil]); first | done | rfl | (simp only [List.length_drop, List.length_take]; rfl)) ?_; (with_reducible refine (round_Parts.calls a0 a1 t130 t131 _ A4.out).mono ?_); rintro e w' ⟨rfl, ⟨nd, rfl⟩⟩; refine ⟨_, rfl, ?_⟩; (try clear A4)) | ((with_reducible refine gate_callee (f := 43) rfl ?_); refine goesL_ (some 41) rfl rfl Try.func43 (by kernel_rfl) rfl #[.int .i64 a0, .int .i64 a1] rfl (by (try simp only [List.map_toArray, List.map_cons, List.map_nil]); first | done | rfl | (simp only [List.length_drop, List.length_take]; rfl)) ?_; (with_reducible refine (earshotref02_Quot.calls a0 a1 t135 _ A15.out).mono ?_); rintro e w' ⟨rfl, ⟨nd, rfl⟩⟩; refine ⟨_, rfl, ?_⟩; (try clear A15)) | (go_at_call 44; (with_reducible refine (earshotref02_Rest.calls a0 a1 t136 _ A17.out).mono ?_); rintro e w' ⟨rfl, ⟨nd, rfl⟩⟩; (try clear A17)))
        go_ret
        exact ⟨by first | rfl | (simp only [Int.tdiv_eq_ediv_of_nonneg (show (0 : Int) ≤ 9223372036854775807 by decide), Int.tdiv_eq_ediv_of_nonneg (show (0 : Int) ≤ 9223372036854775808 by decide)] <;> rfl) | (simp [errW_none, errW_some] <;> rfl) | (simp [*, errW_none, errW_some] <;> rfl), by repeat (first | (with_reducible first | exact HB.out | apply below_alloc | apply pw_below_drewN | apply below_drew1) | exact HB.out)⟩
    · rw [if_neg c16] at H
      have c16b0 : (t130 == t135) = false := beq_eq_false_iff_ne.mpr c16
      have c16b1 : (t130 != t135) = true := bne_iff_ne.mpr c16
      obtain rfl := Option.some.inj H
      go_enter Try.func31, Try.ntmps31
      go_wp2_with (first | ((with_reducible refine gate_callee (f := 29) rfl ?_); refine goesL_ (some 12) rfl rfl Try.func29 (by kernel_rfl) rfl #[.int .i64 a0, .int .i64 a1] rfl (by (try simp only [List.map_toArray, List.map_cons, List.map_nil]); first | done | rfl | (simp only [List.length_drop, List.length_take]; rfl)) ?_; (with_reducible refine (round_Parts.calls a0 a1 t130 t131 _ A4.out).mono ?_); rintro e w' ⟨rfl, ⟨nd, rfl⟩⟩; refine ⟨_, rfl, ?_⟩; (try clear A4)) | ((with_reducible refine gate_callee (f := 43) rfl ?_); refine goesL_ (some 41) rfl rfl Try.func43 (by kernel_rfl) rfl #[.int .i64 a0, .int .i64 a1] rfl (by (try simp only [List.map_toArray, List.map_cons, List.map_nil]); first | done | rfl | (simp only [List.length_drop, List.length_take]; rfl)) ?_; (with_reducible refine (earshotref02_Quot.calls a0 a1 t135 _ A15.out).mono ?_); rintro e w' ⟨rfl, ⟨nd, rfl⟩⟩; refine ⟨_, rfl, ?_⟩; (try clear A15)))
      go_ret
      exact ⟨by first | rfl | (simp only [Int.tdiv_eq_ediv_of_nonneg (show (0 : Int) ≤ 9223372036854775807 by decide), Int.tdiv_eq_ediv_of_nonneg (show (0 : Int) ≤ 9223372036854775808 by decide)] <;> rfl) | (simp [errW_none, errW_some] <;> rfl) | (simp [*, errW_none, errW_some] <;> rfl), by repeat (first | (with_reducible first | exact HB.out | apply below_alloc | apply pw_below_drewN | apply below_drew1) | exact HB.out)⟩

/-! ### sat_Fits: function 15 -/
def sat_Fits.f (a0 : Int) (a1 : Int) : Option (Bool) := (sat_ends.f a1).bind fun bt143 => (if bt143.2.2 = true then (if a0 ≥ bt143.1 then (some (decide (a0 ≤ bt143.2.1))) else (some false)) else (some false))
set_option maxHeartbeats 8000000 in
set_option maxRecDepth 100000 in
theorem sat_Fits.calls (a0 : Int) (a1 : Int) (r : Bool) (w : World) (h : sat_Fits.f a0 a1 = some r) :
    Calls Try.prog 15 #[.int .i64 a0, .int .i64 a1] w fun e w' => e = .returned (.bool r) ∧ Drawn0 w w' := by
  have H : ((sat_ends.f a1).bind fun bt143 => (if bt143.2.2 = true then (if a0 ≥ bt143.1 then (some (decide (a0 ≤ bt143.2.1))) else (some false)) else (some false))) = some r := h
  clear h
  replace H := Option.bind_eq_some_iff.mp H
  obtain ⟨⟨t143, t144, t145⟩, A30, H⟩ := H
  replace H : (if t145 = true then (if a0 ≥ t143 then (some (decide (a0 ≤ t144))) else (some false)) else (some false)) = some r := H
  have A3 := Aside0.mk A30
  clear A30
  by_cases c4 : t145 = true
  · subst c4
    have H1 : (if a0 ≥ t143 then (some (decide (a0 ≤ t144))) else (some false)) = some r := by rw [if_pos rfl] at H; exact H
    clear H
    have H := H1
    clear H1
    by_cases c5 : a0 ≥ t143
    · rw [if_pos c5] at H
      have c5b0 : decide (t143 ≤ a0) = true := decide_eq_true c5
      clear c5
      obtain rfl := Option.some.inj H
      go_enter Try.func15, Try.ntmps15
      go_wp2_with (first | ((with_reducible refine gate_callee (f := 36) rfl ?_); refine goesL_ (some 10) rfl rfl Try.func36 (by kernel_rfl) rfl #[.int .i64 a1] rfl (by (try simp only [List.map_toArray, List.map_cons, List.map_nil]); first | done | rfl | (simp only [List.length_drop, List.length_take]; rfl)) ?_; (with_reducible refine (sat_ends.calls a1 t143 t144 true _ A3.out).mono ?_); rintro e w' ⟨rfl, ⟨nd, rfl⟩⟩; refine ⟨_, rfl, ?_⟩; (try clear A3)))
      go_ret
      exact ⟨by first | rfl | (simp; done) | (simp [*]; done), by repeat (first | exact Drawn0.refl _ | apply Drawn0.step)⟩
    · rw [if_neg c5] at H
      have c5b0 : decide (t143 ≤ a0) = false := decide_eq_false c5
      clear c5
      obtain rfl := Option.some.inj H
      go_enter Try.func15, Try.ntmps15
      go_wp2_with (first | ((with_reducible refine gate_callee (f := 36) rfl ?_); refine goesL_ (some 10) rfl rfl Try.func36 (by kernel_rfl) rfl #[.int .i64 a1] rfl (by (try simp only [List.map_toArray, List.map_cons, List.map_nil]); first | done | rfl | (simp only [List.length_drop, List.length_take]; rfl)) ?_; (with_reducible refine (sat_ends.calls a1 t143 t144 true _ A3.out).mono ?_); rintro e w' ⟨rfl, ⟨nd, rfl⟩⟩; refine ⟨_, rfl, ?_⟩; (try clear A3)))
      go_ret
      exact ⟨by first | rfl | (simp; done) | (simp [*]; done), by repeat (first | exact Drawn0.refl _ | apply Drawn0.step)⟩
  · replace c4 := Bool.eq_false_iff.mpr c4
    subst c4
    have H1 : (some false) = some r := by rw [if_neg (show ¬ (false = true) by decide)] at H; exact H
    clear H
    have H := H1
    clear H1
    obtain rfl := Option.some.inj H
    go_enter Try.func15, Try.ntmps15
    go_wp2_with (first | ((with_reducible refine gate_callee (f := 36) rfl ?_); refine goesL_ (some 10) rfl rfl Try.func36 (by kernel_rfl) rfl #[.int .i64 a1] rfl (by (try simp only [List.map_toArray, List.map_cons, List.map_nil]); first | done | rfl | (simp only [List.length_drop, List.length_take]; rfl)) ?_; (with_reducible refine (sat_ends.calls a1 t143 t144 false _ A3.out).mono ?_); rintro e w' ⟨rfl, ⟨nd, rfl⟩⟩; refine ⟨_, rfl, ?_⟩; (try clear A3)))
    go_ret
    exact ⟨by first | rfl | (simp; done) | (simp [*]; done), by repeat (first | exact Drawn0.refl _ | apply Drawn0.step)⟩

/-! ### sat_Sum: function 18 -/
def sat_Sum.l0 : Nat → Int → Int → List Int → Int → Int → Option (Int × Bool)
  | 0, _, _, _, _, _ => none
  | k + 1, x4, x5, x8, x9, x10 => if x10 < x9 then (if 0 ≤ x10 then (if x10 < (x8.length : Int) then (sat_Sum.l0 k (wrap64 (x4 + ((rd x8 x10) / 4294967296))) (wrap64 (x5 + (Go.bits .and .i64 (rd x8 x10) 4294967295))) x8 x9 (wrap64 (x10 + 1))) else (none)) else (none)) else ((sat_Fits.f (wrap64 (x4 + (x5 / 4294967296))) 32).bind fun t147 => (if t147 = true then (some (Go.bits .or .i64 (wrap64 ((wrap64 (x4 + (x5 / 4294967296))) * 4294967296)) (Go.bits .and .i64 x5 4294967295), true)) else (some (0, false))))
def sat_Sum.f (k : Nat) (l0 : List Int) : Option (Int × Bool) := sat_Sum.l0 k 0 0 l0 (l0.length : Int) 0
theorem sat_Sum.mono_l : ∀ k, (∀ y0 y1 y2 y3 y4, LeO (sat_Sum.l0 k y0 y1 y2 y3 y4) (sat_Sum.l0 (k + 1) y0 y1 y2 y3 y4))
  | 0 => fun _ _ _ _ _ r h => by simp [sat_Sum.l0] at h
  | k + 1 => by
    have ih0 := sat_Sum.mono_l k
    · intro y0 y1 y2 y3 y4
      unfold sat_Sum.l0
      repeat' first
      | (with_reducible exact ih0 _ _ _ _ _)
      | (with_reducible exact LeO.refl _)
      | (with_reducible exact LeO.none _)
      | (with_reducible refine LeO.ite ?_ ?_)
      | (with_reducible refine LeO.bind ?_ (fun _ => ?_))
      | exact ih0 _ _ _ _ _
      | exact LeO.none _
      | refine LeO.ite ?_ ?_
      | refine LeO.bind ?_ (fun _ => ?_)
theorem sat_Sum.mono : ∀ a0 k, LeO (sat_Sum.f k a0) (sat_Sum.f (k + 1) a0) := by
  intro a0 k
  have ih0 := sat_Sum.mono_l k
  unfold sat_Sum.f
  repeat' first
      | (with_reducible exact ih0 _ _ _ _ _)
      | (with_reducible exact LeO.refl _)
      | (with_reducible exact LeO.none _)
      | (with_reducible refine LeO.ite ?_ ?_)
      | (with_reducible refine LeO.bind ?_ (fun _ => ?_))
      | exact ih0 _ _ _ _ _
      | exact LeO.none _
      | refine LeO.ite ?_ ?_
      | refine LeO.bind ?_ (fun _ => ?_)
set_option maxHeartbeats 8000000 in
set_option maxRecDepth 100000 in
theorem sat_Sum.calls (k : Nat) (A0 : Option Addr) (c0 : Nat) (l0 : List Int) (r1 : Int) (r2 : Bool) (w : World) (hr0 : Kd.C (Kd.int .i64) w A0 l0.length l0) (hc0 : l0.length ≤ c0) (h : sat_Sum.f k l0 = some (r1, r2)) :
    Calls Try.prog 18 #[.slice A0 l0.length c0] w fun e w' => e = .returned (.tuple #[.int .i64 r1, .bool r2]) ∧ Drawn0 w w' := by
  have HR0 := Aside0.mk hr0
  have HC0 := Aside0.mk hc0
  clear hr0 hc0
  have H : (sat_Sum.l0 k 0 0 l0 (l0.length : Int) 0) = some (r1, r2) := h
  clear h
  have H' := Aside0.mk H
  clear H
  go_enter Try.func18, Try.ntmps18
  go_wp2
  go_loopg [4, 5, 10] k (fun kq v4 v5 v10 w' => ∃ (x4_1 : Int) (x5_1 : Int) (x10_1 : Int), v4 = .int .i64 x4_1 ∧ v5 = .int .i64 x5_1 ∧ v10 = .int .i64 x10_1 ∧ Aside0 (sat_Sum.l0 kq x4_1 x5_1 l0 (l0.length : Int) x10_1 = some (r1, r2)) ∧ Aside0 (kq ≤ k) ∧ Drawn0 w w')
  case atStart => exact ⟨(0), (0), (0), (by first | rfl | (simp; done) | (simp [*]; done)), (by first | rfl | (simp; done) | (simp [*]; done)), (by first | rfl | (simp; done) | (simp [*]; done)), H', ⟨Nat.le_refl _⟩, by repeat (first | exact Drawn0.refl _ | apply Drawn0.step)⟩
  case round =>
    clear H'
    try clear c1
    obtain ⟨x4_1, x5_1, x10_1, rfl, rfl, rfl, HA, HK1, ⟨m1, rfl⟩⟩ := hrel
    cases gk with
    | zero => exact absurd HA.out (by simp [sat_Sum.l0])
    | succ k1 =>
      have H := HA.out
      clear HA
      simp only [sat_Sum.l0] at H
      by_cases c2 : x10_1 < (l0.length : Int)
      · rw [if_pos c2] at H
        have c2b0 : decide (x10_1 < (l0.length : Int)) = true := decide_eq_true c2
        clear c2
        by_cases c3 : 0 ≤ x10_1
        · rw [if_pos c3] at H
          have c3b0 : decide (0 ≤ x10_1) = true := decide_eq_true c3
          clear c3
          by_cases c4 : x10_1 < (l0.length : Int)
          · rw [if_pos c4] at H
            have c4b0 : decide (x10_1 < (l0.length : Int)) = true := decide_eq_true c4
            clear c4
            have H' := Aside0.mk H
            clear H
            have p146 : 0 ≤ (x10_1 : Int) := of_decide_eq_true (by first | (with_reducible assumption) | assumption)
            have q146 : x10_1 < (l0.length : Int) := of_decide_eq_true (by first | (with_reducible assumption) | assumption)
            obtain ⟨ad146, e146, hx146_0⟩ := Kd.at_int HR0.out x10_1 p146 q146
            cases e146
            replace p146 := eq_true p146
            replace q146 := eq_true q146
            go_wp2
            go_roundg k1
            case measure => have := HK1.out; omega
            case rel => exact ⟨(wrap64 (x4_1 + ((rd l0 x10_1) / 4294967296))), (wrap64 (x5_1 + (Go.bits .and .i64 (rd l0 x10_1) 4294967295))), (wrap64 (x10_1 + 1)), (by first | rfl | (simp; done) | (simp [*]; done)), (by first | rfl | (simp; done) | (simp [*]; done)), (by first | rfl | (simp; done) | (simp [*]; done)), H', ⟨by have := HK1.out; omega⟩, by repeat (first | exact Drawn0.refl _ | apply Drawn0.step)⟩
          · rw [if_neg c4] at H
            exact absurd H (by simp)
        · rw [if_neg c3] at H
          exact absurd H (by simp)
      · rw [if_neg c2] at H
        have c2b0 : decide (x10_1 < (l0.length : Int)) = false := decide_eq_false c2
        clear c2
        replace H := Option.bind_eq_some_iff.mp H
        obtain ⟨t147, A50, H⟩ := H
        replace H : (if t147 = true then (some (Go.bits .or .i64 (wrap64 ((wrap64 (x4_1 + (x5_1 / 4294967296))) * 4294967296)) (Go.bits .and .i64 x5_1 4294967295), true)) else (some (0, false))) = some (r1, r2) := H
        have A5 := Aside0.mk A50
        clear A50
        by_cases c6 : t147 = true
        · subst c6
          have H1 : (some (Go.bits .or .i64 (wrap64 ((wrap64 (x4_1 + (x5_1 / 4294967296))) * 4294967296)) (Go.bits .and .i64 x5_1 4294967295), true)) = some (r1, r2) := by rw [if_pos rfl] at H; exact H
          clear H
          have H := H1
          clear H1
          simp only [Option.some.injEq, Prod.mk.injEq] at H
          obtain ⟨rfl, rfl⟩ := H
          go_wp2_with (first | ((with_reducible refine gate_callee (f := 15) rfl ?_); refine goesL_ (some 28) rfl rfl Try.func15 (by kernel_rfl) rfl #[.int .i64 (wrap64 (x4_1 + (x5_1 / 4294967296))), .int .i64 32] rfl (by (try simp only [List.map_toArray, List.map_cons, List.map_nil]); first | done | rfl | (simp only [List.length_drop, List.length_take]; rfl)) ?_; (with_reducible refine (sat_Fits.calls (wrap64 (x4_1 + (x5_1 / 4294967296))) 32 true _ A5.out).mono ?_); rintro e w' ⟨rfl, ⟨nd, rfl⟩⟩; refine ⟨_, rfl, ?_⟩; (try clear A5)))
          go_ret2
          exact ⟨by first | rfl | (simp; done) | (simp [*]; done), by repeat (first | exact Drawn0.refl _ | apply Drawn0.step)⟩
        · replace c6 := Bool.eq_false_iff.mpr c6
          subst c6
          have H1 : (some (0, false)) = some (r1, r2) := by rw [if_neg (show ¬ (false = true) by decide)] at H; exact H
          clear H
          have H := H1
          clear H1
          simp only [Option.some.injEq, Prod.mk.injEq] at H
          obtain ⟨rfl, rfl⟩ := H
          go_wp2_with (first | ((with_reducible refine gate_callee (f := 15) rfl ?_); refine goesL_ (some 28) rfl rfl Try.func15 (by kernel_rfl) rfl #[.int .i64 (wrap64 (x4_1 + (x5_1 / 4294967296))), .int .i64 32] rfl (by (try simp only [List.map_toArray, List.map_cons, List.map_nil]); first | done | rfl | (simp only [List.length_drop, List.length_take]; rfl)) ?_; (with_reducible refine (sat_Fits.calls (wrap64 (x4_1 + (x5_1 / 4294967296))) 32 false _ A5.out).mono ?_); rintro e w' ⟨rfl, ⟨nd, rfl⟩⟩; refine ⟨_, rfl, ?_⟩; (try clear A5)))
          go_ret2
          exact ⟨by first | rfl | (simp; done) | (simp [*]; done), by repeat (first | exact Drawn0.refl _ | apply Drawn0.step)⟩

/-! ### round_Mean: function 33 -/
def round_Mean.f (k : Nat) (l0 : List Int) : Option (Int) := (sat_Sum.f k l0).bind fun bt148 => (if bt148.2 = true then ((round_Div.f bt148.1 (l0.length : Int)).bind fun t150 => (some t150)) else (some 0))
theorem round_Mean.mono : ∀ a0 k, LeO (round_Mean.f k a0) (round_Mean.f (k + 1) a0) := by
  intro a0 k
  unfold round_Mean.f
  repeat' first
      | (with_reducible exact sat_Sum.mono _ _)
      | (with_reducible exact LeO.refl _)
      | (with_reducible exact LeO.none _)
      | (with_reducible refine LeO.ite ?_ ?_)
      | (with_reducible refine LeO.bind ?_ (fun _ => ?_))
      | exact sat_Sum.mono _ _
      | exact LeO.none _
      | refine LeO.ite ?_ ?_
      | refine LeO.bind ?_ (fun _ => ?_)
set_option maxHeartbeats 8000000 in
set_option maxRecDepth 100000 in
theorem round_Mean.calls (k : Nat) (A0 : Option Addr) (c0 : Nat) (l0 : List Int) (r : Int) (w : World) (hr0 : Kd.C (Kd.int .i64) w A0 l0.length l0) (hc0 : l0.length ≤ c0) (h : round_Mean.f k l0 = some r) :
    Calls Try.prog 33 #[.slice A0 l0.length c0] w fun e w' => e = .returned (.int .i64 r) ∧ Below w.heap.size w w' := by
  have HR0 := Aside0.mk hr0
  have HC0 := Aside0.mk hc0
  clear hr0 hc0
  have HB := Aside0.mk (Below.refl w.heap.size w)
  have H : ((sat_Sum.f k l0).bind fun bt148 => (if bt148.2 = true then ((round_Div.f bt148.1 (l0.length : Int)).bind fun t150 => (some t150)) else (some 0))) = some r := h
  clear h
  replace H := Option.bind_eq_some_iff.mp H
  obtain ⟨⟨t148, t149⟩, A20, H⟩ := H
  replace H : (if t149 = true then ((round_Div.f t148 (l0.length : Int)).bind fun t150 => (some t150)) else (some 0)) = some r := H
  have A2 := Aside0.mk A20
  clear A20
  by_cases c3 : t149 = true
  · subst c3
    have H1 : ((round_Div.f t148 (l0.length : Int)).bind fun t150 => (some t150)) = some r := by rw [if_pos rfl] at H; exact H
    clear H
    have H := H1
    clear H1
    replace H := Option.bind_eq_some_iff.mp H
    obtain ⟨t150, A40, H⟩ := H
    replace H : (some t150) = some r := H
    have A4 := Aside0.mk A40
    clear A40
    obtain rfl := Option.some.inj H
    go_enter Try.func33, Try.ntmps33
    go_wp2_with (first | ((with_reducible refine gate_callee (f := 18) rfl ?_); refine goesL_ (some 7) rfl rfl Try.func18 (by kernel_rfl) rfl #[.slice A0 l0.length c0] rfl (by (try simp only [List.map_toArray, List.map_cons, List.map_nil]); first | done | rfl | (simp only [List.length_drop, List.length_take]; rfl)) ?_; (with_reducible refine (sat_Sum.calls k _ _ l0 t148 true _ ?side1 ?side2 A2.out).mono ?_); (case side1 => repeat (first | exact HR0.out | (with_reducible refine Kd.C_alloc ?_ _) | (with_reducible refine Kd.C_drewN ?_ _) | (with_reducible refine Kd.C_drew ?_))); (case side2 => exact HC0.out); rintro e w' ⟨rfl, ⟨nd, rfl⟩⟩; refine ⟨_, rfl, ?_⟩; (try clear A2)) | ((with_reducible refine gate_callee (f := 27) rfl ?_); refine goesL_ (some 15) rfl rfl Try.func27 (by kernel_rfl) rfl #[.int .i64 t148, .int .i64 (l0.length : Int)] rfl (by (try simp only [List.map_toArray, List.map_cons, List.map_nil]); first | done | rfl | (simp only [List.length_drop, List.length_take]; rfl)) ?_; (with_reducible refine (round_Div.calls t148 (l0.length : Int) t150 _ A4.out).mono ?_); rintro e w5 ⟨rfl, hb⟩; refine ⟨_, rfl, ?_⟩; have n0_ := Aside0.mk (below_step (by repeat (first | (with_reducible first | exact HB.out | apply below_alloc | apply pw_below_drewN | apply below_drew1) | exact HB.out)) hb); clear HB; have HB := n0_; clear n0_; (try clear hb); (try clear hb2); (try clear hk); (try clear hi); (try clear A4)))
    go_ret
    exact ⟨by first | rfl | (simp only [Int.tdiv_eq_ediv_of_nonneg (show (0 : Int) ≤ 9223372036854775807 by decide), Int.tdiv_eq_ediv_of_nonneg (show (0 : Int) ≤ 9223372036854775808 by decide)] <;> rfl) | (simp [errW_none, errW_some] <;> rfl) | (simp [*, errW_none, errW_some] <;> rfl), by repeat (first | (with_reducible first | exact HB.out | apply below_alloc | apply pw_below_drewN | apply below_drew1) | exact HB.out)⟩
  · replace c3 := Bool.eq_false_iff.mpr c3
    subst c3
    have H1 : (some 0) = some r := by rw [if_neg (show ¬ (false = true) by decide)] at H; exact H
    clear H
    have H := H1
    clear H1
    obtain rfl := Option.some.inj H
    go_enter Try.func33, Try.ntmps33
    go_wp2_with (first | ((with_reducible refine gate_callee (f := 18) rfl ?_); refine goesL_ (some 7) rfl rfl Try.func18 (by kernel_rfl) rfl #[.slice A0 l0.length c0] rfl (by (try simp only [List.map_toArray, List.map_cons, List.map_nil]); first | done | rfl | (simp only [List.length_drop, List.length_take]; rfl)) ?_; (with_reducible refine (sat_Sum.calls k _ _ l0 t148 false _ ?side1 ?side2 A2.out).mono ?_); (case side1 => repeat (first | exact HR0.out | (with_reducible refine Kd.C_alloc ?_ _) | (with_reducible refine Kd.C_drewN ?_ _) | (with_reducible refine Kd.C_drew ?_))); (case side2 => exact HC0.out); rintro e w' ⟨rfl, ⟨nd, rfl⟩⟩; refine ⟨_, rfl, ?_⟩; (try clear A2)))
    go_ret
    exact ⟨by first | rfl | (simp only [Int.tdiv_eq_ediv_of_nonneg (show (0 : Int) ≤ 9223372036854775807 by decide), Int.tdiv_eq_ediv_of_nonneg (show (0 : Int) ≤ 9223372036854775808 by decide)] <;> rfl) | (simp [errW_none, errW_some] <;> rfl) | (simp [*, errW_none, errW_some] <;> rfl), by repeat (first | (with_reducible first | exact HB.out | apply below_alloc | apply pw_below_drewN | apply below_drew1) | exact HB.out)⟩

/-! ### earshotlaw02_few: function 34 -/
def earshotlaw02_few.f (l0 : List Int) : Option (List Int) := if (l0.length : Int) > 40 then (if 40 ≤ (l0.length : Int) then (some (l0.take 40)) else (none)) else (some l0)
set_option maxHeartbeats 8000000 in
set_option maxRecDepth 100000 in
theorem earshotlaw02_few.calls (P0_ : Nat → Prop) (A0 : Option Addr) (c0 : Nat) (l0 : List Int) (r : List Int) (w : World) (hs0 : Kd.V (Kd.int .i64) 3 w w.heap.size (fun k_ => P0_ k_) (.slice A0 l0.length c0) l0) (h : earshotlaw02_few.f l0 = some r) :
    Calls Try.prog 34 #[.slice A0 l0.length c0] w fun e w' => ∃ v0_ : Value, e = .returned (v0_) ∧ Kd.V (Kd.int .i64) 3 w' w.heap.size (fun k_ => (P0_ k_ ∨ w.heap.size ≤ k_)) v0_ r ∧ Below w.heap.size w w' := by
  have HO0 := Aside0.mk (show Kd.V (Kd.int .i64) 3 w w.heap.size (fun k_ => (P0_ k_ ∨ w.heap.size ≤ k_)) (.slice A0 l0.length c0) l0 from Kd.V_mono hs0 (fun k_ hk => .inl hk))
  have HB := Aside0.mk (Below.refl w.heap.size w)
  have H : (if (l0.length : Int) > 40 then (if 40 ≤ (l0.length : Int) then (some (l0.take 40)) else (none)) else (some l0)) = some r := h
  clear h
  by_cases c2 : (l0.length : Int) > 40
  · rw [if_pos c2] at H
    have c2b0 : decide (40 < (l0.length : Int)) = true := decide_eq_true c2
    have c2b1 : decide (40 < l0.length) = true := decide_eq_true (by omega)
    clear c2
    by_cases c3 : 40 ≤ (l0.length : Int)
    · rw [if_pos c3] at H
      have c3b0 := eq_true c3
      have c3b1 : decide (40 ≤ (l0.length : Int)) = true := decide_eq_true c3
      clear c3
      obtain ⟨y151, hy151⟩ : ∃ y_ : List Int, y_ = (l0.take 40) := ⟨_, rfl⟩
      replace H : (some y151) = some r := by first | (rw [hy151]; with_reducible exact H) | (have H2_ := (Option.bind_some _ _).symm.trans H; rw [hy151]; with_reducible exact H2_) | (have H2_ := (Option.bind_some _ _).symm.trans H; with_reducible exact H2_) | with_reducible exact H | (rw [hy151]; exact H) | exact H
      have Ny151 := Aside0.mk hy151
      clear hy151
      obtain rfl := Option.some.inj H
      have q4 : (40 : Int) ≤ ((l0.length : Int) : Int) := of_decide_eq_true (by first | (with_reducible assumption) | assumption)
      obtain ⟨i04, hi04, _, hsz4, _⟩ := info_parts info3
      have hroom4 : l0.length ≤ c0 := (Kd.V_reads' HO0.out).2.1
      have hC4 : Kd.F (Kd.int .i64) _ _ A0 l0.length l0 := (Kd.V_at (base := w.heap.size) HO0.out).2.2
      have hcut4 := cut_to (P := Try.prog) 27 3 .i64 Try.underlying27 hi04 A0 l0.length c0 40 (by omega) q4 hroom4
      have hr4 := Kd.F_take (m := 40) hC4 (by omega)
      have hy4 : y151.length = (40 : Int).toNat := (by rw [Ny151.out, List.length_take]; omega)
      rw [← Ny151.out] at hr4
      rw [← hy4] at hcut4
      have HO155 := Aside0.mk (show Kd.V (Kd.int .i64) 3 _ w.heap.size _ (.slice A0 y151.length c0) y151 from Kd.V_mk (by omega) hr4)
      have HC155 := Aside0.mk (show y151.length ≤ c0 from by omega)
      clear hr4 hC4 hroom4 hi04 hsz4
      have KY4 := Aside0.mk hy4
      clear hy4
      replace q4 := eq_true q4
      go_enter Try.func34, Try.ntmps34
      go_wp2
      go_ret
      exact ⟨_, by first | rfl | (simp only [Int.tdiv_eq_ediv_of_nonneg (show (0 : Int) ≤ 9223372036854775807 by decide), Int.tdiv_eq_ediv_of_nonneg (show (0 : Int) ≤ 9223372036854775808 by decide)] <;> rfl) | (simp [errW_none, errW_some] <;> rfl) | (simp [*, errW_none, errW_some] <;> rfl), by (with_reducible repeat (first | apply Kd.V_alloc | apply Kd.V_drewN | apply Kd.V_drew)); exact HO155.out, by repeat (first | (with_reducible first | exact HB.out | apply below_alloc | apply pw_below_drewN | apply below_drew1) | exact HB.out)⟩
    · rw [if_neg c3] at H
      exact absurd H (by simp)
  · rw [if_neg c2] at H
    have c2b0 : decide (40 < (l0.length : Int)) = false := decide_eq_false c2
    have c2b1 : decide (40 < l0.length) = false := decide_eq_false (by omega)
    clear c2
    obtain rfl := Option.some.inj H
    go_enter Try.func34, Try.ntmps34
    go_wp2
    go_ret
    exact ⟨_, by first | rfl | (simp only [Int.tdiv_eq_ediv_of_nonneg (show (0 : Int) ≤ 9223372036854775807 by decide), Int.tdiv_eq_ediv_of_nonneg (show (0 : Int) ≤ 9223372036854775808 by decide)] <;> rfl) | (simp [errW_none, errW_some] <;> rfl) | (simp [*, errW_none, errW_some] <;> rfl), by (with_reducible repeat (first | apply Kd.V_alloc | apply Kd.V_drewN | apply Kd.V_drew)); exact HO0.out, by repeat (first | (with_reducible first | exact HB.out | apply below_alloc | apply pw_below_drewN | apply below_drew1) | exact HB.out)⟩

end Go.Proofs.Ytpaednaeehlofaa.PRoundTells
