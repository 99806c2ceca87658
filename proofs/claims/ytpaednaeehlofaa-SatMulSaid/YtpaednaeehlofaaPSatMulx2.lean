/- Written by xp.py, a program of this session: contracts of the Go functions that a law reaches: each call returns what the Lean function of its name tells. Conditions: those that each theorem names, none else. -/
import Derived.Test.YtpaednaeehlofaaPSatMulx0
import Derived.Test.YtpaednaeehlofaaPSatMulx1
namespace Go.Proofs.Ytpaednaeehlofaa.PSatMul
open Go.RowKit Go.Proofs.YtpaednaeehlofaaW.PrintWords Go.Proofs.YtpaednaeehlofaaW.PrintLast Go.Proofs.YtpaednaeehlofaaW.PrintMore
attribute [local go_sem] max2_int min2_int max_two min_two max_three min_three max_four min_four   -- for this text's walks alone
set_option linter.unusedVariables false
set_option linter.unusedSimpArgs false

/-! ### earshotlaw01_SatMul: function 7 -/
mutual
def earshotlaw01_SatMul.j0 : Nat → Int → Int → Bool → Int → Bool → Bool → Option (Bool)
  | 0, _, _, _, _, _, _ => none
  | k + 1, x0, x1, x7, x8, x9, x61 => if x61 = true then (some false) else (if x0 = 0 then (earshotlaw01_SatMul.j1 k x0 x1 x7 x8 x9 true) else (earshotlaw01_SatMul.j1 k x0 x1 x7 x8 x9 (x1 == 0)))
def earshotlaw01_SatMul.j1 : Nat → Int → Int → Bool → Int → Bool → Bool → Option (Bool)
  | 0, _, _, _, _, _, _ => none
  | k + 1, x0, x1, x7, x8, x9, x67 => if x67 = true then (if x7 = true then (if x9 = true then (some (x8 == 0)) else (some false)) else (some false)) else (if x0 = (-1) then (earshotlaw01_SatMul.j2 k x0 x1 x7 x8 x9 true) else (earshotlaw01_SatMul.j2 k x0 x1 x7 x8 x9 (x1 == (-1))))
def earshotlaw01_SatMul.j2 : Nat → Int → Int → Bool → Int → Bool → Bool → Option (Bool)
  | 0, _, _, _, _, _, _ => none
  | k + 1, x0, x1, x7, x8, x9, x81 => if x81 = true then (if x7 = true then (if (x9 == ((wrap64 ((wrap64 (x0 + x1)) + 1)) != (-9223372036854775808))) = true then (if x9 = true then (some ((wrap64 (x8 + (wrap64 ((wrap64 (x0 + x1)) + 1)))) == 0)) else (some true)) else (some false)) else (some false)) else (if x9 = true then (if x7 = true then (if x0 = 0 then (none) else (if (wrap64 (Int.tdiv x8 x0)) = x1 then (some ((Int.tmod x8 x0) == 0)) else (some false))) else (some false)) else (if ((decide (x0 < 0)) == (decide (x1 < 0))) = true then (if x7 = true then ((earshotlaw01_size.f x1).bind fun t127 => ((earshotlaw01_size.f x0).bind fun t128 => (if t128 = 0 then (none) else (some (decide (t127 > (IntKind.u64.wrap ((9223372036854775807 : Int) / t128)))))))) else (some false)) else (if x7 = true then ((earshotlaw01_size.f x1).bind fun t129 => ((earshotlaw01_size.f x0).bind fun t130 => (if t130 = 0 then (none) else (some (decide (t129 > (IntKind.u64.wrap ((9223372036854775808 : Int) / t130)))))))) else (some false))))
end
def earshotlaw01_SatMul.f (k : Nat) (a0 : Int) (a1 : Int) (a2_0 : Int) (a2_1 : Int) : Option (Bool) := (earshotlaw01_awake.f k).bind fun t120 => ((sat_Mul.f k a0 a1).bind fun bt121 => ((sat_Mul.f k a1 a0).bind fun bt123 => ((sat_Mul.f k (wrap64 (a2_0)) (wrap64 (a2_1))).bind fun bt125 => (if bt121.1 = bt123.1 then (if (bt121.2 != bt123.2) = true then (earshotlaw01_SatMul.j0 k a0 a1 t120 bt121.1 bt121.2 true) else (if bt125.2 = true then (earshotlaw01_SatMul.j0 k a0 a1 t120 bt121.1 bt121.2 (bt125.1 != (wrap64 ((wrap64 (a2_0)) * (wrap64 (a2_1)))))) else (earshotlaw01_SatMul.j0 k a0 a1 t120 bt121.1 bt121.2 true))) else (earshotlaw01_SatMul.j0 k a0 a1 t120 bt121.1 bt121.2 true)))))
theorem earshotlaw01_SatMul.mono_l : ∀ k, (∀ y0 y1 y2 y3 y4 y5, LeO (earshotlaw01_SatMul.j0 k y0 y1 y2 y3 y4 y5) (earshotlaw01_SatMul.j0 (k + 1) y0 y1 y2 y3 y4 y5)) ∧ (∀ y0 y1 y2 y3 y4 y5, LeO (earshotlaw01_SatMul.j1 k y0 y1 y2 y3 y4 y5) (earshotlaw01_SatMul.j1 (k + 1) y0 y1 y2 y3 y4 y5)) ∧ (∀ y0 y1 y2 y3 y4 y5, LeO (earshotlaw01_SatMul.j2 k y0 y1 y2 y3 y4 y5) (earshotlaw01_SatMul.j2 (k + 1) y0 y1 y2 y3 y4 y5))
  | 0 => ⟨fun _ _ _ _ _ _ r h => by simp [earshotlaw01_SatMul.j0] at h, fun _ _ _ _ _ _ r h => by simp [earshotlaw01_SatMul.j1] at h, fun _ _ _ _ _ _ r h => by simp [earshotlaw01_SatMul.j2] at h⟩
  | k + 1 => by
    obtain ⟨ih0, ih1, ih2⟩ := earshotlaw01_SatMul.mono_l k
    refine ⟨?_, ?_, ?_⟩
    · intro y0 y1 y2 y3 y4 y5
      unfold earshotlaw01_SatMul.j0
      repeat' first
      | (with_reducible exact ih0 _ _ _ _ _ _)
      | (with_reducible exact ih1 _ _ _ _ _ _)
      | (with_reducible exact ih2 _ _ _ _ _ _)
      | (with_reducible exact earshotlaw01_awake.mono _)
      | (with_reducible exact sat_Mul.mono _ _ _)
      | (with_reducible exact LeO.refl _)
      | (with_reducible exact LeO.none _)
      | (with_reducible refine LeO.ite ?_ ?_)
      | (with_reducible refine LeO.bind ?_ (fun _ => ?_))
      | exact ih0 _ _ _ _ _ _
      | exact ih1 _ _ _ _ _ _
      | exact ih2 _ _ _ _ _ _
      | exact earshotlaw01_awake.mono _
      | exact sat_Mul.mono _ _ _
      | exact LeO.none _
      | refine LeO.ite ?_ ?_
      | refine LeO.bind ?_ (fun _ => ?_)
    · intro y0 y1 y2 y3 y4 y5
      unfold earshotlaw01_SatMul.j1
      repeat' first
      | (with_reducible exact ih0 _ _ _ _ _ _)
      | (with_reducible exact ih1 _ _ _ _ _ _)
      | (with_reducible exact ih2 _ _ _ _ _ _)
      | (with_reducible exact earshotlaw01_awake.mono _)
      | (with_reducible exact sat_Mul.mono _ _ _)
      | (with_reducible exact LeO.refl _)
      | (with_reducible exact LeO.none _)
      | (with_reducible refine LeO.ite ?_ ?_)
      | (with_reducible refine LeO.bind ?_ (fun _ => ?_))
      | exact ih0 _ _ _ _ _ _
      | exact ih1 _ _ _ _ _ _
      | exact ih2 _ _ _ _ _ _
      | exact earshotlaw01_awake.mono _
      | exact sat_Mul.mono _ _ _
      | exact LeO.none _
      | refine LeO.ite ?_ ?_
      | refine LeO.bind ?_ (fun _ => ?_)
    · intro y0 y1 y2 y3 y4 y5
      unfold earshotlaw01_SatMul.j2
      repeat' first
      | (with_reducible exact ih0 _ _ _ _ _ _)
      | (with_reducible exact ih1 _ _ _ _ _ _)
      | (with_reducible exact ih2 _ _ _ _ _ _)
      | (with_reducible exact earshotlaw01_awake.mono _)
      | (with_reducible exact sat_Mul.mono _ _ _)
      | (with_reducible exact LeO.refl _)
      | (with_reducible exact LeO.none _)
      | (with_reducible refine LeO.ite ?_ ?_)
      | (with_reducible refine LeO.bind ?_ (fun _ => ?_))
      | exact ih0 _ _ _ _ _ _
      | exact ih1 _ _ _ _ _ _
      | exact ih2 _ _ _ _ _ _
      | exact earshotlaw01_awake.mono _
      | exact sat_Mul.mono _ _ _
      | exact LeO.none _
      | refine LeO.ite ?_ ?_
      | refine LeO.bind ?_ (fun _ => ?_)
theorem earshotlaw01_SatMul.mono : ∀ a0 a1 a2 a3 k, LeO (earshotlaw01_SatMul.f k a0 a1 a2 a3) (earshotlaw01_SatMul.f (k + 1) a0 a1 a2 a3) := by
  intro a0 a1 a2 a3 k
  obtain ⟨ih0, ih1, ih2⟩ := earshotlaw01_SatMul.mono_l k
  unfold earshotlaw01_SatMul.f
  repeat' first
      | (with_reducible exact ih0 _ _ _ _ _ _)
      | (with_reducible exact ih1 _ _ _ _ _ _)
      | (with_reducible exact ih2 _ _ _ _ _ _)
      | (with_reducible exact earshotlaw01_awake.mono _)
      | (with_reducible exact sat_Mul.mono _ _ _)
      | (with_reducible exact LeO.refl _)
      | (with_reducible exact LeO.none _)
      | (with_reducible refine LeO.ite ?_ ?_)
      | (with_reducible refine LeO.bind ?_ (fun _ => ?_))
      | exact ih0 _ _ _ _ _ _
      | exact ih1 _ _ _ _ _ _
      | exact ih2 _ _ _ _ _ _
      | exact earshotlaw01_awake.mono _
      | exact sat_Mul.mono _ _ _
      | exact LeO.none _
      | refine LeO.ite ?_ ?_
      | refine LeO.bind ?_ (fun _ => ?_)
set_option maxHeartbeats 8000000 in
set_option maxRecDepth 100000 in
theorem earshotlaw01_SatMul.calls (k : Nat) (a0 : Int) (a1 : Int) (a2_0 : Int) (a2_1 : Int) (r : Bool) (w : World) (h : earshotlaw01_SatMul.f k a0 a1 a2_0 a2_1 = some r) :
    Calls Try.prog 7 #[.int .i64 a0, .int .i64 a1, .agg #[.int .i32 a2_0, .int .i32 a2_1]] w fun e w' => e = .returned (.bool r) ∧ Below w.heap.size w w' := by
  have hu43 := Try.underlying43
  have HB := Aside0.mk (Below.refl w.heap.size w)
  have H : ((earshotlaw01_awake.f k).bind fun t120 => ((sat_Mul.f k a0 a1).bind fun bt121 => ((sat_Mul.f k a1 a0).bind fun bt123 => ((sat_Mul.f k (wrap64 (a2_0)) (wrap64 (a2_1))).bind fun bt125 => (if bt121.1 = bt123.1 then (if (bt121.2 != bt123.2) = true then (earshotlaw01_SatMul.j0 k a0 a1 t120 bt121.1 bt121.2 true) else (if bt125.2 = true then (earshotlaw01_SatMul.j0 k a0 a1 t120 bt121.1 bt121.2 (bt125.1 != (wrap64 ((wrap64 (a2_0)) * (wrap64 (a2_1)))))) else (earshotlaw01_SatMul.j0 k a0 a1 t120 bt121.1 bt121.2 true))) else (earshotlaw01_SatMul.j0 k a0 a1 t120 bt121.1 bt121.2 true)))))) = some r := h
  clear h
  replace H := Option.bind_eq_some_iff.mp H
  obtain ⟨t120, A40, H⟩ := H
  replace H : ((sat_Mul.f k a0 a1).bind fun bt121 => ((sat_Mul.f k a1 a0).bind fun bt123 => ((sat_Mul.f k (wrap64 (a2_0)) (wrap64 (a2_1))).bind fun bt125 => (if bt121.1 = bt123.1 then (if (bt121.2 != bt123.2) = true then (earshotlaw01_SatMul.j0 k a0 a1 t120 bt121.1 bt121.2 true) else (if bt125.2 = true then (earshotlaw01_SatMul.j0 k a0 a1 t120 bt121.1 bt121.2 (bt125.1 != (wrap64 ((wrap64 (a2_0)) * (wrap64 (a2_1)))))) else (earshotlaw01_SatMul.j0 k a0 a1 t120 bt121.1 bt121.2 true))) else (earshotlaw01_SatMul.j0 k a0 a1 t120 bt121.1 bt121.2 true))))) = some r := H
  have A4 := Aside0.mk A40
  clear A40
  replace H := Option.bind_eq_some_iff.mp H
  obtain ⟨⟨t121, t122⟩, A50, H⟩ := H
  replace H : ((sat_Mul.f k a1 a0).bind fun bt123 => ((sat_Mul.f k (wrap64 (a2_0)) (wrap64 (a2_1))).bind fun bt125 => (if t121 = bt123.1 then (if (t122 != bt123.2) = true then (earshotlaw01_SatMul.j0 k a0 a1 t120 t121 t122 true) else (if bt125.2 = true then (earshotlaw01_SatMul.j0 k a0 a1 t120 t121 t122 (bt125.1 != (wrap64 ((wrap64 (a2_0)) * (wrap64 (a2_1)))))) else (earshotlaw01_SatMul.j0 k a0 a1 t120 t121 t122 true))) else (earshotlaw01_SatMul.j0 k a0 a1 t120 t121 t122 true)))) = some r := H
  have A5 := Aside0.mk A50
  clear A50
  replace H := Option.bind_eq_some_iff.mp H
  obtain ⟨⟨t123, t124⟩, A60, H⟩ := H
  replace H : ((sat_Mul.f k (wrap64 (a2_0)) (wrap64 (a2_1))).bind fun bt125 => (if t121 = t123 then (if (t122 != t124) = true then (earshotlaw01_SatMul.j0 k a0 a1 t120 t121 t122 true) else (if bt125.2 = true then (earshotlaw01_SatMul.j0 k a0 a1 t120 t121 t122 (bt125.1 != (wrap64 ((wrap64 (a2_0)) * (wrap64 (a2_1)))))) else (earshotlaw01_SatMul.j0 k a0 a1 t120 t121 t122 true))) else (earshotlaw01_SatMul.j0 k a0 a1 t120 t121 t122 true))) = some r := H
  have A6 := Aside0.mk A60
  clear A60
  replace H := Option.bind_eq_some_iff.mp H
  obtain ⟨⟨t125, t126⟩, A70, H⟩ := H
  replace H : (if t121 = t123 then (if (t122 != t124) = true then (earshotlaw01_SatMul.j0 k a0 a1 t120 t121 t122 true) else (if t126 = true then (earshotlaw01_SatMul.j0 k a0 a1 t120 t121 t122 (t125 != (wrap64 ((wrap64 (a2_0)) * (wrap64 (a2_1)))))) else (earshotlaw01_SatMul.j0 k a0 a1 t120 t121 t122 true))) else (earshotlaw01_SatMul.j0 k a0 a1 t120 t121 t122 true)) = some r := H
  have A7 := Aside0.mk A70
  clear A70
  have HC8 := Aside0.mk H
  clear H
  go_enter Try.func7, Try.ntmps7
  go_upto_region 5 with (first | ((with_reducible refine gate_dst (N := 5) rfl ?_); refine box_event ?hg (N := 5) ?hd (cs := #[.int .i32 a2_0, .int .i32 a2_1]) (t := 43) ?hr ?_; (case hd => rfl); (case hg => rfl); (case hr => first | (go_simp; done) | (go_simp; rfl)); intro gb119 hg w9 hbox hb; have n0_ := Aside0.mk (below_step (by repeat (first | (with_reducible first | exact HB.out | apply below_alloc | apply pw_below_drewN | apply below_drew1) | exact HB.out)) hb); have n1_ := Aside0.mk (hbox); have n2_ := Aside0.mk ((by rw [hg]; exact (below_size (by repeat (first | (with_reducible first | exact HB.out | apply below_alloc | apply pw_below_drewN | apply below_drew1) | exact HB.out))) : w.heap.size ≤ gb119)); have n3_ := Aside0.mk ((by rw [hg]; exact (below_size (by repeat (first | (with_reducible first | exact HB.out | apply below_alloc | apply pw_below_drewN | apply below_drew1) | exact HB.out))) : w.heap.size ≤ gb119)); clear HB; have HB := n0_; have BK119 := n1_; have GW119 := n2_; have GE119 := n3_; clear n0_ n1_ n2_ n3_; clear hb hbox hg) | ((with_reducible refine gate_callee (f := 13) rfl ?_); refine goesL_ (some 16) rfl rfl Try.func13 (by kernel_rfl) rfl #[] rfl (by (try simp only [List.map_toArray, List.map_cons, List.map_nil]); first | done | rfl | (simp only [List.length_drop, List.length_take]; rfl)) ?_; (with_reducible refine (earshotlaw01_awake.calls k  t120 _ A4.out).mono ?_); rintro e w10 ⟨rfl, hb⟩; refine ⟨_, rfl, ?_⟩; have n0_ := Aside0.mk (blk_below (g := gb119) (o := .cells #[.int .i32 a2_0, .int .i32 a2_1] 43 (0, 0)) (by (with_reducible repeat (first | refine blk_drewN ?_ _ | refine blk_drew ?_ | refine blk_alloc ?_ _)); exact BK119.out) hb); have n1_ := Aside0.mk (below_step (by repeat (first | (with_reducible first | exact HB.out | apply below_alloc | apply pw_below_drewN | apply below_drew1 | refine below_set ?_ GE119.out) | exact HB.out)) hb); clear BK119; clear HB; have BK119 := n0_; have HB := n1_; clear n0_ n1_; (try clear hb); (try clear hb2); (try clear hk); (try clear hi)) | ((with_reducible refine gate_callee (f := 21) rfl ?_); refine goesL_ (some 20) rfl rfl Try.func21 (by kernel_rfl) rfl #[.int .i64 a0, .int .i64 a1] rfl (by (try simp only [List.map_toArray, List.map_cons, List.map_nil]); first | done | rfl | (simp only [List.length_drop, List.length_take]; rfl)) ?_; (with_reducible refine (sat_Mul.calls k a0 a1 t121 t122 _ A5.out).mono ?_); rintro e w' ⟨rfl, ⟨nd, rfl⟩⟩; refine ⟨_, rfl, ?_⟩) | ((with_reducible refine gate_callee (f := 21) rfl ?_); refine goesL_ (some 26) rfl rfl Try.func21 (by kernel_rfl) rfl #[.int .i64 a1, .int .i64 a0] rfl (by (try simp only [List.map_toArray, List.map_cons, List.map_nil]); first | done | rfl | (simp only [List.length_drop, List.length_take]; rfl)) ?_; (with_reducible refine (sat_Mul.calls k a1 a0 t123 t124 _ A6.out).mono ?_); rintro e w' ⟨rfl, ⟨nd, rfl⟩⟩; refine ⟨_, rfl, ?_⟩; have hcz11_0 : w10.cell? ⟨gb119, 0, none⟩ = some (.int .i32 a2_0) := (blk_cell BK119.out 0).trans rfl; have hcz11_1 : w10.cell? ⟨gb119, 1, none⟩ = some (.int .i32 a2_1) := (blk_cell BK119.out 1).trans rfl; have hfz11_0 := blk_frozen BK119.out 0; have hfz11_1 := blk_frozen BK119.out 1) | ((with_reducible refine gate_callee (f := 21) rfl ?_); refine goesL_ (some 36) rfl rfl Try.func21 (by kernel_rfl) rfl #[.int .i64 (wrap64 (a2_0)), .int .i64 (wrap64 (a2_1))] rfl (by (try simp only [List.map_toArray, List.map_cons, List.map_nil]); first | done | rfl | (simp only [List.length_drop, List.length_take]; rfl)) ?_; (with_reducible refine (sat_Mul.calls k (wrap64 (a2_0)) (wrap64 (a2_1)) t125 t126 _ A7.out).mono ?_); rintro e w' ⟨rfl, ⟨nd, rfl⟩⟩; refine ⟨_, rfl, ?_⟩))
  (try simp only [Act.put, List.setIfInBounds_toArray, List.set_cons_zero, List.set_cons_succ])
  go_cut [61] (fun v61 wc => ∃ (kq : Nat) (x61_7 : Bool), v61 = .bool x61_7 ∧ Aside0 (earshotlaw01_SatMul.j0 kq a0 a1 t120 t121 t122 x61_7 = some r) ∧ Aside0 (kq ≤ k) ∧ Aside0 (wc.heap[gb119]? = some (.cells #[.int .i32 a2_0, .int .i32 a2_1] 43 (0, 0))) ∧ Aside0 (Below w.heap.size w wc))
  case first =>
    have H := HC8.out
    clear HC8
    by_cases c12 : t121 = t123
    · rw [if_pos c12] at H
      have c12b0 : (t121 == t123) = true := beq_iff_eq.mpr c12
      have c12b1 : (t121 != t123) = false := bne_eq_false_iff_eq.mpr c12
      clear c12
      (first | rw [c12b0] | (simp only [i64_w, i32_w]; rw [c12b0]) | skip)
      by_cases c13 : (t122 != t124) = true
      · rw [if_pos c13] at H
        have c13b0 : (t122 != t124) = true := c13
        (try (have c13b1 : decide (t122 = t124) = false := by simpa using c13))
        (try (have c13b2 : (t122 == t124) = false := by simpa using c13))
        (try (have c13b3 : ¬ (t122 = t124) := by simpa using c13))
        clear c13
        have H' := Aside0.mk H
        clear H
        go_wp2
        go_meet
        case rel => exact ⟨_, (true), (by first | rfl | (simp; done) | (simp [*]; done)), H', ⟨by first | omega | exact Nat.le_refl _⟩, ⟨by (with_reducible repeat (first | refine blk_drewN ?_ _ | refine blk_drew ?_ | refine blk_alloc ?_ _)); exact BK119.out⟩, ⟨by repeat (first | (with_reducible first | exact HB.out | apply below_alloc | apply pw_below_drewN | apply below_drew1 | refine below_set ?_ GE119.out) | exact HB.out)⟩⟩
      · rw [if_neg c13] at H
        have c13b0 : (t122 != t124) = false := by simpa using c13
        (try (have c13b1 : decide (t122 = t124) = true := by simpa using c13))
        (try (have c13b2 : (t122 == t124) = true := by simpa using c13))
        clear c13
        by_cases c14 : t126 = true
        · subst c14
          have H1 : (earshotlaw01_SatMul.j0 k a0 a1 t120 t121 t122 (t125 != (wrap64 ((wrap64 (a2_0)) * (wrap64 (a2_1)))))) = some r := by rw [if_pos rfl] at H; exact H
          clear H
          have H := H1
          clear H1
          have H' := Aside0.mk H
          clear H
          have hcz15_0 : w10.cell? ⟨gb119, 0, none⟩ = some (.int .i32 a2_0) := (blk_cell BK119.out 0).trans rfl
          have hcz15_1 : w10.cell? ⟨gb119, 1, none⟩ = some (.int .i32 a2_1) := (blk_cell BK119.out 1).trans rfl
          have hfz15_0 := blk_frozen BK119.out 0
          have hfz15_1 := blk_frozen BK119.out 1
          go_wp2
          go_meet
          case rel => exact ⟨_, ((t125 != (wrap64 ((wrap64 (a2_0)) * (wrap64 (a2_1)))))), (by first | rfl | (simp; done) | (simp [*]; done)), H', ⟨by first | omega | exact Nat.le_refl _⟩, ⟨by (with_reducible repeat (first | refine blk_drewN ?_ _ | refine blk_drew ?_ | refine blk_alloc ?_ _)); exact BK119.out⟩, ⟨by repeat (first | (with_reducible first | exact HB.out | apply below_alloc | apply pw_below_drewN | apply below_drew1 | refine below_set ?_ GE119.out) | exact HB.out)⟩⟩
        · replace c14 := Bool.eq_false_iff.mpr c14
          subst c14
          have H1 : (earshotlaw01_SatMul.j0 k a0 a1 t120 t121 t122 true) = some r := by rw [if_neg (show ¬ (false = true) by decide)] at H; exact H
          clear H
          have H := H1
          clear H1
          have H' := Aside0.mk H
          clear H
          go_wp2
          go_meet
          case rel => exact ⟨_, (true), (by first | rfl | (simp; done) | (simp [*]; done)), H', ⟨by first | omega | exact Nat.le_refl _⟩, ⟨by (with_reducible repeat (first | refine blk_drewN ?_ _ | refine blk_drew ?_ | refine blk_alloc ?_ _)); exact BK119.out⟩, ⟨by repeat (first | (with_reducible first | exact HB.out | apply below_alloc | apply pw_below_drewN | apply below_drew1 | refine below_set ?_ GE119.out) | exact HB.out)⟩⟩
    · rw [if_neg c12] at H
      have c12b0 : (t121 == t123) = false := beq_eq_false_iff_ne.mpr c12
      have c12b1 : (t121 != t123) = true := bne_iff_ne.mpr c12
      (first | rw [c12b0] | (simp only [i64_w, i32_w]; rw [c12b0]) | skip)
      have H' := Aside0.mk H
      clear H
      go_wp2
      go_meet
      case rel => exact ⟨_, (true), (by first | rfl | (simp; done) | (simp [*]; done)), H', ⟨by first | omega | exact Nat.le_refl _⟩, ⟨by (with_reducible repeat (first | refine blk_drewN ?_ _ | refine blk_drew ?_ | refine blk_alloc ?_ _)); exact BK119.out⟩, ⟨by repeat (first | (with_reducible first | exact HB.out | apply below_alloc | apply pw_below_drewN | apply below_drew1 | refine below_set ?_ GE119.out) | exact HB.out)⟩⟩
  case rest =>
    clear HC8
    try clear c1
    try clear c2
    try clear p2
    try clear p6
    try clear c7
    try clear c12
    try clear c12b0
    try clear c12b1
    try clear c13
    try clear c13b0
    try clear c13b1
    try clear c13b2
    try clear c14
    try clear hcz11_0
    try clear hcz11_1
    try clear hcz15_0
    try clear hcz15_1
    try clear hfz11_0
    try clear hfz11_1
    try clear hfz15_0
    try clear hfz15_1
    obtain ⟨kq, x61_7, rfl, HA, HJ7, BK119, HB⟩ := hcut
    cases kq with
    | zero => exact absurd HA.out (by simp [earshotlaw01_SatMul.j0])
    | succ kj7 =>
      have H := HA.out
      clear HA
      simp only [earshotlaw01_SatMul.j0] at H
      by_cases c16 : x61_7 = true
      · subst c16
        have H1 : (some false) = some r := by rw [if_pos rfl] at H; exact H
        clear H
        have H := H1
        clear H1
        obtain rfl := Option.some.inj H
        go_wp2
        go_ret
        exact ⟨by first | rfl | (simp only [Int.tdiv_eq_ediv_of_nonneg (show (0 : Int) ≤ 9223372036854775807 by decide), Int.tdiv_eq_ediv_of_nonneg (show (0 : Int) ≤ 9223372036854775808 by decide)] <;> rfl) | (simp [errW_none, errW_some] <;> rfl) | (simp [*, errW_none, errW_some] <;> rfl), by repeat (first | (with_reducible first | exact HB.out | apply below_alloc | apply pw_below_drewN | apply below_drew1 | refine below_set ?_ GE119.out) | exact HB.out)⟩
      · replace c16 := Bool.eq_false_iff.mpr c16
        subst c16
        have H1 : (if a0 = 0 then (earshotlaw01_SatMul.j1 kj7 a0 a1 t120 t121 t122 true) else (earshotlaw01_SatMul.j1 kj7 a0 a1 t120 t121 t122 (a1 == 0))) = some r := by rw [if_neg (show ¬ (false = true) by decide)] at H; exact H
        clear H
        have H := H1
        clear H1
        have HC17 := Aside0.mk H
        clear H
        go_upto_region 7 with (fail)
        go_cut [67] (fun v67 wc => ∃ (kq : Nat) (x67_16 : Bool), v67 = .bool x67_16 ∧ Aside0 (earshotlaw01_SatMul.j1 kq a0 a1 t120 t121 t122 x67_16 = some r) ∧ Aside0 (kq ≤ kj7) ∧ Aside0 (wc.heap[gb119]? = some (.cells #[.int .i32 a2_0, .int .i32 a2_1] 43 (0, 0))) ∧ Aside0 (Below w.heap.size w wc))
        case first =>
          have H := HC17.out
          clear HC17
          by_cases c18 : a0 = 0
          · rw [if_pos c18] at H
            have c18b0 : (a0 == 0) = true := beq_iff_eq.mpr c18
            have c18b1 : (a0 != 0) = false := bne_eq_false_iff_eq.mpr c18
            clear c18
            (first | rw [c18b0] | (simp only [i64_w, i32_w]; rw [c18b0]) | skip)
            have H' := Aside0.mk H
            clear H
            go_wp2
            go_meet
            case rel => exact ⟨_, (true), (by first | rfl | (simp; done) | (simp [*]; done)), H', ⟨by have := HJ7.out; first | omega | exact Nat.le_refl _⟩, ⟨by (with_reducible repeat (first | refine blk_drewN ?_ _ | refine blk_drew ?_ | refine blk_alloc ?_ _)); exact BK119.out⟩, ⟨by repeat (first | (with_reducible first | exact HB.out | apply below_alloc | apply pw_below_drewN | apply below_drew1 | refine below_set ?_ GE119.out) | exact HB.out)⟩⟩
          · rw [if_neg c18] at H
            have c18b0 : (a0 == 0) = false := beq_eq_false_iff_ne.mpr c18
            have c18b1 : (a0 != 0) = true := bne_iff_ne.mpr c18
            (first | rw [c18b0] | (simp only [i64_w, i32_w]; rw [c18b0]) | skip)
            have H' := Aside0.mk H
            clear H
            go_wp2
            go_meet
            case rel => exact ⟨_, ((a1 == 0)), (by first | rfl | (simp; done) | (simp [*]; done)), H', ⟨by have := HJ7.out; first | omega | exact Nat.le_refl _⟩, ⟨by (with_reducible repeat (first | refine blk_drewN ?_ _ | refine blk_drew ?_ | refine blk_alloc ?_ _)); exact BK119.out⟩, ⟨by repeat (first | (with_reducible first | exact HB.out | apply below_alloc | apply pw_below_drewN | apply below_drew1 | refine below_set ?_ GE119.out) | exact HB.out)⟩⟩
        case rest =>
          clear HC17
          try clear c1
          try clear c2
          try clear p2
          try clear p6
          try clear c7
          try clear c12
          try clear c12b0
          try clear c12b1
          try clear c13
          try clear c13b0
          try clear c13b1
          try clear c13b2
          try clear c14
          try clear c16
          try clear c18
          try clear c18b0
          try clear c18b1
          try clear hcz11_0
          try clear hcz11_1
          try clear hcz15_0
          try clear hcz15_1
          try clear hfz11_0
          try clear hfz11_1
          try clear hfz15_0
          try clear hfz15_1
          try clear p2
          try clear p6
          obtain ⟨kq, x67_16, rfl, HA, HJ16, BK119, HB⟩ := hcut
          cases kq with
          | zero => exact absurd HA.out (by simp [earshotlaw01_SatMul.j1])
          | succ kj16 =>
            have H := HA.out
            clear HA
            simp only [earshotlaw01_SatMul.j1] at H
            by_cases c19 : x67_16 = true
            · subst c19
              have H1 : (if t120 = true then (if t122 = true then (some (t121 == 0)) else (some false)) else (some false)) = some r := by rw [if_pos rfl] at H; exact H
              clear H
              have H := H1
              clear H1
              by_cases c20 : t120 = true
              · subst c20
                have H1 : (if t122 = true then (some (t121 == 0)) else (some false)) = some r := by rw [if_pos rfl] at H; exact H
                clear H
                have H := H1
                clear H1
                by_cases c21 : t122 = true
                · subst c21
                  have H1 : (some (t121 == 0)) = some r := by rw [if_pos rfl] at H; exact H
                  clear H
                  have H := H1
                  clear H1
                  obtain rfl := Option.some.inj H
                  go_wp2
                  go_ret
                  exact ⟨by first | rfl | (simp only [Int.tdiv_eq_ediv_of_nonneg (show (0 : Int) ≤ 9223372036854775807 by decide), Int.tdiv_eq_ediv_of_nonneg (show (0 : Int) ≤ 9223372036854775808 by decide)] <;> rfl) | (simp [errW_none, errW_some] <;> rfl) | (simp [*, errW_none, errW_some] <;> rfl), by repeat (first | (with_reducible first | exact HB.out | apply below_alloc | apply pw_below_drewN | apply below_drew1 | refine below_set ?_ GE119.out) | exact HB.out)⟩
                · replace c21 := Bool.eq_false_iff.mpr c21
                  subst c21
                  have H1 : (some false) = some r := by rw [if_neg (show ¬ (false = true) by decide)] at H; exact H
                  clear H
                  have H := H1
                  clear H1
                  obtain rfl := Option.some.inj H
                  go_wp2
                  go_ret
                  exact ⟨by first | rfl | (simp only [Int.tdiv_eq_ediv_of_nonneg (show (0 : Int) ≤ 9223372036854775807 by decide), Int.tdiv_eq_ediv_of_nonneg (show (0 : Int) ≤ 9223372036854775808 by decide)] <;> rfl) | (simp [errW_none, errW_some] <;> rfl) | (simp [*, errW_none, errW_some] <;> rfl), by repeat (first | (with_reducible first | exact HB.out | apply below_alloc | apply pw_below_drewN | apply below_drew1 | refine below_set ?_ GE119.out) | exact HB.out)⟩
              · replace c20 := Bool.eq_false_iff.mpr c20
                subst c20
                have H1 : (some false) = some r := by rw [if_neg (show ¬ (false = true) by decide)] at H; exact H
                clear H
                have H := H1
                clear H1
                obtain rfl := Option.some.inj H
                go_wp2
                go_ret
                exact ⟨by first | rfl | (simp only [Int.tdiv_eq_ediv_of_nonneg (show (0 : Int) ≤ 9223372036854775807 by decide), Int.tdiv_eq_ediv_of_nonneg (show (0 : Int) ≤ 9223372036854775808 by decide)] <;> rfl) | (simp [errW_none, errW_some] <;> rfl) | (simp [*, errW_none, errW_some] <;> rfl), by repeat (first | (with_reducible first | exact HB.out | apply below_alloc | apply pw_below_drewN | apply below_drew1 | refine below_set ?_ GE119.out) | exact HB.out)⟩
            · replace c19 := Bool.eq_false_iff.mpr c19
              subst c19
              have H1 : (if a0 = (-1) then (earshotlaw01_SatMul.j2 kj16 a0 a1 t120 t121 t122 true) else (earshotlaw01_SatMul.j2 kj16 a0 a1 t120 t121 t122 (a1 == (-1)))) = some r := by rw [if_neg (show ¬ (false = true) by decide)] at H; exact H
              clear H
              have H := H1
              clear H1
              have HC22 := Aside0.mk H
              clear H
              go_upto_region 9 with (fail)
              go_cut [81] (fun v81 wc => ∃ (kq : Nat) (x81_21 : Bool), v81 = .bool x81_21 ∧ Aside0 (earshotlaw01_SatMul.j2 kq a0 a1 t120 t121 t122 x81_21 = some r) ∧ Aside0 (kq ≤ kj16) ∧ Aside0 (wc.heap[gb119]? = some (.cells #[.int .i32 a2_0, .int .i32 a2_1] 43 (0, 0))) ∧ Aside0 (Below w.heap.size w wc))
              case first =>
                have H := HC22.out
                clear HC22
                by_cases c23 : a0 = (-1)
                · rw [if_pos c23] at H
                  have c23b0 : (a0 == (-1)) = true := beq_iff_eq.mpr c23
                  have c23b1 : (a0 != (-1)) = false := bne_eq_false_iff_eq.mpr c23
                  clear c23
                  (first | rw [c23b0] | (simp only [i64_w, i32_w]; rw [c23b0]) | skip)
                  have H' := Aside0.mk H
                  clear H
                  go_wp2
                  go_meet
                  case rel => exact ⟨_, (true), (by first | rfl | (simp; done) | (simp [*]; done)), H', ⟨by have := HJ7.out; have := HJ16.out; first | omega | exact Nat.le_refl _⟩, ⟨by (with_reducible repeat (first | refine blk_drewN ?_ _ | refine blk_drew ?_ | refine blk_alloc ?_ _)); exact BK119.out⟩, ⟨by repeat (first | (with_reducible first | exact HB.out | apply below_alloc | apply pw_below_drewN | apply below_drew1 | refine below_set ?_ GE119.out) | exact HB.out)⟩⟩
                · rw [if_neg c23] at H
                  have c23b0 : (a0 == (-1)) = false := beq_eq_false_iff_ne.mpr c23
                  have c23b1 : (a0 != (-1)) = true := bne_iff_ne.mpr c23
                  (first | rw [c23b0] | (simp only [i64_w, i32_w]; rw [c23b0]) | skip)
                  have H' := Aside0.mk H
                  clear H
                  go_wp2
                  go_meet
                  case rel => exact ⟨_, ((a1 == (-1))), (by first | rfl | (simp; done) | (simp [*]; done)), H', ⟨by have := HJ7.out; have := HJ16.out; first | omega | exact Nat.le_refl _⟩, ⟨by (with_reducible repeat (first | refine blk_drewN ?_ _ | refine blk_drew ?_ | refine blk_alloc ?_ _)); exact BK119.out⟩, ⟨by repeat (first | (with_reducible first | exact HB.out | apply below_alloc | apply pw_below_drewN | apply below_drew1 | refine below_set ?_ GE119.out) | exact HB.out)⟩⟩
              case rest =>
                clear HC22
                try clear c1
                try clear c2
                try clear p2
                try clear p6
                try clear c7
                try clear c12
                try clear c12b0
                try clear c12b1
                try clear c13
                try clear c13b0
                try clear c13b1
                try clear c13b2
                try clear c14
                try clear c16
                try clear c18
                try clear c18b0
                try clear c18b1
                try clear c19
                try clear c20
                try clear c21
                try clear c23
                try clear c23b0
                try clear c23b1
                try clear hcz11_0
                try clear hcz11_1
                try clear hcz15_0
                try clear hcz15_1
                try clear hfz11_0
                try clear hfz11_1
                try clear hfz15_0
                try clear hfz15_1
                try clear p2
                try clear p6
                obtain ⟨kq, x81_21, rfl, HA, HJ21, BK119, HB⟩ := hcut
                cases kq with
                | zero => exact absurd HA.out (by simp [earshotlaw01_SatMul.j2])
                | succ kj21 =>
                  have H := HA.out
                  clear HA
                  simp only [earshotlaw01_SatMul.j2] at H
                  by_cases c24 : x81_21 = true
                  · subst c24
                    have H1 : (if t120 = true then (if (t122 == ((wrap64 ((wrap64 (a0 + a1)) + 1)) != (-9223372036854775808))) = true then (if t122 = true then (some ((wrap64 (t121 + (wrap64 ((wrap64 (a0 + a1)) + 1)))) == 0)) else (some true)) else (some false)) else (some false)) = some r := by rw [if_pos rfl] at H; exact H
                    clear H
                    have H := H1
                    clear H1
                    by_cases c25 : t120 = true
                    · subst c25
                      have H1 : (if (t122 == ((wrap64 ((wrap64 (a0 + a1)) + 1)) != (-9223372036854775808))) = true then (if t122 = true then (some ((wrap64 (t121 + (wrap64 ((wrap64 (a0 + a1)) + 1)))) == 0)) else (some true)) else (some false)) = some r := by rw [if_pos rfl] at H; exact H
                      clear H
                      have H := H1
                      clear H1
                      by_cases c26 : (t122 == ((wrap64 ((wrap64 (a0 + a1)) + 1)) != (-9223372036854775808))) = true
                      · rw [if_pos c26] at H
                        have c26b0 : (t122 == ((wrap64 ((wrap64 (a0 + a1)) + 1)) != (-9223372036854775808))) = true := c26
                        (try (have c26b1 : decide (t122 = ((wrap64 ((wrap64 (a0 + a1)) + 1)) != (-9223372036854775808))) = true := by simpa using c26))
                        (try (have c26b2 : (t122 == ((wrap64 ((wrap64 (a0 + a1)) + 1)) != (-9223372036854775808))) = true := by simpa using c26))
                        clear c26
                        by_cases c27 : t122 = true
                        · subst c27
                          have H1 : (some ((wrap64 (t121 + (wrap64 ((wrap64 (a0 + a1)) + 1)))) == 0)) = some r := by rw [if_pos rfl] at H; exact H
                          clear H
                          have H := H1
                          clear H1
                          obtain rfl := Option.some.inj H
                          go_wp2
                          go_ret
                          exact ⟨by first | rfl | (simp only [Int.tdiv_eq_ediv_of_nonneg (show (0 : Int) ≤ 9223372036854775807 by decide), Int.tdiv_eq_ediv_of_nonneg (show (0 : Int) ≤ 9223372036854775808 by decide)] <;> rfl) | (simp [errW_none, errW_some] <;> rfl) | (simp [*, errW_none, errW_some] <;> rfl), by repeat (first | (with_reducible first | exact HB.out | apply below_alloc | apply pw_below_drewN | apply below_drew1 | refine below_set ?_ GE119.out) | exact HB.out)⟩
                        · replace c27 := Bool.eq_false_iff.mpr c27
                          subst c27
                          have H1 : (some true) = some r := by rw [if_neg (show ¬ (false = true) by decide)] at H; exact H
                          clear H
                          have H := H1
                          clear H1
                          obtain rfl := Option.some.inj H
                          go_wp2
                          go_ret
                          exact ⟨by first | rfl | (simp only [Int.tdiv_eq_ediv_of_nonneg (show (0 : Int) ≤ 9223372036854775807 by decide), Int.tdiv_eq_ediv_of_nonneg (show (0 : Int) ≤ 9223372036854775808 by decide)] <;> rfl) | (simp [errW_none, errW_some] <;> rfl) | (simp [*, errW_none, errW_some] <;> rfl), by repeat (first | (with_reducible first | exact HB.out | apply below_alloc | apply pw_below_drewN | apply below_drew1 | refine below_set ?_ GE119.out) | exact HB.out)⟩
                      · rw [if_neg c26] at H
                        have c26b0 : (t122 == ((wrap64 ((wrap64 (a0 + a1)) + 1)) != (-9223372036854775808))) = false := by simpa using c26
                        (try (have c26b1 : decide (t122 = ((wrap64 ((wrap64 (a0 + a1)) + 1)) != (-9223372036854775808))) = false := by simpa using c26))
                        (try (have c26b2 : (t122 == ((wrap64 ((wrap64 (a0 + a1)) + 1)) != (-9223372036854775808))) = false := by simpa using c26))
                        (try (have c26b3 : ¬ (t122 = ((wrap64 ((wrap64 (a0 + a1)) + 1)) != (-9223372036854775808))) := by simpa using c26))
                        clear c26
                        obtain rfl := Option.some.inj H
                        go_wp2
                        go_ret
                        exact ⟨by first | rfl | (simp only [Int.tdiv_eq_ediv_of_nonneg (show (0 : Int) ≤ 9223372036854775807 by decide), Int.tdiv_eq_ediv_of_nonneg (show (0 : Int) ≤ 9223372036854775808 by decide)] <;> rfl) | (simp [errW_none, errW_some] <;> rfl) | (simp [*, errW_none, errW_some] <;> rfl), by repeat (first | (with_reducible first | exact HB.out | apply below_alloc | apply pw_below_drewN | apply below_drew1 | refine below_set ?_ GE119.out) | exact HB.out)⟩
                    · replace c25 := Bool.eq_false_iff.mpr c25
                      subst c25
                      have H1 : (some false) = some r := by rw [if_neg (show ¬ (false = true) by decide)] at H; exact H
                      clear H
                      have H := H1
                      clear H1
                      obtain rfl := Option.some.inj H
                      go_wp2
                      go_ret
                      exact ⟨by first | rfl | (simp only [Int.tdiv_eq_ediv_of_nonneg (show (0 : Int) ≤ 9223372036854775807 by decide), Int.tdiv_eq_ediv_of_nonneg (show (0 : Int) ≤ 9223372036854775808 by decide)] <;> rfl) | (simp [errW_none, errW_some] <;> rfl) | (simp [*, errW_none, errW_some] <;> rfl), by repeat (first | (with_reducible first | exact HB.out | apply below_alloc | apply pw_below_drewN | apply below_drew1 | refine below_set ?_ GE119.out) | exact HB.out)⟩
                  · replace c24 := Bool.eq_false_iff.mpr c24
                    subst c24
                    have H1 : (if t122 = true then (if t120 = true then (if a0 = 0 then (none) else (if (wrap64 (Int.tdiv t121 a0)) = a1 then (some ((Int.tmod t121 a0) == 0)) else (some false))) else (some false)) else (if ((decide (a0 < 0)) == (decide (a1 < 0))) = true then (if t120 = true then ((earshotlaw01_size.f a1).bind fun t127 => ((earshotlaw01_size.f a0).bind fun t128 => (if t128 = 0 then (none) else (some (decide (t127 > (IntKind.u64.wrap ((9223372036854775807 : Int) / t128)))))))) else (some false)) else (if t120 = true then ((earshotlaw01_size.f a1).bind fun t129 => ((earshotlaw01_size.f a0).bind fun t130 => (if t130 = 0 then (none) else (some (decide (t129 > (IntKind.u64.wrap ((9223372036854775808 : Int) / t130)))))))) else (some false)))) = some r := by rw [if_neg (show ¬ (false = true) by decide)] at H; exact H
                    clear H
                    have H := H1
                    clear H1
                    by_cases c28 : t122 = true
                    · subst c28
                      have H1 : (if t120 = true then (if a0 = 0 then (none) else (if (wrap64 (Int.tdiv t121 a0)) = a1 then (some ((Int.tmod t121 a0) == 0)) else (some false))) else (some false)) = some r := by rw [if_pos rfl] at H; exact H
                      clear H
                      have H := H1
                      clear H1
                      by_cases c29 : t120 = true
                      · subst c29
                        have H1 : (if a0 = 0 then (none) else (if (wrap64 (Int.tdiv t121 a0)) = a1 then (some ((Int.tmod t121 a0) == 0)) else (some false))) = some r := by rw [if_pos rfl] at H; exact H
                        clear H
                        have H := H1
                        clear H1
                        by_cases c30 : a0 = 0
                        · rw [if_pos c30] at H
                          exact absurd H (by simp)
                        · rw [if_neg c30] at H
                          have c30b0 : (a0 == 0) = false := beq_eq_false_iff_ne.mpr c30
                          have c30b1 : (a0 != 0) = true := bne_iff_ne.mpr c30
                          by_cases c31 : (wrap64 (Int.tdiv t121 a0)) = a1
                          · rw [if_pos c31] at H
                            have c31b0 : ((wrap64 (Int.tdiv t121 a0)) == a1) = true := beq_iff_eq.mpr c31
                            have c31b1 : ((wrap64 (Int.tdiv t121 a0)) != a1) = false := bne_eq_false_iff_eq.mpr c31
                            clear c31
                            obtain rfl := Option.some.inj H
                            go_wp2
                            go_ret
                            exact ⟨by first | rfl | (simp only [Int.tdiv_eq_ediv_of_nonneg (show (0 : Int) ≤ 9223372036854775807 by decide), Int.tdiv_eq_ediv_of_nonneg (show (0 : Int) ≤ 9223372036854775808 by decide)] <;> rfl) | (simp [errW_none, errW_some] <;> rfl) | (simp [*, errW_none, errW_some] <;> rfl), by repeat (first | (with_reducible first | exact HB.out | apply below_alloc | apply pw_below_drewN | apply below_drew1 | refine below_set ?_ GE119.out) | exact HB.out)⟩
                          · rw [if_neg c31] at H
                            have c31b0 : ((wrap64 (Int.tdiv t121 a0)) == a1) = false := beq_eq_false_iff_ne.mpr c31
                            have c31b1 : ((wrap64 (Int.tdiv t121 a0)) != a1) = true := bne_iff_ne.mpr c31
                            obtain rfl := Option.some.inj H
                            go_wp2
                            go_ret
                            exact ⟨by first | rfl | (simp only [Int.tdiv_eq_ediv_of_nonneg (show (0 : Int) ≤ 9223372036854775807 by decide), Int.tdiv_eq_ediv_of_nonneg (show (0 : Int) ≤ 9223372036854775808 by decide)] <;> rfl) | (simp [errW_none, errW_some] <;> rfl) | (simp [*, errW_none, errW_some] <;> rfl), by repeat (first | (with_reducible first | exact HB.out | apply below_alloc | apply pw_below_drewN | apply below_drew1 | refine below_set ?_ GE119.out) | exact HB.out)⟩
                      · replace c29 := Bool.eq_false_iff.mpr c29
                        subst c29
                        have H1 : (some false) = some r := by rw [if_neg (show ¬ (false = true) by decide)] at H; exact H
                        clear H
                        have H := H1
                        clear H1
                        obtain rfl := Option.some.inj H
                        go_wp2
                        go_ret
                        exact ⟨by first | rfl | (simp only [Int.tdiv_eq_ediv_of_nonneg (show (0 : Int) ≤ 9223372036854775807 by decide), Int.tdiv_eq_ediv_of_nonneg (show (0 : Int) ≤ 9223372036854775808 by decide)] <;> rfl) | (simp [errW_none, errW_some] <;> rfl) | (simp [*, errW_none, errW_some] <;> rfl), by repeat (first | (with_reducible first | exact HB.out | apply below_alloc | apply pw_below_drewN | apply below_drew1 | refine below_set ?_ GE119.out) | exact HB.out)⟩
                    · replace c28 := Bool.eq_false_iff.mpr c28
                      subst c28
                      have H1 : (if ((decide (a0 < 0)) == (decide (a1 < 0))) = true then (if t120 = true then ((earshotlaw01_size.f a1).bind fun t127 => ((earshotlaw01_size.f a0).bind fun t128 => (if t128 = 0 then (none) else (some (decide (t127 > (IntKind.u64.wrap ((9223372036854775807 : Int) / t128)))))))) else (some false)) else (if t120 = true then ((earshotlaw01_size.f a1).bind fun t129 => ((earshotlaw01_size.f a0).bind fun t130 => (if t130 = 0 then (none) else (some (decide (t129 > (IntKind.u64.wrap ((9223372036854775808 : Int) / t130)))))))) else (some false))) = some r := by rw [if_neg (show ¬ (false = true) by decide)] at H; exact H
                      clear H
                      have H := H1
                      clear H1
                      by_cases c32 : ((decide (a0 < 0)) == (decide (a1 < 0))) = true
                      · rw [if_pos c32] at H
                        have c32b0 : ((decide (a0 < 0)) == (decide (a1 < 0))) = true := c32
                        (try (have c32b1 : decide ((decide (a0 < 0)) = (decide (a1 < 0))) = true := by simpa using c32))
                        (try (have c32b2 : ((decide (a0 < 0)) == (decide (a1 < 0))) = true := by simpa using c32))
                        clear c32
                        by_cases c33 : t120 = true
                        · subst c33
                          have H1 : ((earshotlaw01_size.f a1).bind fun t127 => ((earshotlaw01_size.f a0).bind fun t128 => (if t128 = 0 then (none) else (some (decide (t127 > (IntKind.u64.wrap ((9223372036854775807 : Int) / t128)))))))) = some r := by rw [if_pos rfl] at H; exact H
                          clear H
                          have H := H1
                          clear H1
                          replace H := Option.bind_eq_some_iff.mp H
                          obtain ⟨t127, A340, H⟩ := H
                          replace H : ((earshotlaw01_size.f a0).bind fun t128 => (if t128 = 0 then (none) else (some (decide (t127 > (IntKind.u64.wrap ((9223372036854775807 : Int) / t128))))))) = some r := H
                          have A34 := Aside0.mk A340
                          clear A340
                          replace H := Option.bind_eq_some_iff.mp H
                          obtain ⟨t128, A350, H⟩ := H
                          replace H : (if t128 = 0 then (none) else (some (decide (t127 > (IntKind.u64.wrap ((9223372036854775807 : Int) / t128)))))) = some r := H
                          have A35 := Aside0.mk A350
                          clear A350
                          by_cases c36 : t128 = 0
                          · rw [if_pos c36] at H
                            exact absurd H (by simp)
                          · rw [if_neg c36] at H
                            have c36b0 : (t128 == 0) = false := beq_eq_false_iff_ne.mpr c36
                            have c36b1 : (t128 != 0) = true := bne_iff_ne.mpr c36
                            obtain rfl := Option.some.inj H
                            go_wp2_with (first | (go_at_call 25; (with_reducible refine (earshotlaw01_size.calls a1 t127 _ A34.out).mono ?_); rintro e w' ⟨rfl, ⟨nd, rfl⟩⟩) | (go_at_call 25; (with_reducible refine (earshotlaw01_size.calls a0 t128 _ A35.out).mono ?_); rintro e w' ⟨rfl, ⟨nd, rfl⟩⟩))
                            go_ret
                            exact ⟨by first | rfl | (simp only [Int.tdiv_eq_ediv_of_nonneg (show (0 : Int) ≤ 9223372036854775807 by decide), Int.tdiv_eq_ediv_of_nonneg (show (0 : Int) ≤ 9223372036854775808 by decide)] <;> rfl) | (simp [errW_none, errW_some] <;> rfl) | (simp [*, errW_none, errW_some] <;> rfl), by repeat (first | (with_reducible first | exact HB.out | apply below_alloc | apply pw_below_drewN | apply below_drew1 | refine below_set ?_ GE119.out) | exact HB.out)⟩
                        · replace c33 := Bool.eq_false_iff.mpr c33
                          subst c33
                          have H1 : (some false) = some r := by rw [if_neg (show ¬ (false = true) by decide)] at H; exact H
                          clear H
                          have H := H1
                          clear H1
                          obtain rfl := Option.some.inj H
                          go_wp2
                          go_ret
                          exact ⟨by first | rfl | (simp only [Int.tdiv_eq_ediv_of_nonneg (show (0 : Int) ≤ 9223372036854775807 by decide), Int.tdiv_eq_ediv_of_nonneg (show (0 : Int) ≤ 9223372036854775808 by decide)] <;> rfl) | (simp [errW_none, errW_some] <;> rfl) | (simp [*, errW_none, errW_some] <;> rfl), by repeat (first | (with_reducible first | exact HB.out | apply below_alloc | apply pw_below_drewN | apply below_drew1 | refine below_set ?_ GE119.out) | exact HB.out)⟩
                      · rw [if_neg c32] at H
                        have c32b0 : ((decide (a0 < 0)) == (decide (a1 < 0))) = false := by simpa using c32
                        (try (have c32b1 : decide ((decide (a0 < 0)) = (decide (a1 < 0))) = false := by simpa using c32))
                        (try (have c32b2 : ((decide (a0 < 0)) == (decide (a1 < 0))) = false := by simpa using c32))
                        (try (have c32b3 : ¬ ((decide (a0 < 0)) = (decide (a1 < 0))) := by simpa using c32))
                        clear c32
                        by_cases c37 : t120 = true
                        · subst c37
                          have H1 : ((earshotlaw01_size.f a1).bind fun t129 => ((earshotlaw01_size.f a0).bind fun t130 => (if t130 = 0 then (none) else (some (decide (t129 > (IntKind.u64.wrap ((9223372036854775808 : Int) / t130)))))))) = some r := by rw [if_pos rfl] at H; exact H
                          clear H
                          have H := H1
                          clear H1
                          replace H := Option.bind_eq_some_iff.mp H
                          obtain ⟨t129, A380, H⟩ := H
                          replace H : ((earshotlaw01_size.f a0).bind fun t130 => (if t130 = 0 then (none) else (some (decide (t129 > (IntKind.u64.wrap ((9223372036854775808 : Int) / t130))))))) = some r := H
                          have A38 := Aside0.mk A380
                          clear A380
                          replace H := Option.bind_eq_some_iff.mp H
                          obtain ⟨t130, A390, H⟩ := H
                          replace H : (if t130 = 0 then (none) else (some (decide (t129 > (IntKind.u64.wrap ((9223372036854775808 : Int) / t130)))))) = some r := H
                          have A39 := Aside0.mk A390
                          clear A390
                          by_cases c40 : t130 = 0
                          · rw [if_pos c40] at H
                            exact absurd H (by simp)
                          · rw [if_neg c40] at H
                            have c40b0 : (t130 == 0) = false := beq_eq_false_iff_ne.mpr c40
                            have c40b1 : (t130 != 0) = true := bne_iff_ne.mpr c40
                            obtain rfl := Option.some.inj H
                            go_wp2_with (first | (go_at_call 25; (with_reducible refine (earshotlaw01_size.calls a1 t129 _ A38.out).mono ?_); rintro e w' ⟨rfl, ⟨nd, rfl⟩⟩) | (go_at_call 25; (with_reducible refine (earshotlaw01_size.calls a0 t130 _ A39.out).mono ?_); rintro e w' ⟨rfl, ⟨nd, rfl⟩⟩))
                            go_ret
                            exact ⟨by first | rfl | (simp only [Int.tdiv_eq_ediv_of_nonneg (show (0 : Int) ≤ 9223372036854775807 by decide), Int.tdiv_eq_ediv_of_nonneg (show (0 : Int) ≤ 9223372036854775808 by decide)] <;> rfl) | (simp [errW_none, errW_some] <;> rfl) | (simp [*, errW_none, errW_some] <;> rfl), by repeat (first | (with_reducible first | exact HB.out | apply below_alloc | apply pw_below_drewN | apply below_drew1 | refine below_set ?_ GE119.out) | exact HB.out)⟩
                        · replace c37 := Bool.eq_false_iff.mpr c37
                          subst c37
                          have H1 : (some false) = some r := by rw [if_neg (show ¬ (false = true) by decide)] at H; exact H
                          clear H
                          have H := H1
                          clear H1
                          obtain rfl := Option.some.inj H
                          go_wp2
                          go_ret
                          exact ⟨by first | rfl | (simp only [Int.tdiv_eq_ediv_of_nonneg (show (0 : Int) ≤ 9223372036854775807 by decide), Int.tdiv_eq_ediv_of_nonneg (show (0 : Int) ≤ 9223372036854775808 by decide)] <;> rfl) | (simp [errW_none, errW_some] <;> rfl) | (simp [*, errW_none, errW_some] <;> rfl), by repeat (first | (with_reducible first | exact HB.out | apply below_alloc | apply pw_below_drewN | apply below_drew1 | refine below_set ?_ GE119.out) | exact HB.out)⟩

/-- THE ONE PURE STATEMENT of earshotlaw01_SatMul. -/
def earshotlaw01_SatMul.Pure : Prop := ∀ (a0 : Int) (a1 : Int) (a2_0 : Int) (a2_1 : Int), (Lit.int .i64 a0).wf = true → (Lit.int .i64 a1).wf = true → (Lit.int .i32 a2_0).wf = true → (Lit.int .i32 a2_1).wf = true → ∃ k, earshotlaw01_SatMul.f k a0 a1 a2_0 a2_1 = some true
theorem earshotlaw01_SatMul.walk (P : earshotlaw01_SatMul.Pure) (a0 : Int) (a1 : Int) (a2_0 : Int) (a2_1 : Int) (w : World) (w0 : (Lit.int .i64 a0).wf = true) (w1 : (Lit.int .i64 a1).wf = true) (w2_0 : (Lit.int .i32 a2_0).wf = true) (w2_1 : (Lit.int .i32 a2_1).wf = true) :
    Calls Try.prog 7 #[.int .i64 a0, .int .i64 a1, .agg #[.int .i32 a2_0, .int .i32 a2_1]] w fun e w' => e = .returned (.bool true) ∧ Below w.heap.size w w' := by
  obtain ⟨k, h⟩ := P a0 a1 a2_0 a2_1 w0 w1 w2_0 w2_1
  refine (earshotlaw01_SatMul.calls k a0 a1 a2_0 a2_1 true w h).mono ?_
  rintro e w' ⟨rfl, hd⟩
  exact ⟨rfl, hd⟩

end Go.Proofs.Ytpaednaeehlofaa.PSatMul
