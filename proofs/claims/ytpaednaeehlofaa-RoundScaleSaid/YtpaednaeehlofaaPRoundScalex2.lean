/- Written by xp.py, a program of this session: contracts of the Go functions that a law reaches: each call returns what the Lean function of its name tells. Conditions: those that each theorem names, none else. -/
import Derived.Test.YtpaednaeehlofaaPRoundScalex0
import Derived.Test.YtpaednaeehlofaaPRoundScalex1
namespace Go.Proofs.Ytpaednaeehlofaa.PRoundScale
open Go.RowKit Go.Proofs.YtpaednaeehlofaaW.PrintWords Go.Proofs.YtpaednaeehlofaaW.PrintLast Go.Proofs.YtpaednaeehlofaaW.PrintMore
attribute [local go_sem] max2_int min2_int max_two min_two max_three min_three max_four min_four   -- for this text's walks alone
set_option linter.unusedVariables false
set_option linter.unusedSimpArgs false

/-! ### earshotlaw02_RoundScale: function 10 -/
def earshotlaw02_RoundScale.f (k : Nat) (a0 : Int) (a1 : Int) (a2 : Int) : Option (Bool) := (earshotlaw02_awake.f k).bind fun t116 => (if a0 > 2147483647 then ((round_Scale.f k a0 (Go.bits .and .i64 a1 16383) (Int.tmod (wrap64 ((Int.tmod a2 30) + 30)) 30)).bind fun t117 => (if t116 = true then (if 0 ≤ (IntKind.u64.wrap (Int.tmod (wrap64 ((Int.tmod a2 30) + 30)) 15)) then ((round_Scale.f k a0 (shl .i64 1 (IntKind.u64.wrap (Int.tmod (wrap64 ((Int.tmod a2 30) + 30)) 15))) (Int.tmod (wrap64 ((Int.tmod a2 30) + 30)) 15)).bind fun t118 => (if t118 = 2147483647 then ((round_Scale.f k a0 0 (Int.tmod (wrap64 ((Int.tmod a2 30) + 30)) 30)).bind fun t119 => (if t119 = 0 then ((round_Scale.f k a0 (wrap64 (2 * (Go.bits .and .i64 a1 16383))) (wrap64 ((Int.tmod (wrap64 ((Int.tmod a2 30) + 30)) 30) + 1))).bind fun t120 => (if t120 = t117 then (if t117 ≥ (-2147483648) then (some (decide (t117 < 2147483648))) else (some false)) else (some false))) else (some false))) else (some false))) else (none)) else (some false))) else (if a0 < (-2147483648) then ((round_Scale.f k a0 (Go.bits .and .i64 a1 16383) (Int.tmod (wrap64 ((Int.tmod a2 30) + 30)) 30)).bind fun t121 => (if t116 = true then (if 0 ≤ (IntKind.u64.wrap (Int.tmod (wrap64 ((Int.tmod a2 30) + 30)) 15)) then ((round_Scale.f k a0 (shl .i64 1 (IntKind.u64.wrap (Int.tmod (wrap64 ((Int.tmod a2 30) + 30)) 15))) (Int.tmod (wrap64 ((Int.tmod a2 30) + 30)) 15)).bind fun t122 => (if t122 = (-2147483648) then ((round_Scale.f k a0 0 (Int.tmod (wrap64 ((Int.tmod a2 30) + 30)) 30)).bind fun t123 => (if t123 = 0 then ((round_Scale.f k a0 (wrap64 (2 * (Go.bits .and .i64 a1 16383))) (wrap64 ((Int.tmod (wrap64 ((Int.tmod a2 30) + 30)) 30) + 1))).bind fun t124 => (if t124 = t121 then (if t121 ≥ (-2147483648) then (some (decide (t121 < 2147483648))) else (some false)) else (some false))) else (some false))) else (some false))) else (none)) else (some false))) else ((round_Scale.f k a0 (Go.bits .and .i64 a1 16383) (Int.tmod (wrap64 ((Int.tmod a2 30) + 30)) 30)).bind fun t125 => (if t116 = true then (if 0 ≤ (IntKind.u64.wrap (Int.tmod (wrap64 ((Int.tmod a2 30) + 30)) 15)) then ((round_Scale.f k a0 (shl .i64 1 (IntKind.u64.wrap (Int.tmod (wrap64 ((Int.tmod a2 30) + 30)) 15))) (Int.tmod (wrap64 ((Int.tmod a2 30) + 30)) 15)).bind fun t126 => (if t126 = a0 then ((round_Scale.f k a0 0 (Int.tmod (wrap64 ((Int.tmod a2 30) + 30)) 30)).bind fun t127 => (if t127 = 0 then ((round_Scale.f k a0 (wrap64 (2 * (Go.bits .and .i64 a1 16383))) (wrap64 ((Int.tmod (wrap64 ((Int.tmod a2 30) + 30)) 30) + 1))).bind fun t128 => (if t128 = t125 then (if t125 ≥ (-2147483648) then (some (decide (t125 < 2147483648))) else (some false)) else (some false))) else (some false))) else (some false))) else (none)) else (some false)))))
theorem earshotlaw02_RoundScale.mono : ∀ a0 a1 a2 k, LeO (earshotlaw02_RoundScale.f k a0 a1 a2) (earshotlaw02_RoundScale.f (k + 1) a0 a1 a2) := by
  intro a0 a1 a2 k
  unfold earshotlaw02_RoundScale.f
  repeat' first
      | (with_reducible exact earshotlaw02_awake.mono _)
      | (with_reducible exact round_Scale.mono _ _ _ _)
      | (with_reducible exact LeO.refl _)
      | (with_reducible exact LeO.none _)
      | (with_reducible refine LeO.ite ?_ ?_)
      | (with_reducible refine LeO.bind ?_ (fun _ => ?_))
      | exact earshotlaw02_awake.mono _
      | exact round_Scale.mono _ _ _ _
      | exact LeO.none _
      | refine LeO.ite ?_ ?_
      | refine LeO.bind ?_ (fun _ => ?_)
set_option maxHeartbeats 8000000 in
set_option maxRecDepth 100000 in
theorem earshotlaw02_RoundScale.calls (k : Nat) (a0 : Int) (a1 : Int) (a2 : Int) (r : Bool) (w : World) (hr_ : r = true) (h : earshotlaw02_RoundScale.f k a0 a1 a2 = some r) :
    Calls Try.prog 10 #[.int .i64 a0, .int .i64 a1, .int .i64 a2] w fun e w' => e = .returned (.bool r) ∧ Below w.heap.size w w' := by
  have HB := Aside0.mk (Below.refl w.heap.size w)
  have HR_ := Aside0.mk hr_
  clear hr_
  have H : ((earshotlaw02_awake.f k).bind fun t116 => (if a0 > 2147483647 then ((round_Scale.f k a0 (Go.bits .and .i64 a1 16383) (Int.tmod (wrap64 ((Int.tmod a2 30) + 30)) 30)).bind fun t117 => (if t116 = true then (if 0 ≤ (IntKind.u64.wrap (Int.tmod (wrap64 ((Int.tmod a2 30) + 30)) 15)) then ((round_Scale.f k a0 (shl .i64 1 (IntKind.u64.wrap (Int.tmod (wrap64 ((Int.tmod a2 30) + 30)) 15))) (Int.tmod (wrap64 ((Int.tmod a2 30) + 30)) 15)).bind fun t118 => (if t118 = 2147483647 then ((round_Scale.f k a0 0 (Int.tmod (wrap64 ((Int.tmod a2 30) + 30)) 30)).bind fun t119 => (if t119 = 0 then ((round_Scale.f k a0 (wrap64 (2 * (Go.bits .and .i64 a1 16383))) (wrap64 ((Int.tmod (wrap64 ((Int.tmod a2 30) + 30)) 30) + 1))).bind fun t120 => (if t120 = t117 then (if t117 ≥ (-2147483648) then (some (decide (t117 < 2147483648))) else (some false)) else (some false))) else (some false))) else (some false))) else (none)) else (some false))) else (if a0 < (-2147483648) then ((round_Scale.f k a0 (Go.bits .and .i64 a1 16383) (Int.tmod (wrap64 ((Int.tmod a2 30) + 30)) 30)).bind fun t121 => (if t116 = true then (if 0 ≤ (IntKind.u64.wrap (Int.tmod (wrap64 ((Int.tmod a2 30) + 30)) 15)) then ((round_Scale.f k a0 (shl .i64 1 (IntKind.u64.wrap (Int.tmod (wrap64 ((Int.tmod a2 30) + 30)) 15))) (Int.tmod (wrap64 ((Int.tmod a2 30) + 30)) 15)).bind fun t122 => (if t122 = (-2147483648) then ((round_Scale.f k a0 0 (Int.tmod (wrap64 ((Int.tmod a2 30) + 30)) 30)).bind fun t123 => (if t123 = 0 then ((round_Scale.f k a0 (wrap64 (2 * (Go.bits .and .i64 a1 16383))) (wrap64 ((Int.tmod (wrap64 ((Int.tmod a2 30) + 30)) 30) + 1))).bind fun t124 => (if t124 = t121 then (if t121 ≥ (-2147483648) then (some (decide (t121 < 2147483648))) else (some false)) else (some false))) else (some false))) else (some false))) else (none)) else (some false))) else ((round_Scale.f k a0 (Go.bits .and .i64 a1 16383) (Int.tmod (wrap64 ((Int.tmod a2 30) + 30)) 30)).bind fun t125 => (if t116 = true then (if 0 ≤ (IntKind.u64.wrap (Int.tmod (wrap64 ((Int.tmod a2 30) + 30)) 15)) then ((round_Scale.f k a0 (shl .i64 1 (IntKind.u64.wrap (Int.tmod (wrap64 ((Int.tmod a2 30) + 30)) 15))) (Int.tmod (wrap64 ((Int.tmod a2 30) + 30)) 15)).bind fun t126 => (if t126 = a0 then ((round_Scale.f k a0 0 (Int.tmod (wrap64 ((Int.tmod a2 30) + 30)) 30)).bind fun t127 => (if t127 = 0 then ((round_Scale.f k a0 (wrap64 (2 * (Go.bits .and .i64 a1 16383))) (wrap64 ((Int.tmod (wrap64 ((Int.tmod a2 30) + 30)) 30) + 1))).bind fun t128 => (if t128 = t125 then (if t125 ≥ (-2147483648) then (some (decide (t125 < 2147483648))) else (some false)) else (some false))) else (some false))) else (some false))) else (none)) else (some false)))))) = some r := h
  clear h
  replace H := Option.bind_eq_some_iff.mp H
  obtain ⟨t116, A40, H⟩ := H
  replace H : (if a0 > 2147483647 then ((round_Scale.f k a0 (Go.bits .and .i64 a1 16383) (Int.tmod (wrap64 ((Int.tmod a2 30) + 30)) 30)).bind fun t117 => (if t116 = true then (if 0 ≤ (IntKind.u64.wrap (Int.tmod (wrap64 ((Int.tmod a2 30) + 30)) 15)) then ((round_Scale.f k a0 (shl .i64 1 (IntKind.u64.wrap (Int.tmod (wrap64 ((Int.tmod a2 30) + 30)) 15))) (Int.tmod (wrap64 ((Int.tmod a2 30) + 30)) 15)).bind fun t118 => (if t118 = 2147483647 then ((round_Scale.f k a0 0 (Int.tmod (wrap64 ((Int.tmod a2 30) + 30)) 30)).bind fun t119 => (if t119 = 0 then ((round_Scale.f k a0 (wrap64 (2 * (Go.bits .and .i64 a1 16383))) (wrap64 ((Int.tmod (wrap64 ((Int.tmod a2 30) + 30)) 30) + 1))).bind fun t120 => (if t120 = t117 then (if t117 ≥ (-2147483648) then (some (decide (t117 < 2147483648))) else (some false)) else (some false))) else (some false))) else (some false))) else (none)) else (some false))) else (if a0 < (-2147483648) then ((round_Scale.f k a0 (Go.bits .and .i64 a1 16383) (Int.tmod (wrap64 ((Int.tmod a2 30) + 30)) 30)).bind fun t121 => (if t116 = true then (if 0 ≤ (IntKind.u64.wrap (Int.tmod (wrap64 ((Int.tmod a2 30) + 30)) 15)) then ((round_Scale.f k a0 (shl .i64 1 (IntKind.u64.wrap (Int.tmod (wrap64 ((Int.tmod a2 30) + 30)) 15))) (Int.tmod (wrap64 ((Int.tmod a2 30) + 30)) 15)).bind fun t122 => (if t122 = (-2147483648) then ((round_Scale.f k a0 0 (Int.tmod (wrap64 ((Int.tmod a2 30) + 30)) 30)).bind fun t123 => (if t123 = 0 then ((round_Scale.f k a0 (wrap64 (2 * (Go.bits .and .i64 a1 16383))) (wrap64 ((Int.tmod (wrap64 ((Int.tmod a2 30) + 30)) 30) + 1))).bind fun t124 => (if t124 = t121 then (if t121 ≥ (-2147483648) then (some (decide (t121 < 2147483648))) else (some false)) else (some false))) else (some false))) else (some false))) else (none)) else (some false))) else ((round_Scale.f k a0 (Go.bits .and .i64 a1 16383) (Int.tmod (wrap64 ((Int.tmod a2 30) + 30)) 30)).bind fun t125 => (if t116 = true then (if 0 ≤ (IntKind.u64.wrap (Int.tmod (wrap64 ((Int.tmod a2 30) + 30)) 15)) then ((round_Scale.f k a0 (shl .i64 1 (IntKind.u64.wrap (Int.tmod (wrap64 ((Int.tmod a2 30) + 30)) 15))) (Int.tmod (wrap64 ((Int.tmod a2 30) + 30)) 15)).bind fun t126 => (if t126 = a0 then ((round_Scale.f k a0 0 (Int.tmod (wrap64 ((Int.tmod a2 30) + 30)) 30)).bind fun t127 => (if t127 = 0 then ((round_Scale.f k a0 (wrap64 (2 * (Go.bits .and .i64 a1 16383))) (wrap64 ((Int.tmod (wrap64 ((Int.tmod a2 30) + 30)) 30) + 1))).bind fun t128 => (if t128 = t125 then (if t125 ≥ (-2147483648) then (some (decide (t125 < 2147483648))) else (some false)) else (some false))) else (some false))) else (some false))) else (none)) else (some false))))) = some r := H
  have A4 := Aside0.mk A40
  clear A40
  by_cases c5 : a0 > 2147483647
  · rw [if_pos c5] at H
    have c5b0 : decide (2147483647 < a0) = true := decide_eq_true c5
    clear c5
    replace H := Option.bind_eq_some_iff.mp H
    obtain ⟨t117, A60, H⟩ := H
    replace H : (if t116 = true then (if 0 ≤ (IntKind.u64.wrap (Int.tmod (wrap64 ((Int.tmod a2 30) + 30)) 15)) then ((round_Scale.f k a0 (shl .i64 1 (IntKind.u64.wrap (Int.tmod (wrap64 ((Int.tmod a2 30) + 30)) 15))) (Int.tmod (wrap64 ((Int.tmod a2 30) + 30)) 15)).bind fun t118 => (if t118 = 2147483647 then ((round_Scale.f k a0 0 (Int.tmod (wrap64 ((Int.tmod a2 30) + 30)) 30)).bind fun t119 => (if t119 = 0 then ((round_Scale.f k a0 (wrap64 (2 * (Go.bits .and .i64 a1 16383))) (wrap64 ((Int.tmod (wrap64 ((Int.tmod a2 30) + 30)) 30) + 1))).bind fun t120 => (if t120 = t117 then (if t117 ≥ (-2147483648) then (some (decide (t117 < 2147483648))) else (some false)) else (some false))) else (some false))) else (some false))) else (none)) else (some false)) = some r := H
    have A6 := Aside0.mk A60
    clear A60
    by_cases c7 : t116 = true
    · subst c7
      have H1 : (if 0 ≤ (IntKind.u64.wrap (Int.tmod (wrap64 ((Int.tmod a2 30) + 30)) 15)) then ((round_Scale.f k a0 (shl .i64 1 (IntKind.u64.wrap (Int.tmod (wrap64 ((Int.tmod a2 30) + 30)) 15))) (Int.tmod (wrap64 ((Int.tmod a2 30) + 30)) 15)).bind fun t118 => (if t118 = 2147483647 then ((round_Scale.f k a0 0 (Int.tmod (wrap64 ((Int.tmod a2 30) + 30)) 30)).bind fun t119 => (if t119 = 0 then ((round_Scale.f k a0 (wrap64 (2 * (Go.bits .and .i64 a1 16383))) (wrap64 ((Int.tmod (wrap64 ((Int.tmod a2 30) + 30)) 30) + 1))).bind fun t120 => (if t120 = t117 then (if t117 ≥ (-2147483648) then (some (decide (t117 < 2147483648))) else (some false)) else (some false))) else (some false))) else (some false))) else (none)) = some r := by rw [if_pos rfl] at H; exact H
      clear H
      have H := H1
      clear H1
      obtain ⟨ji8, hji8⟩ : ∃ j_ : Int, (IntKind.u64.wrap (Int.tmod (wrap64 ((Int.tmod a2 30) + 30)) 15)) = j_ := ⟨_, rfl⟩
      replace H : (if 0 ≤ (ji8) then ((round_Scale.f k a0 (shl .i64 1 (ji8)) (Int.tmod (wrap64 ((Int.tmod a2 30) + 30)) 15)).bind fun t118 => (if t118 = 2147483647 then ((round_Scale.f k a0 0 (Int.tmod (wrap64 ((Int.tmod a2 30) + 30)) 30)).bind fun t119 => (if t119 = 0 then ((round_Scale.f k a0 (wrap64 (2 * (Go.bits .and .i64 a1 16383))) (wrap64 ((Int.tmod (wrap64 ((Int.tmod a2 30) + 30)) 30) + 1))).bind fun t120 => (if t120 = t117 then (if t117 ≥ (-2147483648) then (some (decide (t117 < 2147483648))) else (some false)) else (some false))) else (some false))) else (some false))) else (none)) = some r := by first | (rw [hji8] at H; exact H) | (simp only [hji8] at H ⊢; exact H)
      (try rw [hji8] at A4)
      (try rw [hji8] at A6)
      by_cases c9 : 0 ≤ (ji8)
      · rw [if_pos c9] at H
        have c9b0 := eq_true c9
        have c9b1 : decide (0 ≤ (ji8)) = true := decide_eq_true c9
        clear c9
        obtain ⟨ji10, hji10⟩ : ∃ j_ : Int, (shl .i64 1 (ji8)) = j_ := ⟨_, rfl⟩
        replace H : ((round_Scale.f k a0 (ji10) (Int.tmod (wrap64 ((Int.tmod a2 30) + 30)) 15)).bind fun t118 => (if t118 = 2147483647 then ((round_Scale.f k a0 0 (Int.tmod (wrap64 ((Int.tmod a2 30) + 30)) 30)).bind fun t119 => (if t119 = 0 then ((round_Scale.f k a0 (wrap64 (2 * (Go.bits .and .i64 a1 16383))) (wrap64 ((Int.tmod (wrap64 ((Int.tmod a2 30) + 30)) 30) + 1))).bind fun t120 => (if t120 = t117 then (if t117 ≥ (-2147483648) then (some (decide (t117 < 2147483648))) else (some false)) else (some false))) else (some false))) else (some false))) = some r := by first | (rw [hji10] at H; exact H) | (simp only [hji10] at H ⊢; exact H)
        (try rw [hji10] at A4)
        (try rw [hji10] at A6)
        have hji10_ : (IntKind.i64.wrap (1 * 2 ^ min (ji8).toNat 64)) = ji10 := hji10
        have hji10z : (ji8) ≤ 64 → (IntKind.i64.wrap (1 * 2 ^ (ji8).toNat)) = ji10 := shl_small hji10
        have hji10u : (IntKind.i64.wrap (2 ^ min (ji8).toNat 64)) = ji10 := by have h_ := hji10_; rw [Int.one_mul] at h_; exact h_
        have hji10v : (ji8) ≤ 64 → (IntKind.i64.wrap (2 ^ (ji8).toNat)) = ji10 := fun hle_ => by have h_ := hji10z hle_; rw [Int.one_mul] at h_; exact h_
        have hji10y : (wrap64 (1 * 2 ^ min (ji8).toNat 64)) = ji10 := (i64_w _).symm.trans hji10_
        have hji10x : (ji8) ≤ 64 → (wrap64 (1 * 2 ^ (ji8).toNat)) = ji10 := fun h_ => (i64_w _).symm.trans (hji10z h_)
        replace H := Option.bind_eq_some_iff.mp H
        obtain ⟨t118, A110, H⟩ := H
        replace H : (if t118 = 2147483647 then ((round_Scale.f k a0 0 (Int.tmod (wrap64 ((Int.tmod a2 30) + 30)) 30)).bind fun t119 => (if t119 = 0 then ((round_Scale.f k a0 (wrap64 (2 * (Go.bits .and .i64 a1 16383))) (wrap64 ((Int.tmod (wrap64 ((Int.tmod a2 30) + 30)) 30) + 1))).bind fun t120 => (if t120 = t117 then (if t117 ≥ (-2147483648) then (some (decide (t117 < 2147483648))) else (some false)) else (some false))) else (some false))) else (some false)) = some r := H
        have A11 := Aside0.mk A110
        clear A110
        by_cases c12 : t118 = 2147483647
        · rw [if_pos c12] at H
          have c12b0 : (t118 == 2147483647) = true := beq_iff_eq.mpr c12
          have c12b1 : (t118 != 2147483647) = false := bne_eq_false_iff_eq.mpr c12
          clear c12
          replace H := Option.bind_eq_some_iff.mp H
          obtain ⟨t119, A130, H⟩ := H
          replace H : (if t119 = 0 then ((round_Scale.f k a0 (wrap64 (2 * (Go.bits .and .i64 a1 16383))) (wrap64 ((Int.tmod (wrap64 ((Int.tmod a2 30) + 30)) 30) + 1))).bind fun t120 => (if t120 = t117 then (if t117 ≥ (-2147483648) then (some (decide (t117 < 2147483648))) else (some false)) else (some false))) else (some false)) = some r := H
          have A13 := Aside0.mk A130
          clear A130
          by_cases c14 : t119 = 0
          · rw [if_pos c14] at H
            have c14b0 : (t119 == 0) = true := beq_iff_eq.mpr c14
            have c14b1 : (t119 != 0) = false := bne_eq_false_iff_eq.mpr c14
            clear c14
            replace H := Option.bind_eq_some_iff.mp H
            obtain ⟨t120, A150, H⟩ := H
            replace H : (if t120 = t117 then (if t117 ≥ (-2147483648) then (some (decide (t117 < 2147483648))) else (some false)) else (some false)) = some r := H
            have A15 := Aside0.mk A150
            clear A150
            by_cases c16 : t120 = t117
            · rw [if_pos c16] at H
              have c16b0 : (t120 == t117) = true := beq_iff_eq.mpr c16
              have c16b1 : (t120 != t117) = false := bne_eq_false_iff_eq.mpr c16
              clear c16
              by_cases c17 : t117 ≥ (-2147483648)
              · rw [if_pos c17] at H
                have c17b0 : decide ((-2147483648) ≤ t117) = true := decide_eq_true c17
                clear c17
                obtain rfl := Option.some.inj H
                go_enter Try.func10, Try.ntmps10
                go_wp2_with (first | ((with_reducible refine gate_callee (f := 26) rfl ?_); refine goesL_ (some 12) rfl rfl Try.func26 (by kernel_rfl) rfl #[] rfl (by (try simp only [List.map_toArray, List.map_cons, List.map_nil]); first | done | rfl | (simp only [List.length_drop, List.length_take]; rfl)) ?_; (with_reducible refine (earshotlaw02_awake.calls k  true _ A4.out).mono ?_); rintro e w18 ⟨rfl, hb⟩; refine ⟨_, rfl, ?_⟩; have n0_ := Aside0.mk (below_step (by repeat (first | (with_reducible first | exact HB.out | apply below_alloc | apply pw_below_drewN | apply below_drew1) | exact HB.out)) hb); clear HB; have HB := n0_; clear n0_; (try clear hb); (try clear hb2); (try clear hk); (try clear hi); (try clear A4)) | ((with_reducible refine gate_callee (f := 30) rfl ?_); refine goesL_ (some 27) rfl rfl Try.func30 (by kernel_rfl) rfl #[.int .i64 a0, .int .i64 (Go.bits .and .i64 a1 16383), .int .i64 (Int.tmod (wrap64 ((Int.tmod a2 30) + 30)) 30)] rfl (by (try simp only [List.map_toArray, List.map_cons, List.map_nil]); first | done | rfl | (simp only [List.length_drop, List.length_take]; rfl)) ?_; (with_reducible refine (round_Scale.calls k a0 (Go.bits .and .i64 a1 16383) (Int.tmod (wrap64 ((Int.tmod a2 30) + 30)) 30) t117 _ A6.out).mono ?_); rintro e w19 ⟨rfl, hb⟩; refine ⟨_, rfl, ?_⟩; have n0_ := Aside0.mk (below_step (by repeat (first | (with_reducible first | exact HB.out | apply below_alloc | apply pw_below_drewN | apply below_drew1) | exact HB.out)) hb); clear HB; have HB := n0_; clear n0_; (try clear hb); (try clear hb2); (try clear hk); (try clear hi); (try clear A6)) | (go_at_call 30; (with_reducible refine (round_Scale.calls k a0 ji10 (Int.tmod (wrap64 ((Int.tmod a2 30) + 30)) 15) t118 _ A11.out).mono ?_); rintro e w20 ⟨rfl, hb⟩; have n0_ := Aside0.mk (below_step (by repeat (first | (with_reducible first | exact HB.out | apply below_alloc | apply pw_below_drewN | apply below_drew1) | exact HB.out)) hb); clear HB; have HB := n0_; clear n0_; (try clear hb); (try clear hb2); (try clear hk); (try clear hi); (try clear A11)) | (go_at_call 30; (with_reducible refine (round_Scale.calls k a0 0 (Int.tmod (wrap64 ((Int.tmod a2 30) + 30)) 30) t119 _ A13.out).mono ?_); rintro e w21 ⟨rfl, hb⟩; have n0_ := Aside0.mk (below_step (by repeat (first | (with_reducible first | exact HB.out | apply below_alloc | apply pw_below_drewN | apply below_drew1) | exact HB.out)) hb); clear HB; have HB := n0_; clear n0_; (try clear hb); (try clear hb2); (try clear hk); (try clear hi); (try clear A13)) | (go_at_call 30; (with_reducible refine (round_Scale.calls k a0 (wrap64 (2 * (Go.bits .and .i64 a1 16383))) (wrap64 ((Int.tmod (wrap64 ((Int.tmod a2 30) + 30)) 30) + 1)) t120 _ A15.out).mono ?_); rintro e w22 ⟨rfl, hb⟩; have n0_ := Aside0.mk (below_step (by repeat (first | (with_reducible first | exact HB.out | apply below_alloc | apply pw_below_drewN | apply below_drew1) | exact HB.out)) hb); clear HB; have HB := n0_; clear n0_; (try clear hb); (try clear hb2); (try clear hk); (try clear hi); (try clear A15)))
                go_ret
                exact ⟨by first | rfl | (simp only [Int.tdiv_eq_ediv_of_nonneg (show (0 : Int) ≤ 9223372036854775807 by decide), Int.tdiv_eq_ediv_of_nonneg (show (0 : Int) ≤ 9223372036854775808 by decide)] <;> rfl) | (simp [errW_none, errW_some] <;> rfl) | (simp only [← hji8, ← hji10]; first | rfl | (simp [errW_none, errW_some] <;> rfl)) | (simp [*, errW_none, errW_some] <;> rfl), by repeat (first | (with_reducible first | exact HB.out | apply below_alloc | apply pw_below_drewN | apply below_drew1) | exact HB.out)⟩
              · rw [if_neg c17] at H
                have c17b0 : decide ((-2147483648) ≤ t117) = false := decide_eq_false c17
                clear c17
                exact absurd ((Option.some.inj H).trans HR_.out) (by decide)
            · rw [if_neg c16] at H
              have c16b0 : (t120 == t117) = false := beq_eq_false_iff_ne.mpr c16
              have c16b1 : (t120 != t117) = true := bne_iff_ne.mpr c16
              exact absurd ((Option.some.inj H).trans HR_.out) (by decide)
          · rw [if_neg c14] at H
            have c14b0 : (t119 == 0) = false := beq_eq_false_iff_ne.mpr c14
            have c14b1 : (t119 != 0) = true := bne_iff_ne.mpr c14
            exact absurd ((Option.some.inj H).trans HR_.out) (by decide)
        · rw [if_neg c12] at H
          have c12b0 : (t118 == 2147483647) = false := beq_eq_false_iff_ne.mpr c12
          have c12b1 : (t118 != 2147483647) = true := bne_iff_ne.mpr c12
          exact absurd ((Option.some.inj H).trans HR_.out) (by decide)
      · rw [if_neg c9] at H
        exact absurd H (by simp)
    · replace c7 := Bool.eq_false_iff.mpr c7
      subst c7
      have H1 : (some false) = some r := by rw [if_neg (show ¬ (false = true) by decide)] at H; exact H
      clear H
      have H := H1
      clear H1
      exact absurd ((Option.some.inj H).trans HR_.out) (by decide)
  · rw [if_neg c5] at H
    have c5b0 : decide (2147483647 < a0) = false := decide_eq_false c5
    clear c5
    by_cases c23 : a0 < (-2147483648)
    · rw [if_pos c23] at H
      have c23b0 : decide (a0 < (-2147483648)) = true := decide_eq_true c23
      clear c23
      replace H := Option.bind_eq_some_iff.mp H
      obtain ⟨t121, A240, H⟩ := H
      replace H : (if t116 = true then (if 0 ≤ (IntKind.u64.wrap (Int.tmod (wrap64 ((Int.tmod a2 30) + 30)) 15)) then ((round_Scale.f k a0 (shl .i64 1 (IntKind.u64.wrap (Int.tmod (wrap64 ((Int.tmod a2 30) + 30)) 15))) (Int.tmod (wrap64 ((Int.tmod a2 30) + 30)) 15)).bind fun t122 => (if t122 = (-2147483648) then ((round_Scale.f k a0 0 (Int.tmod (wrap64 ((Int.tmod a2 30) + 30)) 30)).bind fun t123 => (if t123 = 0 then ((round_Scale.f k a0 (wrap64 (2 * (Go.bits .and .i64 a1 16383))) (wrap64 ((Int.tmod (wrap64 ((Int.tmod a2 30) + 30)) 30) + 1))).bind fun t124 => (if t124 = t121 then (if t121 ≥ (-2147483648) then (some (decide (t121 < 2147483648))) else (some false)) else (some false))) else (some false))) else (some false))) else (none)) else (some false)) = some r := H
      have A24 := Aside0.mk A240
      clear A240
      by_cases c25 : t116 = true
      · subst c25
        have H1 : (if 0 ≤ (IntKind.u64.wrap (Int.tmod (wrap64 ((Int.tmod a2 30) + 30)) 15)) then ((round_Scale.f k a0 (shl .i64 1 (IntKind.u64.wrap (Int.tmod (wrap64 ((Int.tmod a2 30) + 30)) 15))) (Int.tmod (wrap64 ((Int.tmod a2 30) + 30)) 15)).bind fun t122 => (if t122 = (-2147483648) then ((round_Scale.f k a0 0 (Int.tmod (wrap64 ((Int.tmod a2 30) + 30)) 30)).bind fun t123 => (if t123 = 0 then ((round_Scale.f k a0 (wrap64 (2 * (Go.bits .and .i64 a1 16383))) (wrap64 ((Int.tmod (wrap64 ((Int.tmod a2 30) + 30)) 30) + 1))).bind fun t124 => (if t124 = t121 then (if t121 ≥ (-2147483648) then (some (decide (t121 < 2147483648))) else (some false)) else (some false))) else (some false))) else (some false))) else (none)) = some r := by rw [if_pos rfl] at H; exact H
        clear H
        have H := H1
        clear H1
        obtain ⟨ji26, hji26⟩ : ∃ j_ : Int, (IntKind.u64.wrap (Int.tmod (wrap64 ((Int.tmod a2 30) + 30)) 15)) = j_ := ⟨_, rfl⟩
        replace H : (if 0 ≤ (ji26) then ((round_Scale.f k a0 (shl .i64 1 (ji26)) (Int.tmod (wrap64 ((Int.tmod a2 30) + 30)) 15)).bind fun t122 => (if t122 = (-2147483648) then ((round_Scale.f k a0 0 (Int.tmod (wrap64 ((Int.tmod a2 30) + 30)) 30)).bind fun t123 => (if t123 = 0 then ((round_Scale.f k a0 (wrap64 (2 * (Go.bits .and .i64 a1 16383))) (wrap64 ((Int.tmod (wrap64 ((Int.tmod a2 30) + 30)) 30) + 1))).bind fun t124 => (if t124 = t121 then (if t121 ≥ (-2147483648) then (some (decide (t121 < 2147483648))) else (some false)) else (some false))) else (some false))) else (some false))) else (none)) = some r := by first | (rw [hji26] at H; exact H) | (simp only [hji26] at H ⊢; exact H)
        (try rw [hji26] at A4)
        (try rw [hji26] at A24)
        by_cases c27 : 0 ≤ (ji26)
        · rw [if_pos c27] at H
          have c27b0 := eq_true c27
          have c27b1 : decide (0 ≤ (ji26)) = true := decide_eq_true c27
          clear c27
          obtain ⟨ji28, hji28⟩ : ∃ j_ : Int, (shl .i64 1 (ji26)) = j_ := ⟨_, rfl⟩
          replace H : ((round_Scale.f k a0 (ji28) (Int.tmod (wrap64 ((Int.tmod a2 30) + 30)) 15)).bind fun t122 => (if t122 = (-2147483648) then ((round_Scale.f k a0 0 (Int.tmod (wrap64 ((Int.tmod a2 30) + 30)) 30)).bind fun t123 => (if t123 = 0 then ((round_Scale.f k a0 (wrap64 (2 * (Go.bits .and .i64 a1 16383))) (wrap64 ((Int.tmod (wrap64 ((Int.tmod a2 30) + 30)) 30) + 1))).bind fun t124 => (if t124 = t121 then (if t121 ≥ (-2147483648) then (some (decide (t121 < 2147483648))) else (some false)) else (some false))) else (some false))) else (some false))) = some r := by first | (rw [hji28] at H; exact H) | (simp only [hji28] at H ⊢; exact H)
          (try rw [hji28] at A4)
          (try rw [hji28] at A24)
          have hji28_ : (IntKind.i64.wrap (1 * 2 ^ min (ji26).toNat 64)) = ji28 := hji28
          have hji28z : (ji26) ≤ 64 → (IntKind.i64.wrap (1 * 2 ^ (ji26).toNat)) = ji28 := shl_small hji28
          have hji28u : (IntKind.i64.wrap (2 ^ min (ji26).toNat 64)) = ji28 := by have h_ := hji28_; rw [Int.one_mul] at h_; exact h_
          have hji28v : (ji26) ≤ 64 → (IntKind.i64.wrap (2 ^ (ji26).toNat)) = ji28 := fun hle_ => by have h_ := hji28z hle_; rw [Int.one_mul] at h_; exact h_
          have hji28y : (wrap64 (1 * 2 ^ min (ji26).toNat 64)) = ji28 := (i64_w _).symm.trans hji28_
          have hji28x : (ji26) ≤ 64 → (wrap64 (1 * 2 ^ (ji26).toNat)) = ji28 := fun h_ => (i64_w _).symm.trans (hji28z h_)
          replace H := Option.bind_eq_some_iff.mp H
          obtain ⟨t122, A290, H⟩ := H
          replace H : (if t122 = (-2147483648) then ((round_Scale.f k a0 0 (Int.tmod (wrap64 ((Int.tmod a2 30) + 30)) 30)).bind fun t123 => (if t123 = 0 then ((round_Scale.f k a0 (wrap64 (2 * (Go.bits .and .i64 a1 16383))) (wrap64 ((Int.tmod (wrap64 ((Int.tmod a2 30) + 30)) 30) + 1))).bind fun t124 => (if t124 = t121 then (if t121 ≥ (-2147483648) then (some (decide (t121 < 2147483648))) else (some false)) else (some false))) else (some false))) else (some false)) = some r := H
          have A29 := Aside0.mk A290
          clear A290
          by_cases c30 : t122 = (-2147483648)
          · rw [if_pos c30] at H
            have c30b0 : (t122 == (-2147483648)) = true := beq_iff_eq.mpr c30
            have c30b1 : (t122 != (-2147483648)) = false := bne_eq_false_iff_eq.mpr c30
            clear c30
            replace H := Option.bind_eq_some_iff.mp H
            obtain ⟨t123, A310, H⟩ := H
            replace H : (if t123 = 0 then ((round_Scale.f k a0 (wrap64 (2 * (Go.bits .and .i64 a1 16383))) (wrap64 ((Int.tmod (wrap64 ((Int.tmod a2 30) + 30)) 30) + 1))).bind fun t124 => (if t124 = t121 then (if t121 ≥ (-2147483648) then (some (decide (t121 < 2147483648))) else (some false)) else (some false))) else (some false)) = some r := H
            have A31 := Aside0.mk A310
            clear A310
            by_cases c32 : t123 = 0
            · rw [if_pos c32] at H
              have c32b0 : (t123 == 0) = true := beq_iff_eq.mpr c32
              have c32b1 : (t123 != 0) = false := bne_eq_false_iff_eq.mpr c32
              clear c32
              replace H := Option.bind_eq_some_iff.mp H
              obtain ⟨t124, A330, H⟩ := H
              replace H : (if t124 = t121 then (if t121 ≥ (-2147483648) then (some (decide (t121 < 2147483648))) else (some false)) else (some false)) = some r := H
              have A33 := Aside0.mk A330
              clear A330
              by_cases c34 : t124 = t121
              · rw [if_pos c34] at H
                have c34b0 : (t124 == t121) = true := beq_iff_eq.mpr c34
                have c34b1 : (t124 != t121) = false := bne_eq_false_iff_eq.mpr c34
                clear c34
                by_cases c35 : t121 ≥ (-2147483648)
                · rw [if_pos c35] at H
                  have c35b0 : decide ((-2147483648) ≤ t121) = true := decide_eq_true c35
                  clear c35
                  obtain rfl := Option.some.inj H
                  go_enter Try.func10, Try.ntmps10
                  go_wp2_with (first | ((with_reducible refine gate_callee (f := 26) rfl ?_); refine goesL_ (some 12) rfl rfl Try.func26 (by kernel_rfl) rfl #[] rfl (by (try simp only [List.map_toArray, List.map_cons, List.map_nil]); first | done | rfl | (simp only [List.length_drop, List.length_take]; rfl)) ?_; (with_reducible refine (earshotlaw02_awake.calls k  true _ A4.out).mono ?_); rintro e w36 ⟨rfl, hb⟩; refine ⟨_, rfl, ?_⟩; have n0_ := Aside0.mk (below_step (by repeat (first | (with_reducible first | exact HB.out | apply below_alloc | apply pw_below_drewN | apply below_drew1) | exact HB.out)) hb); clear HB; have HB := n0_; clear n0_; (try clear hb); (try clear hb2); (try clear hk); (try clear hi); (try clear A4)) | ((with_reducible refine gate_callee (f := 30) rfl ?_); refine goesL_ (some 27) rfl rfl Try.func30 (by kernel_rfl) rfl #[.int .i64 a0, .int .i64 (Go.bits .and .i64 a1 16383), .int .i64 (Int.tmod (wrap64 ((Int.tmod a2 30) + 30)) 30)] rfl (by (try simp only [List.map_toArray, List.map_cons, List.map_nil]); first | done | rfl | (simp only [List.length_drop, List.length_take]; rfl)) ?_; (with_reducible refine (round_Scale.calls k a0 (Go.bits .and .i64 a1 16383) (Int.tmod (wrap64 ((Int.tmod a2 30) + 30)) 30) t121 _ A24.out).mono ?_); rintro e w37 ⟨rfl, hb⟩; refine ⟨_, rfl, ?_⟩; have n0_ := Aside0.mk (below_step (by repeat (first | (with_reducible first | exact HB.out | apply below_alloc | apply pw_below_drewN | apply below_drew1) | exact HB.out)) hb); clear HB; have HB := n0_; clear n0_; (try clear hb); (try clear hb2); (try clear hk); (try clear hi); (try clear A24)) | (go_at_call 30; (with_reducible refine (round_Scale.calls k a0 ji28 (Int.tmod (wrap64 ((Int.tmod a2 30) + 30)) 15) t122 _ A29.out).mono ?_); rintro e w38 ⟨rfl, hb⟩; have n0_ := Aside0.mk (below_step (by repeat (first | (with_reducible first | exact HB.out | apply below_alloc | apply pw_below_drewN | apply below_drew1) | exact HB.out)) hb); clear HB; have HB := n0_; clear n0_; (try clear hb); (try clear hb2); (try clear hk); (try clear hi); (try clear A29)) | (go_at_call 30; (with_reducible refine (round_Scale.calls k a0 0 (Int.tmod (wrap64 ((Int.tmod a2 30) + 30)) 30) t123 _ A31.out).mono ?_); rintro e w39 ⟨rfl, hb⟩; have n0_ := Aside0.mk (below_step (by repeat (first | (with_reducible first | exact HB.out | apply below_alloc | apply pw_below_drewN | apply below_drew1) | exact HB.out)) hb); clear HB; have HB := n0_; clear n0_; (try clear hb); (try clear hb2); (try clear hk); (try clear hi); (try clear A31)) | (go_at_call 30; (with_reducible refine (round_Scale.calls k a0 (wrap64 (2 * (Go.bits .and .i64 a1 16383))) (wrap64 ((Int.tmod (wrap64 ((Int.tmod a2 30) + 30)) 30) + 1)) t124 _ A33.out).mono ?_); rintro e w40 ⟨rfl, hb⟩; have n0_ := Aside0.mk (below_step (by repeat (first | (with_reducible first | exact HB.out | apply below_alloc | apply pw_below_drewN | apply below_drew1) | exact HB.out)) hb); clear HB; have HB := n0_; clear n0_; (try clear hb); (try clear hb2); (try clear hk); (try clear hi); (try clear A33)))
                  go_ret
                  exact ⟨by first | rfl | (simp only [Int.tdiv_eq_ediv_of_nonneg (show (0 : Int) ≤ 9223372036854775807 by decide), Int.tdiv_eq_ediv_of_nonneg (show (0 : Int) ≤ 9223372036854775808 by decide)] <;> rfl) | (simp [errW_none, errW_some] <;> rfl) | (simp only [← hji26, ← hji28]; first | rfl | (simp [errW_none, errW_some] <;> rfl)) | (simp [*, errW_none, errW_some] <;> rfl), by repeat (first | (with_reducible first | exact HB.out | apply below_alloc | apply pw_below_drewN | apply below_drew1) | exact HB.out)⟩
                · rw [if_neg c35] at H
                  have c35b0 : decide ((-2147483648) ≤ t121) = false := decide_eq_false c35
                  clear c35
                  exact absurd ((Option.some.inj H).trans HR_.out) (by decide)
              · rw [if_neg c34] at H
                have c34b0 : (t124 == t121) = false := beq_eq_false_iff_ne.mpr c34
                have c34b1 : (t124 != t121) = true := bne_iff_ne.mpr c34
                exact absurd ((Option.some.inj H).trans HR_.out) (by decide)
            · rw [if_neg c32] at H
              have c32b0 : (t123 == 0) = false := beq_eq_false_iff_ne.mpr c32
              have c32b1 : (t123 != 0) = true := bne_iff_ne.mpr c32
              exact absurd ((Option.some.inj H).trans HR_.out) (by decide)
          · rw [if_neg c30] at H
            have c30b0 : (t122 == (-2147483648)) = false := beq_eq_false_iff_ne.mpr c30
            have c30b1 : (t122 != (-2147483648)) = true := bne_iff_ne.mpr c30
            exact absurd ((Option.some.inj H).trans HR_.out) (by decide)
        · rw [if_neg c27] at H
          exact absurd H (by simp)
      · replace c25 := Bool.eq_false_iff.mpr c25
        subst c25
        have H1 : (some false) = some r := by rw [if_neg (show ¬ (false = true) by decide)] at H; exact H
        clear H
        have H := H1
        clear H1
        exact absurd ((Option.some.inj H).trans HR_.out) (by decide)
    · rw [if_neg c23] at H
      have c23b0 : decide (a0 < (-2147483648)) = false := decide_eq_false c23
      clear c23
      replace H := Option.bind_eq_some_iff.mp H
      obtain ⟨t125, A410, H⟩ := H
      replace H : (if t116 = true then (if 0 ≤ (IntKind.u64.wrap (Int.tmod (wrap64 ((Int.tmod a2 30) + 30)) 15)) then ((round_Scale.f k a0 (shl .i64 1 (IntKind.u64.wrap (Int.tmod (wrap64 ((Int.tmod a2 30) + 30)) 15))) (Int.tmod (wrap64 ((Int.tmod a2 30) + 30)) 15)).bind fun t126 => (if t126 = a0 then ((round_Scale.f k a0 0 (Int.tmod (wrap64 ((Int.tmod a2 30) + 30)) 30)).bind fun t127 => (if t127 = 0 then ((round_Scale.f k a0 (wrap64 (2 * (Go.bits .and .i64 a1 16383))) (wrap64 ((Int.tmod (wrap64 ((Int.tmod a2 30) + 30)) 30) + 1))).bind fun t128 => (if t128 = t125 then (if t125 ≥ (-2147483648) then (some (decide (t125 < 2147483648))) else (some false)) else (some false))) else (some false))) else (some false))) else (none)) else (some false)) = some r := H
      have A41 := Aside0.mk A410
      clear A410
      by_cases c42 : t116 = true
      · subst c42
        have H1 : (if 0 ≤ (IntKind.u64.wrap (Int.tmod (wrap64 ((Int.tmod a2 30) + 30)) 15)) then ((round_Scale.f k a0 (shl .i64 1 (IntKind.u64.wrap (Int.tmod (wrap64 ((Int.tmod a2 30) + 30)) 15))) (Int.tmod (wrap64 ((Int.tmod a2 30) + 30)) 15)).bind fun t126 => (if t126 = a0 then ((round_Scale.f k a0 0 (Int.tmod (wrap64 ((Int.tmod a2 30) + 30)) 30)).bind fun t127 => (if t127 = 0 then ((round_Scale.f k a0 (wrap64 (2 * (Go.bits .and .i64 a1 16383))) (wrap64 ((Int.tmod (wrap64 ((Int.tmod a2 30) + 30)) 30) + 1))).bind fun t128 => (if t128 = t125 then (if t125 ≥ (-2147483648) then (some (decide (t125 < 2147483648))) else (some false)) else (some false))) else (some false))) else (some false))) else (none)) = some r := by rw [if_pos rfl] at H; exact H
        clear H
        have H := H1
        clear H1
        obtain ⟨ji43, hji43⟩ : ∃ j_ : Int, (IntKind.u64.wrap (Int.tmod (wrap64 ((Int.tmod a2 30) + 30)) 15)) = j_ := ⟨_, rfl⟩
        replace H : (if 0 ≤ (ji43) then ((round_Scale.f k a0 (shl .i64 1 (ji43)) (Int.tmod (wrap64 ((Int.tmod a2 30) + 30)) 15)).bind fun t126 => (if t126 = a0 then ((round_Scale.f k a0 0 (Int.tmod (wrap64 ((Int.tmod a2 30) + 30)) 30)).bind fun t127 => (if t127 = 0 then ((round_Scale.f k a0 (wrap64 (2 * (Go.bits .and .i64 a1 16383))) (wrap64 ((Int.tmod (wrap64 ((Int.tmod a2 30) + 30)) 30) + 1))).bind fun t128 => (if t128 = t125 then (if t125 ≥ (-2147483648) then (some (decide (t125 < 2147483648))) else (some false)) else (some false))) else (some false))) else (some false))) else (none)) = some r := by first | (rw [hji43] at H; exact H) | (simp only [hji43] at H ⊢; exact H)
        (try rw [hji43] at A4)
        (try rw [hji43] at A41)
        by_cases c44 : 0 ≤ (ji43)
        · rw [if_pos c44] at H
          have c44b0 := eq_true c44
          have c44b1 : decide (0 ≤ (ji43)) = true := decide_eq_true c44
          clear c44
          obtain ⟨ji45, hji45⟩ : ∃ j_ : Int, (shl .i64 1 (ji43)) = j_ := ⟨_, rfl⟩
          replace H : ((round_Scale.f k a0 (ji45) (Int.tmod (wrap64 ((Int.tmod a2 30) + 30)) 15)).bind fun t126 => (if t126 = a0 then ((round_Scale.f k a0 0 (Int.tmod (wrap64 ((Int.tmod a2 30) + 30)) 30)).bind fun t127 => (if t127 = 0 then ((round_Scale.f k a0 (wrap64 (2 * (Go.bits .and .i64 a1 16383))) (wrap64 ((Int.tmod (wrap64 ((Int.tmod a2 30) + 30)) 30) + 1))).bind fun t128 => (if t128 = t125 then (if t125 ≥ (-2147483648) then (some (decide (t125 < 2147483648))) else (some false)) else (some false))) else (some false))) else (some false))) = some r := by first | (rw [hji45] at H; exact H) | (simp only [hji45] at H ⊢; exact H)
          (try rw [hji45] at A4)
          (try rw [hji45] at A41)
          have hji45_ : (IntKind.i64.wrap (1 * 2 ^ min (ji43).toNat 64)) = ji45 := hji45
          have hji45z : (ji43) ≤ 64 → (IntKind.i64.wrap (1 * 2 ^ (ji43).toNat)) = ji45 := shl_small hji45
          have hji45u : (IntKind.i64.wrap (2 ^ min (ji43).toNat 64)) = ji45 := by have h_ := hji45_; rw [Int.one_mul] at h_; exact h_
          have hji45v : (ji43) ≤ 64 → (IntKind.i64.wrap (2 ^ (ji43).toNat)) = ji45 := fun hle_ => by have h_ := hji45z hle_; rw [Int.one_mul] at h_; exact h_
          have hji45y : (wrap64 (1 * 2 ^ min (ji43).toNat 64)) = ji45 := (i64_w _).symm.trans hji45_
          have hji45x : (ji43) ≤ 64 → (wrap64 (1 * 2 ^ (ji43).toNat)) = ji45 := fun h_ => (i64_w _).symm.trans (hji45z h_)
          replace H := Option.bind_eq_some_iff.mp H
          obtain ⟨t126, A460, H⟩ := H
          replace H : (if t126 = a0 then ((round_Scale.f k a0 0 (Int.tmod (wrap64 ((Int.tmod a2 30) + 30)) 30)).bind fun t127 => (if t127 = 0 then ((round_Scale.f k a0 (wrap64 (2 * (Go.bits .and .i64 a1 16383))) (wrap64 ((Int.tmod (wrap64 ((Int.tmod a2 30) + 30)) 30) + 1))).bind fun t128 => (if t128 = t125 then (if t125 ≥ (-2147483648) then (some (decide (t125 < 2147483648))) else (some false)) else (some false))) else (some false))) else (some false)) = some r := H
          have A46 := Aside0.mk A460
          clear A460
          by_cases c47 : t126 = a0
          · rw [if_pos c47] at H
            have c47b0 : (t126 == a0) = true := beq_iff_eq.mpr c47
            have c47b1 : (t126 != a0) = false := bne_eq_false_iff_eq.mpr c47
            clear c47
            replace H := Option.bind_eq_some_iff.mp H
            obtain ⟨t127, A480, H⟩ := H
            replace H : (if t127 = 0 then ((round_Scale.f k a0 (wrap64 (2 * (Go.bits .and .i64 a1 16383))) (wrap64 ((Int.tmod (wrap64 ((Int.tmod a2 30) + 30)) 30) + 1))).bind fun t128 => (if t128 = t125 then (if t125 ≥ (-2147483648) then (some (decide (t125 < 2147483648))) else (some false)) else (some false))) else (some false)) = some r := H
            have A48 := Aside0.mk A480
            clear A480
            by_cases c49 : t127 = 0
            · rw [if_pos c49] at H
              have c49b0 : (t127 == 0) = true := beq_iff_eq.mpr c49
              have c49b1 : (t127 != 0) = false := bne_eq_false_iff_eq.mpr c49
              clear c49
              replace H := Option.bind_eq_some_iff.mp H
              obtain ⟨t128, A500, H⟩ := H
              replace H : (if t128 = t125 then (if t125 ≥ (-2147483648) then (some (decide (t125 < 2147483648))) else (some false)) else (some false)) = some r := H
              have A50 := Aside0.mk A500
              clear A500
              by_cases c51 : t128 = t125
              · rw [if_pos c51] at H
                have c51b0 : (t128 == t125) = true := beq_iff_eq.mpr c51
                have c51b1 : (t128 != t125) = false := bne_eq_false_iff_eq.mpr c51
                clear c51
                by_cases c52 : t125 ≥ (-2147483648)
                · rw [if_pos c52] at H
                  have c52b0 : decide ((-2147483648) ≤ t125) = true := decide_eq_true c52
                  clear c52
                  obtain rfl := Option.some.inj H
                  go_enter Try.func10, Try.ntmps10
                  go_wp2_with (first | ((with_reducible refine gate_callee (f := 26) rfl ?_); refine goesL_ (some 12) rfl rfl Try.func26 (by kernel_rfl) rfl #[] rfl (by (try simp only [List.map_toArray, List.map_cons, List.map_nil]); first | done | rfl | (simp only [List.length_drop, List.length_take]; rfl)) ?_; (with_reducible refine (earshotlaw02_awake.calls k  true _ A4.out).mono ?_); rintro e w53 ⟨rfl, hb⟩; refine ⟨_, rfl, ?_⟩; have n0_ := Aside0.mk (below_step (by repeat (first | (with_reducible first | exact HB.out | apply below_alloc | apply pw_below_drewN | apply below_drew1) | exact HB.out)) hb); clear HB; have HB := n0_; clear n0_; (try clear hb); (try clear hb2); (try clear hk); (try clear hi); (try clear A4)) | ((with_reducible refine gate_callee (f := 30) rfl ?_); refine goesL_ (some 27) rfl rfl Try.func30 (by kernel_rfl) rfl #[.int .i64 a0, .int .i64 (Go.bits .and .i64 a1 16383), .int .i64 (Int.tmod (wrap64 ((Int.tmod a2 30) + 30)) 30)] rfl (by (try simp only [List.map_toArray, List.map_cons, List.map_nil]); first | done | rfl | (simp only [List.length_drop, List.length_take]; rfl)) ?_; (with_reducible refine (round_Scale.calls k a0 (Go.bits .and .i64 a1 16383) (Int.tmod (wrap64 ((Int.tmod a2 30) + 30)) 30) t125 _ A41.out).mono ?_); rintro e w54 ⟨rfl, hb⟩; refine ⟨_, rfl, ?_⟩; have n0_ := Aside0.mk (below_step (by repeat (first | (with_reducible first | exact HB.out | apply below_alloc | apply pw_below_drewN | apply below_drew1) | exact HB.out)) hb); clear HB; have HB := n0_; clear n0_; (try clear hb); (try clear hb2); (try clear hk); (try clear hi); (try clear A41)) | (go_at_call 30; (with_reducible refine (round_Scale.calls k a0 ji45 (Int.tmod (wrap64 ((Int.tmod a2 30) + 30)) 15) t126 _ A46.out).mono ?_); rintro e w55 ⟨rfl, hb⟩; have n0_ := Aside0.mk (below_step (by repeat (first | (with_reducible first | exact HB.out | apply below_alloc | apply pw_below_drewN | apply below_drew1) | exact HB.out)) hb); clear HB; have HB := n0_; clear n0_; (try clear hb); (try clear hb2); (try clear hk); (try clear hi); (try clear A46)) | (go_at_call 30; (with_reducible refine (round_Scale.calls k a0 0 (Int.tmod (wrap64 ((Int.tmod a2 30) + 30)) 30) t127 _ A48.out).mono ?_); rintro e w56 ⟨rfl, hb⟩; have n0_ := Aside0.mk (below_step (by repeat (first | (with_reducible first | exact HB.out | apply below_alloc | apply pw_below_drewN | apply below_drew1) | exact HB.out)) hb); clear HB; have HB := n0_; clear n0_; (try clear hb); (try clear hb2); (try clear hk); (try clear hi); (try clear A48)) | (go_at_call 30; (with_reducible refine (round_Scale.calls k a0 (wrap64 (2 * (Go.bits .and .i64 a1 16383))) (wrap64 ((Int.tmod (wrap64 ((Int.tmod a2 30) + 30)) 30) + 1)) t128 _ A50.out).mono ?_); rintro e w57 ⟨rfl, hb⟩; have n0_ := Aside0.mk (below_step (by repeat (first | (with_reducible first | exact HB.out | apply below_alloc | apply pw_below_drewN | apply below_drew1) | exact HB.out)) hb); clear HB; have HB := n0_; clear n0_; (try clear hb); (try clear hb2); (try clear hk); (try clear hi); (try clear A50)))
                  go_ret
                  exact ⟨by first | rfl | (simp only [Int.tdiv_eq_ediv_of_nonneg (show (0 : Int) ≤ 9223372036854775807 by decide), Int.tdiv_eq_ediv_of_nonneg (show (0 : Int) ≤ 9223372036854775808 by decide)] <;> rfl) | (simp [errW_none, errW_some] <;> rfl) | (simp only [← hji43, ← hji45]; first | rfl | (simp [errW_none, errW_some] <;> rfl)) | (simp [*, errW_none, errW_some] <;> rfl), by repeat (first | (with_reducible first | exact HB.out | apply below_alloc | apply pw_below_drewN | apply below_drew1) | exact HB.out)⟩
                · rw [if_neg c52] at H
                  have c52b0 : decide ((-2147483648) ≤ t125) = false := decide_eq_false c52
                  clear c52
                  exact absurd ((Option.some.inj H).trans HR_.out) (by decide)
              · rw [if_neg c51] at H
                have c51b0 : (t128 == t125) = false := beq_eq_false_iff_ne.mpr c51
                have c51b1 : (t128 != t125) = true := bne_iff_ne.mpr c51
                exact absurd ((Option.some.inj H).trans HR_.out) (by decide)
            · rw [if_neg c49] at H
              have c49b0 : (t127 == 0) = false := beq_eq_false_iff_ne.mpr c49
              have c49b1 : (t127 != 0) = true := bne_iff_ne.mpr c49
              exact absurd ((Option.some.inj H).trans HR_.out) (by decide)
          · rw [if_neg c47] at H
            have c47b0 : (t126 == a0) = false := beq_eq_false_iff_ne.mpr c47
            have c47b1 : (t126 != a0) = true := bne_iff_ne.mpr c47
            exact absurd ((Option.some.inj H).trans HR_.out) (by decide)
        · rw [if_neg c44] at H
          exact absurd H (by simp)
      · replace c42 := Bool.eq_false_iff.mpr c42
        subst c42
        have H1 : (some false) = some r := by rw [if_neg (show ¬ (false = true) by decide)] at H; exact H
        clear H
        have H := H1
        clear H1
        exact absurd ((Option.some.inj H).trans HR_.out) (by decide)

/-- THE ONE PURE STATEMENT of earshotlaw02_RoundScale. -/
def earshotlaw02_RoundScale.Pure : Prop := ∀ (a0 : Int) (a1 : Int) (a2 : Int), (Lit.int .i64 a0).wf = true → (Lit.int .i64 a1).wf = true → (Lit.int .i64 a2).wf = true → ∃ k, earshotlaw02_RoundScale.f k a0 a1 a2 = some true
theorem earshotlaw02_RoundScale.walk (P : earshotlaw02_RoundScale.Pure) (a0 : Int) (a1 : Int) (a2 : Int) (w : World) (w0 : (Lit.int .i64 a0).wf = true) (w1 : (Lit.int .i64 a1).wf = true) (w2 : (Lit.int .i64 a2).wf = true) :
    Calls Try.prog 10 #[.int .i64 a0, .int .i64 a1, .int .i64 a2] w fun e w' => e = .returned (.bool true) ∧ Below w.heap.size w w' := by
  obtain ⟨k, h⟩ := P a0 a1 a2 w0 w1 w2
  refine (earshotlaw02_RoundScale.calls k a0 a1 a2 true w rfl h).mono ?_
  rintro e w' ⟨rfl, hd⟩
  exact ⟨rfl, hd⟩

end Go.Proofs.Ytpaednaeehlofaa.PRoundScale
