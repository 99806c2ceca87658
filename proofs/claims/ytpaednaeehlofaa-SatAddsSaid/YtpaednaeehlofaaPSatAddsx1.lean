/- Written by xp.py, a program of this session: contracts of the Go functions that a law reaches: each call returns what the Lean function of its name tells. Conditions: those that each theorem names, none else. -/
import Derived.Test.YtpaednaeehlofaaPSatAddsx0
namespace Go.Proofs.Ytpaednaeehlofaa.PSatAdds
open Go.RowKit Go.Proofs.YtpaednaeehlofaaW.PrintWords Go.Proofs.YtpaednaeehlofaaW.PrintLast Go.Proofs.YtpaednaeehlofaaW.PrintMore
attribute [local go_sem] max2_int min2_int max_two min_two max_three min_three max_four min_four   -- for this text's walks alone
set_option linter.unusedVariables false
set_option linter.unusedSimpArgs false

/-! ### sat_ends: function 36 -/
def sat_ends.f (a0 : Int) : Option (Int × Int × Bool) := if a0 < 1 then (some (0, 0, false)) else (if a0 > 64 then (some (0, 0, false)) else (if 0 ≤ (wrap64 (64 - a0)) then (some (shr .i64 (-9223372036854775808) (wrap64 (64 - a0)), Go.bits .xor .i64 (-1) (shr .i64 (-9223372036854775808) (wrap64 (64 - a0))), true)) else (none)))
set_option maxHeartbeats 8000000 in
set_option maxRecDepth 100000 in
theorem sat_ends.calls (a0 : Int) (r1 : Int) (r2 : Int) (r3 : Bool) (w : World) (h : sat_ends.f a0 = some (r1, r2, r3)) :
    Calls Try.prog 36 #[.int .i64 a0] w fun e w' => e = .returned (.tuple #[.int .i64 r1, .int .i64 r2, .bool r3]) ∧ Drawn0 w w' := by
  have H : (if a0 < 1 then (some (0, 0, false)) else (if a0 > 64 then (some (0, 0, false)) else (if 0 ≤ (wrap64 (64 - a0)) then (some (shr .i64 (-9223372036854775808) (wrap64 (64 - a0)), Go.bits .xor .i64 (-1) (shr .i64 (-9223372036854775808) (wrap64 (64 - a0))), true)) else (none)))) = some (r1, r2, r3) := h
  clear h
  by_cases c2 : a0 < 1
  · rw [if_pos c2] at H
    have c2b0 : decide (a0 < 1) = true := decide_eq_true c2
    clear c2
    simp only [Option.some.injEq, Prod.mk.injEq] at H
    obtain ⟨rfl, rfl, rfl⟩ := H
    go_enter Try.func36, Try.ntmps36
    go_wp2
    go_ret3
    exact ⟨by first | rfl | (simp; done) | (simp [*]; done), by repeat (first | exact Drawn0.refl _ | apply Drawn0.step)⟩
  · rw [if_neg c2] at H
    have c2b0 : decide (a0 < 1) = false := decide_eq_false c2
    clear c2
    by_cases c3 : a0 > 64
    · rw [if_pos c3] at H
      have c3b0 : decide (64 < a0) = true := decide_eq_true c3
      clear c3
      simp only [Option.some.injEq, Prod.mk.injEq] at H
      obtain ⟨rfl, rfl, rfl⟩ := H
      go_enter Try.func36, Try.ntmps36
      go_wp2
      go_ret3
      exact ⟨by first | rfl | (simp; done) | (simp [*]; done), by repeat (first | exact Drawn0.refl _ | apply Drawn0.step)⟩
    · rw [if_neg c3] at H
      have c3b0 : decide (64 < a0) = false := decide_eq_false c3
      clear c3
      obtain ⟨ji4, hji4⟩ : ∃ j_ : Int, (wrap64 (64 - a0)) = j_ := ⟨_, rfl⟩
      replace H : (if 0 ≤ (ji4) then (some (shr .i64 (-9223372036854775808) (ji4), Go.bits .xor .i64 (-1) (shr .i64 (-9223372036854775808) (ji4)), true)) else (none)) = some (r1, r2, r3) := by first | (rw [hji4] at H; exact H) | (simp only [hji4] at H ⊢; exact H)
      have hji4w : (IntKind.i64.wrap (64 - a0)) = ji4 := (i64_w _).trans hji4
      by_cases c5 : 0 ≤ (ji4)
      · rw [if_pos c5] at H
        have c5b0 := eq_true c5
        have c5b1 : decide (0 ≤ (ji4)) = true := decide_eq_true c5
        clear c5
        obtain ⟨ji6, hji6⟩ : ∃ j_ : Int, (shr .i64 (-9223372036854775808) (ji4)) = j_ := ⟨_, rfl⟩
        replace H : (some (ji6, Go.bits .xor .i64 (-1) (ji6), true)) = some (r1, r2, r3) := by first | (rw [hji6] at H; exact H) | (simp only [hji6] at H ⊢; exact H)
        have hji6_ : ((-9223372036854775808) / 2 ^ min (ji4).toNat 64) = ji6 := hji6
        have hji6z : (ji4) ≤ 64 → ((-9223372036854775808) / 2 ^ (ji4).toNat) = ji6 := shr_small hji6
        simp only [Option.some.injEq, Prod.mk.injEq] at H
        obtain ⟨rfl, rfl, rfl⟩ := H
        go_enter Try.func36, Try.ntmps36
        go_wp2
        go_ret3
        exact ⟨by first | rfl | (simp; done) | (simp only [← hji4, ← hji6] <;> (first | rfl | simp)) | (simp [*]; done), by repeat (first | exact Drawn0.refl _ | apply Drawn0.step)⟩
      · rw [if_neg c5] at H
        exact absurd H (by simp)

/-! ### sat_Fits: function 15 -/
def sat_Fits.f (a0 : Int) (a1 : Int) : Option (Bool) := (sat_ends.f a1).bind fun bt101 => (if bt101.2.2 = true then (if a0 ≥ bt101.1 then (some (decide (a0 ≤ bt101.2.1))) else (some false)) else (some false))
set_option maxHeartbeats 8000000 in
set_option maxRecDepth 100000 in
theorem sat_Fits.calls (a0 : Int) (a1 : Int) (r : Bool) (w : World) (h : sat_Fits.f a0 a1 = some r) :
    Calls Try.prog 15 #[.int .i64 a0, .int .i64 a1] w fun e w' => e = .returned (.bool r) ∧ Drawn0 w w' := by
  have H : ((sat_ends.f a1).bind fun bt101 => (if bt101.2.2 = true then (if a0 ≥ bt101.1 then (some (decide (a0 ≤ bt101.2.1))) else (some false)) else (some false))) = some r := h
  clear h
  replace H := Option.bind_eq_some_iff.mp H
  obtain ⟨⟨t101, t102, t103⟩, A30, H⟩ := H
  replace H : (if t103 = true then (if a0 ≥ t101 then (some (decide (a0 ≤ t102))) else (some false)) else (some false)) = some r := H
  have A3 := Aside0.mk A30
  clear A30
  by_cases c4 : t103 = true
  · subst c4
    have H1 : (if a0 ≥ t101 then (some (decide (a0 ≤ t102))) else (some false)) = some r := by rw [if_pos rfl] at H; exact H
    clear H
    have H := H1
    clear H1
    by_cases c5 : a0 ≥ t101
    · rw [if_pos c5] at H
      have c5b0 : decide (t101 ≤ a0) = true := decide_eq_true c5
      clear c5
      obtain rfl := Option.some.inj H
      go_enter Try.func15, Try.ntmps15
      go_wp2_with (first | ((with_reducible refine gate_callee (f := 36) rfl ?_); refine goesL_ (some 10) rfl rfl Try.func36 (by kernel_rfl) rfl #[.int .i64 a1] rfl (by (try simp only [List.map_toArray, List.map_cons, List.map_nil]); first | done | rfl | (simp only [List.length_drop, List.length_take]; rfl)) ?_; (with_reducible refine (sat_ends.calls a1 t101 t102 true _ A3.out).mono ?_); rintro e w' ⟨rfl, ⟨nd, rfl⟩⟩; refine ⟨_, rfl, ?_⟩))
      go_ret
      exact ⟨by first | rfl | (simp; done) | (simp [*]; done), by repeat (first | exact Drawn0.refl _ | apply Drawn0.step)⟩
    · rw [if_neg c5] at H
      have c5b0 : decide (t101 ≤ a0) = false := decide_eq_false c5
      clear c5
      obtain rfl := Option.some.inj H
      go_enter Try.func15, Try.ntmps15
      go_wp2_with (first | ((with_reducible refine gate_callee (f := 36) rfl ?_); refine goesL_ (some 10) rfl rfl Try.func36 (by kernel_rfl) rfl #[.int .i64 a1] rfl (by (try simp only [List.map_toArray, List.map_cons, List.map_nil]); first | done | rfl | (simp only [List.length_drop, List.length_take]; rfl)) ?_; (with_reducible refine (sat_ends.calls a1 t101 t102 true _ A3.out).mono ?_); rintro e w' ⟨rfl, ⟨nd, rfl⟩⟩; refine ⟨_, rfl, ?_⟩))
      go_ret
      exact ⟨by first | rfl | (simp; done) | (simp [*]; done), by repeat (first | exact Drawn0.refl _ | apply Drawn0.step)⟩
  · replace c4 := Bool.eq_false_iff.mpr c4
    subst c4
    have H1 : (some false) = some r := by rw [if_neg (show ¬ (false = true) by decide)] at H; exact H
    clear H
    have H := H1
    clear H1
    obtain rfl := Option.some.inj H
    go_enter Try.func15, Try.ntmps15
    go_wp2_with (first | ((with_reducible refine gate_callee (f := 36) rfl ?_); refine goesL_ (some 10) rfl rfl Try.func36 (by kernel_rfl) rfl #[.int .i64 a1] rfl (by (try simp only [List.map_toArray, List.map_cons, List.map_nil]); first | done | rfl | (simp only [List.length_drop, List.length_take]; rfl)) ?_; (with_reducible refine (sat_ends.calls a1 t101 t102 false _ A3.out).mono ?_); rintro e w' ⟨rfl, ⟨nd, rfl⟩⟩; refine ⟨_, rfl, ?_⟩))
    go_ret
    exact ⟨by first | rfl | (simp; done) | (simp [*]; done), by repeat (first | exact Drawn0.refl _ | apply Drawn0.step)⟩

/-! ### sat_Sum: function 18 -/
def sat_Sum.l0 : Nat → Int → Int → List Int → Int → Int → Option (Int × Bool)
  | 0, _, _, _, _, _ => none
  | k + 1, x4, x5, x8, x9, x10 => if x10 < x9 then (if 0 ≤ x10 then (if x10 < (x8.length : Int) then (sat_Sum.l0 k (wrap64 (x4 + ((rd x8 x10) / 4294967296))) (wrap64 (x5 + (Go.bits .and .i64 (rd x8 x10) 4294967295))) x8 x9 (wrap64 (x10 + 1))) else (none)) else (none)) else ((sat_Fits.f (wrap64 (x4 + (x5 / 4294967296))) 32).bind fun t105 => (if t105 = true then (some (Go.bits .or .i64 (wrap64 ((wrap64 (x4 + (x5 / 4294967296))) * 4294967296)) (Go.bits .and .i64 x5 4294967295), true)) else (some (0, false))))
def sat_Sum.f (k : Nat) (l0 : List Int) : Option (Int × Bool) := sat_Sum.l0 k 0 0 l0 (l0.length : Int) 0
theorem sat_Sum.mono_l : ∀ k, (∀ y0 y1 y2 y3 y4, LeO (sat_Sum.l0 k y0 y1 y2 y3 y4) (sat_Sum.l0 (k + 1) y0 y1 y2 y3 y4))
  | 0 => fun _ _ _ _ _ r h => by simp [sat_Sum.l0] at h
  | k + 1 => by
    have ih0 := sat_Sum.mono_l k
    · intro y0 y1 y2 y3 y4
      unfold sat_Sum.l0
      repeat' first
      | (with_reducible exact ih0 _ _ _ _ _)
      | (with_reducible exact LeO.refl _)
      | (with_reducible exact LeO.none _)
      | (with_reducible refine LeO.ite ?_ ?_)
      | (with_reducible refine LeO.bind ?_ (fun _ => ?_))
      | exact ih0 _ _ _ _ _
      | exact LeO.none _
      | refine LeO.ite ?_ ?_
      | refine LeO.bind ?_ (fun _ => ?_)
theorem sat_Sum.mono : ∀ a0 k, LeO (sat_Sum.f k a0) (sat_Sum.f (k + 1) a0) := by
  intro a0 k
  have ih0 := sat_Sum.mono_l k
  unfold sat_Sum.f
  repeat' first
      | (with_reducible exact ih0 _ _ _ _ _)
      | (with_reducible exact LeO.refl _)
      | (with_reducible exact LeO.none _)
      | (with_reducible refine LeO.ite ?_ ?_)
      | (with_reducible refine LeO.bind ?_ (fun _ => ?_))
      | exact ih0 _ _ _ _ _
      | exact LeO.none _
      | refine LeO.ite ?_ ?_
      | refine LeO.bind ?_ (fun _ => ?_)
set_option maxHeartbeats 8000000 in
set_option maxRecDepth 100000 in
theorem sat_Sum.calls (k : Nat) (A0 : Option Addr) (c0 : Nat) (l0 : List Int) (r1 : Int) (r2 : Bool) (w : World) (hr0 : Kd.C (Kd.int .i64) w A0 l0.length l0) (hc0 : l0.length ≤ c0) (h : sat_Sum.f k l0 = some (r1, r2)) :
    Calls Try.prog 18 #[.slice A0 l0.length c0] w fun e w' => e = .returned (.tuple #[.int .i64 r1, .bool r2]) ∧ Drawn0 w w' := by
  have HR0 := Aside0.mk hr0
  have HC0 := Aside0.mk hc0
  clear hr0 hc0
  have H : (sat_Sum.l0 k 0 0 l0 (l0.length : Int) 0) = some (r1, r2) := h
  clear h
  have H' := Aside0.mk H
  clear H
  go_enter Try.func18, Try.ntmps18
  go_wp2
  go_loopg [4, 5, 10] k (fun kq v4 v5 v10 w' => ∃ (x4_1 : Int) (x5_1 : Int) (x10_1 : Int), v4 = .int .i64 x4_1 ∧ v5 = .int .i64 x5_1 ∧ v10 = .int .i64 x10_1 ∧ Aside0 (sat_Sum.l0 kq x4_1 x5_1 l0 (l0.length : Int) x10_1 = some (r1, r2)) ∧ Aside0 (kq ≤ k) ∧ Drawn0 w w')
  case atStart => exact ⟨(0), (0), (0), (by first | rfl | (simp; done) | (simp [*]; done)), (by first | rfl | (simp; done) | (simp [*]; done)), (by first | rfl | (simp; done) | (simp [*]; done)), H', ⟨Nat.le_refl _⟩, by repeat (first | exact Drawn0.refl _ | apply Drawn0.step)⟩
  case round =>
    clear H'
    try clear c1
    obtain ⟨x4_1, x5_1, x10_1, rfl, rfl, rfl, HA, HK1, ⟨m1, rfl⟩⟩ := hrel
    cases gk with
    | zero => exact absurd HA.out (by simp [sat_Sum.l0])
    | succ k1 =>
      have H := HA.out
      clear HA
      simp only [sat_Sum.l0] at H
      by_cases c2 : x10_1 < (l0.length : Int)
      · rw [if_pos c2] at H
        have c2b0 : decide (x10_1 < (l0.length : Int)) = true := decide_eq_true c2
        clear c2
        by_cases c3 : 0 ≤ x10_1
        · rw [if_pos c3] at H
          have c3b0 : decide (0 ≤ x10_1) = true := decide_eq_true c3
          clear c3
          by_cases c4 : x10_1 < (l0.length : Int)
          · rw [if_pos c4] at H
            have c4b0 : decide (x10_1 < (l0.length : Int)) = true := decide_eq_true c4
            clear c4
            have H' := Aside0.mk H
            clear H
            have p104 : 0 ≤ (x10_1 : Int) := of_decide_eq_true (by first | (with_reducible assumption) | assumption)
            have q104 : x10_1 < (l0.length : Int) := of_decide_eq_true (by first | (with_reducible assumption) | assumption)
            obtain ⟨ad104, e104, hx104_0⟩ := Kd.at_int HR0.out x10_1 p104 q104
            cases e104
            replace p104 := eq_true p104
            replace q104 := eq_true q104
            go_wp2
            go_roundg k1
            case measure => have := HK1.out; omega
            case rel => exact ⟨(wrap64 (x4_1 + ((rd l0 x10_1) / 4294967296))), (wrap64 (x5_1 + (Go.bits .and .i64 (rd l0 x10_1) 4294967295))), (wrap64 (x10_1 + 1)), (by first | rfl | (simp; done) | (simp [*]; done)), (by first | rfl | (simp; done) | (simp [*]; done)), (by first | rfl | (simp; done) | (simp [*]; done)), H', ⟨by have := HK1.out; omega⟩, by repeat (first | exact Drawn0.refl _ | apply Drawn0.step)⟩
          · rw [if_neg c4] at H
            exact absurd H (by simp)
        · rw [if_neg c3] at H
          exact absurd H (by simp)
      · rw [if_neg c2] at H
        have c2b0 : decide (x10_1 < (l0.length : Int)) = false := decide_eq_false c2
        clear c2
        replace H := Option.bind_eq_some_iff.mp H
        obtain ⟨t105, A50, H⟩ := H
        replace H : (if t105 = true then (some (Go.bits .or .i64 (wrap64 ((wrap64 (x4_1 + (x5_1 / 4294967296))) * 4294967296)) (Go.bits .and .i64 x5_1 4294967295), true)) else (some (0, false))) = some (r1, r2) := H
        have A5 := Aside0.mk A50
        clear A50
        by_cases c6 : t105 = true
        · subst c6
          have H1 : (some (Go.bits .or .i64 (wrap64 ((wrap64 (x4_1 + (x5_1 / 4294967296))) * 4294967296)) (Go.bits .and .i64 x5_1 4294967295), true)) = some (r1, r2) := by rw [if_pos rfl] at H; exact H
          clear H
          have H := H1
          clear H1
          simp only [Option.some.injEq, Prod.mk.injEq] at H
          obtain ⟨rfl, rfl⟩ := H
          go_wp2_with (first | ((with_reducible refine gate_callee (f := 15) rfl ?_); refine goesL_ (some 28) rfl rfl Try.func15 (by kernel_rfl) rfl #[.int .i64 (wrap64 (x4_1 + (x5_1 / 4294967296))), .int .i64 32] rfl (by (try simp only [List.map_toArray, List.map_cons, List.map_nil]); first | done | rfl | (simp only [List.length_drop, List.length_take]; rfl)) ?_; (with_reducible refine (sat_Fits.calls (wrap64 (x4_1 + (x5_1 / 4294967296))) 32 true _ A5.out).mono ?_); rintro e w' ⟨rfl, ⟨nd, rfl⟩⟩; refine ⟨_, rfl, ?_⟩))
          go_ret2
          exact ⟨by first | rfl | (simp; done) | (simp [*]; done), by repeat (first | exact Drawn0.refl _ | apply Drawn0.step)⟩
        · replace c6 := Bool.eq_false_iff.mpr c6
          subst c6
          have H1 : (some (0, false)) = some (r1, r2) := by rw [if_neg (show ¬ (false = true) by decide)] at H; exact H
          clear H
          have H := H1
          clear H1
          simp only [Option.some.injEq, Prod.mk.injEq] at H
          obtain ⟨rfl, rfl⟩ := H
          go_wp2_with (first | ((with_reducible refine gate_callee (f := 15) rfl ?_); refine goesL_ (some 28) rfl rfl Try.func15 (by kernel_rfl) rfl #[.int .i64 (wrap64 (x4_1 + (x5_1 / 4294967296))), .int .i64 32] rfl (by (try simp only [List.map_toArray, List.map_cons, List.map_nil]); first | done | rfl | (simp only [List.length_drop, List.length_take]; rfl)) ?_; (with_reducible refine (sat_Fits.calls (wrap64 (x4_1 + (x5_1 / 4294967296))) 32 false _ A5.out).mono ?_); rintro e w' ⟨rfl, ⟨nd, rfl⟩⟩; refine ⟨_, rfl, ?_⟩))
          go_ret2
          exact ⟨by first | rfl | (simp; done) | (simp [*]; done), by repeat (first | exact Drawn0.refl _ | apply Drawn0.step)⟩

/-! ### sat_Clamp: function 16 -/
def sat_Clamp.f (a0 : Int) (a1 : Int) (a2 : Int) : Option (Int) := if a0 < a1 then (some a1) else (if a0 > a2 then (some a2) else (some a0))
set_option maxHeartbeats 8000000 in
set_option maxRecDepth 100000 in
theorem sat_Clamp.calls (a0 : Int) (a1 : Int) (a2 : Int) (r : Int) (w : World) (h : sat_Clamp.f a0 a1 a2 = some r) :
    Calls Try.prog 16 #[.int .i64 a0, .int .i64 a1, .int .i64 a2] w fun e w' => e = .returned (.int .i64 r) ∧ Drawn0 w w' := by
  have H : (if a0 < a1 then (some a1) else (if a0 > a2 then (some a2) else (some a0))) = some r := h
  clear h
  by_cases c4 : a0 < a1
  · rw [if_pos c4] at H
    have c4b0 : decide (a0 < a1) = true := decide_eq_true c4
    clear c4
    obtain rfl := Option.some.inj H
    go_enter Try.func16, Try.ntmps16
    go_wp2
    go_ret
    exact ⟨by first | rfl | (simp; done) | (simp [*]; done), by repeat (first | exact Drawn0.refl _ | apply Drawn0.step)⟩
  · rw [if_neg c4] at H
    have c4b0 : decide (a0 < a1) = false := decide_eq_false c4
    clear c4
    by_cases c5 : a0 > a2
    · rw [if_pos c5] at H
      have c5b0 : decide (a2 < a0) = true := decide_eq_true c5
      clear c5
      obtain rfl := Option.some.inj H
      go_enter Try.func16, Try.ntmps16
      go_wp2
      go_ret
      exact ⟨by first | rfl | (simp; done) | (simp [*]; done), by repeat (first | exact Drawn0.refl _ | apply Drawn0.step)⟩
    · rw [if_neg c5] at H
      have c5b0 : decide (a2 < a0) = false := decide_eq_false c5
      clear c5
      obtain rfl := Option.some.inj H
      go_enter Try.func16, Try.ntmps16
      go_wp2
      go_ret
      exact ⟨by first | rfl | (simp; done) | (simp [*]; done), by repeat (first | exact Drawn0.refl _ | apply Drawn0.step)⟩

/-! ### sat_Sat: function 14 -/
def sat_Sat.f (a0 : Int) (a1 : Int) : Option (Int) := (sat_ends.f a1).bind fun bt106 => (if bt106.2.2 = true then ((sat_Clamp.f a0 bt106.1 bt106.2.1).bind fun t109 => (some t109)) else (some 0))
set_option maxHeartbeats 8000000 in
set_option maxRecDepth 100000 in
theorem sat_Sat.calls (a0 : Int) (a1 : Int) (r : Int) (w : World) (h : sat_Sat.f a0 a1 = some r) :
    Calls Try.prog 14 #[.int .i64 a0, .int .i64 a1] w fun e w' => e = .returned (.int .i64 r) ∧ Drawn0 w w' := by
  have H : ((sat_ends.f a1).bind fun bt106 => (if bt106.2.2 = true then ((sat_Clamp.f a0 bt106.1 bt106.2.1).bind fun t109 => (some t109)) else (some 0))) = some r := h
  clear h
  replace H := Option.bind_eq_some_iff.mp H
  obtain ⟨⟨t106, t107, t108⟩, A30, H⟩ := H
  replace H : (if t108 = true then ((sat_Clamp.f a0 t106 t107).bind fun t109 => (some t109)) else (some 0)) = some r := H
  have A3 := Aside0.mk A30
  clear A30
  by_cases c4 : t108 = true
  · subst c4
    have H1 : ((sat_Clamp.f a0 t106 t107).bind fun t109 => (some t109)) = some r := by rw [if_pos rfl] at H; exact H
    clear H
    have H := H1
    clear H1
    replace H := Option.bind_eq_some_iff.mp H
    obtain ⟨t109, A50, H⟩ := H
    replace H : (some t109) = some r := H
    have A5 := Aside0.mk A50
    clear A50
    obtain rfl := Option.some.inj H
    go_enter Try.func14, Try.ntmps14
    go_wp2_with (first | ((with_reducible refine gate_callee (f := 36) rfl ?_); refine goesL_ (some 10) rfl rfl Try.func36 (by kernel_rfl) rfl #[.int .i64 a1] rfl (by (try simp only [List.map_toArray, List.map_cons, List.map_nil]); first | done | rfl | (simp only [List.length_drop, List.length_take]; rfl)) ?_; (with_reducible refine (sat_ends.calls a1 t106 t107 true _ A3.out).mono ?_); rintro e w' ⟨rfl, ⟨nd, rfl⟩⟩; refine ⟨_, rfl, ?_⟩) | ((with_reducible refine gate_callee (f := 16) rfl ?_); refine goesL_ (some 19) rfl rfl Try.func16 (by kernel_rfl) rfl #[.int .i64 a0, .int .i64 t106, .int .i64 t107] rfl (by (try simp only [List.map_toArray, List.map_cons, List.map_nil]); first | done | rfl | (simp only [List.length_drop, List.length_take]; rfl)) ?_; (with_reducible refine (sat_Clamp.calls a0 t106 t107 t109 _ A5.out).mono ?_); rintro e w' ⟨rfl, ⟨nd, rfl⟩⟩; refine ⟨_, rfl, ?_⟩))
    go_ret
    exact ⟨by first | rfl | (simp; done) | (simp [*]; done), by repeat (first | exact Drawn0.refl _ | apply Drawn0.step)⟩
  · replace c4 := Bool.eq_false_iff.mpr c4
    subst c4
    have H1 : (some 0) = some r := by rw [if_neg (show ¬ (false = true) by decide)] at H; exact H
    clear H
    have H := H1
    clear H1
    obtain rfl := Option.some.inj H
    go_enter Try.func14, Try.ntmps14
    go_wp2_with (first | ((with_reducible refine gate_callee (f := 36) rfl ?_); refine goesL_ (some 10) rfl rfl Try.func36 (by kernel_rfl) rfl #[.int .i64 a1] rfl (by (try simp only [List.map_toArray, List.map_cons, List.map_nil]); first | done | rfl | (simp only [List.length_drop, List.length_take]; rfl)) ?_; (with_reducible refine (sat_ends.calls a1 t106 t107 false _ A3.out).mono ?_); rintro e w' ⟨rfl, ⟨nd, rfl⟩⟩; refine ⟨_, rfl, ?_⟩))
    go_ret
    exact ⟨by first | rfl | (simp; done) | (simp [*]; done), by repeat (first | exact Drawn0.refl _ | apply Drawn0.step)⟩

/-! ### sat_Add: function 19 (by hand) -/

def sat_Add.plus (n x : Int) : Int :=
  if 0 < x ∧ wrap64 (9223372036854775807 - x) < n then 9223372036854775807
  else if x < 0 ∧ n < wrap64 (-9223372036854775808 - x) then -9223372036854775808
  else wrap64 (n + x)
def sat_Add.go (b : Int) : List Int → Int → Option Int
  | [], n => some n
  | x :: xs, n => (sat_Sat.f (sat_Add.plus n x) b).bind fun m => sat_Add.go b xs m
def sat_Add.f (a0 : Int) (l1 : List Int) : Option Int := if l1.length < 4611686018427387904 then sat_Add.go a0 l1 0 else none
theorem sat_Add.blk_set_far {w : World} {n : Nat} {t : TypeId} {cs : Array Value} {u : Value} (h : w.heap[n]? = some (.cells cs t (0, 0))) : (w.setCell ⟨n + 1, 0, none⟩ u).heap[n]? = some (.cells cs t (0, 0)) := blk_far h (p := ⟨n + 1, 0, none⟩) (by simp) u

set_option maxHeartbeats 800000 in
set_option maxRecDepth 100000 in
theorem sat_Add1.calls (x n b r : Int) (gn gb : Nat) (w : World) (hne : gb ≠ gn)
    (hn : w.heap[gn]? = some (.cells #[.int .i64 n] 3 (0, 0))) (hb : w.heap[gb]? = some (.cells #[.int .i64 b] 3 (0, 0)))
    (h : sat_Sat.f (sat_Add.plus n x) b = some r) :
    Calls Try.prog 37 #[.int .i64 x, .pointer (some ⟨gn, 0, none⟩), .pointer (some ⟨gb, 0, none⟩)] w fun e w' =>
      e = .returned (.tuple #[]) ∧ w'.heap[gn]? = some (.cells #[.int .i64 r] 3 (0, 0)) ∧ w'.heap[gb]? = some (.cells #[.int .i64 b] 3 (0, 0)) ∧ (∀ B, B ≤ gn → Below B w w') := by
  have hcn : w.cell? ⟨gn, 0, none⟩ = some (.int .i64 n) := cell_of_one hn
  have hcb : w.cell? ⟨gb, 0, none⟩ = some (.int .i64 b) := cell_of_one hb
  have hfn : w.frozen? ⟨gn, 0, none⟩ = false := free_of_one hn
  have HN := Aside0.mk hn; clear hn
  have HB := Aside0.mk hb; clear hb
  unfold sat_Add.plus at h
  by_cases c1 : 0 < x
  · by_cases c2 : wrap64 (9223372036854775807 - x) < n
    · rw [if_pos ⟨c1, c2⟩] at h
      have hA := Aside0.mk h; clear h
      go_enter Try.func37, Try.ntmps37
      go_wp2_with (go_at_call 14; (with_reducible refine (sat_Sat.calls 9223372036854775807 b r _ hA.out).mono ?_); rintro e w' ⟨rfl, ⟨nd, rfl⟩⟩)
      go_end0
      refine ⟨rfl, ?_, ?_, fun B hBg => ?_⟩
      · exact one_setCell (blk_drewN (one_setCell HN.out) nd)
      · exact blk_far (blk_drewN (blk_far HB.out hne _) nd) hne _
      · exact Below.setCell (pw_below_drewN (Below.setCell (Below.refl _ _) (p := ⟨gn, 0, none⟩) hBg _) nd) (p := ⟨gn, 0, none⟩) hBg _
    · rw [if_neg (fun k => c2 k.2), if_neg (fun k => by omega)] at h
      have hA := Aside0.mk h; clear h
      go_enter Try.func37, Try.ntmps37
      go_wp2_with (go_at_call 14; (with_reducible refine (sat_Sat.calls (wrap64 (n + x)) b r _ hA.out).mono ?_); rintro e w' ⟨rfl, ⟨nd, rfl⟩⟩)
      go_end0
      refine ⟨rfl, ?_, ?_, fun B hBg => ?_⟩
      · exact one_setCell (blk_drewN (one_setCell HN.out) nd)
      · exact blk_far (blk_drewN (blk_far HB.out hne _) nd) hne _
      · exact Below.setCell (pw_below_drewN (Below.setCell (Below.refl _ _) (p := ⟨gn, 0, none⟩) hBg _) nd) (p := ⟨gn, 0, none⟩) hBg _
  · rw [if_neg (fun k => c1 k.1)] at h
    by_cases c3 : x < 0
    · by_cases c4 : n < wrap64 (-9223372036854775808 - x)
      · rw [if_pos ⟨c3, c4⟩] at h
        have hA := Aside0.mk h; clear h
        go_enter Try.func37, Try.ntmps37
        go_wp2_with (go_at_call 14; (with_reducible refine (sat_Sat.calls (-9223372036854775808) b r _ hA.out).mono ?_); rintro e w' ⟨rfl, ⟨nd, rfl⟩⟩)
        go_end0
        refine ⟨rfl, ?_, ?_, fun B hBg => ?_⟩
        · exact one_setCell (blk_drewN (one_setCell HN.out) nd)
        · exact blk_far (blk_drewN (blk_far HB.out hne _) nd) hne _
        · exact Below.setCell (pw_below_drewN (Below.setCell (Below.refl _ _) (p := ⟨gn, 0, none⟩) hBg _) nd) (p := ⟨gn, 0, none⟩) hBg _
      · rw [if_neg (fun k => c4 k.2)] at h
        have hA := Aside0.mk h; clear h
        go_enter Try.func37, Try.ntmps37
        go_wp2_with (go_at_call 14; (with_reducible refine (sat_Sat.calls (wrap64 (n + x)) b r _ hA.out).mono ?_); rintro e w' ⟨rfl, ⟨nd, rfl⟩⟩)
        go_end0
        refine ⟨rfl, ?_, ?_, fun B hBg => ?_⟩
        · exact one_setCell (blk_drewN (one_setCell HN.out) nd)
        · exact blk_far (blk_drewN (blk_far HB.out hne _) nd) hne _
        · exact Below.setCell (pw_below_drewN (Below.setCell (Below.refl _ _) (p := ⟨gn, 0, none⟩) hBg _) nd) (p := ⟨gn, 0, none⟩) hBg _
    · rw [if_neg (fun k => c3 k.1)] at h
      have hA := Aside0.mk h; clear h
      go_enter Try.func37, Try.ntmps37
      go_wp2_with (go_at_call 14; (with_reducible refine (sat_Sat.calls (wrap64 (n + x)) b r _ hA.out).mono ?_); rintro e w' ⟨rfl, ⟨nd, rfl⟩⟩)
      go_end0
      refine ⟨rfl, ?_, ?_, fun B hBg => ?_⟩
      · exact one_setCell (blk_drewN (one_setCell HN.out) nd)
      · exact blk_far (blk_drewN (blk_far HB.out hne _) nd) hne _
      · exact Below.setCell (pw_below_drewN (Below.setCell (Below.refl _ _) (p := ⟨gn, 0, none⟩) hBg _) nd) (p := ⟨gn, 0, none⟩) hBg _

theorem sat_Add.go_drop (b : Int) (l : List Int) (i : Nat) (n : Int) (r : Int) (hi : i < l.length) (h : sat_Add.go b (l.drop i) n = some r) :
    ∃ m, sat_Sat.f (sat_Add.plus n (rd l i)) b = some m ∧ sat_Add.go b (l.drop (i + 1)) m = some r := by
  rw [List.drop_eq_getElem_cons hi] at h
  have hr : rd l (i : Int) = l[i] := by unfold rd; simp [hi]
  rw [hr]
  simp only [sat_Add.go] at h
  exact Option.bind_eq_some_iff.mp h

set_option maxHeartbeats 800000 in
set_option maxRecDepth 100000 in
theorem sat_Add.calls (a0 : Int) (A1 : Option Addr) (c1 : Nat) (l1 : List Int) (r : Int) (w : World) (hr1 : Kd.C (Kd.int .i64) w A1 l1.length l1) (hc1 : l1.length ≤ c1) (h : sat_Add.f a0 l1 = some r) :
    Calls Try.prog 19 #[.int .i64 a0, .slice A1 l1.length c1] w fun e w' => e = .returned (.int .i64 r) ∧ Below w.heap.size w w' := by
  unfold sat_Add.f at h
  by_cases hm : l1.length < 4611686018427387904
  case neg => rw [if_neg hm] at h; cases h
  rw [if_pos hm] at h
  have HR := Aside0.mk hr1; clear hr1 hc1
  have HM := Aside0.mk hm; clear hm
  have HA := Aside0.mk h; clear h
  have HG := Aside0.mk (blk_new (w.alloc (.cells #[.int .i64 a0] 3)) (.cells #[.int .i64 0] 3))
  have HB := Aside0.mk (blk_alloc (blk_new w (.cells #[.int .i64 a0] 3)) (.cells #[.int .i64 0] 3))
  go_enter Try.func19, Try.ntmps19
  go_wp2_with fail
  go_loopg [12] l1.length (fun gk v12 W => ∃ (i : Nat) (n : Int), v12 = .int .i64 i ∧ Aside0 (i + gk = l1.length) ∧ Aside0 (sat_Add.go a0 (l1.drop i) n = some r) ∧ Aside0 (W.heap[w.heap.size + 1]? = some (.cells #[.int .i64 n] 3 (0, 0))) ∧ Aside0 (W.heap[w.heap.size]? = some (.cells #[.int .i64 a0] 3 (0, 0))) ∧ Aside0 (Below w.heap.size w W))
  case atStart => exact ⟨0, 0, rfl, ⟨by omega⟩, ⟨HA.out⟩, ⟨by have := HG.out; simpa using this⟩, HB, ⟨below_alloc (below_alloc (Below.refl _ _) _) _⟩⟩
  case round =>
    obtain ⟨i, n, rfl, HK, HS, HN, HBB, HBel⟩ := hrel
    clear HA HG HB
    have hcn := cell_of_one HN.out
    cases gk with
    | zero =>
      have hlt : ¬ ((i : Int) < (l1.length : Int)) := by have := HK.out; omega
      go_wp2
      go_ret
      have hi : l1.length ≤ i := by omega
      have h2 := HS.out
      rw [List.drop_of_length_le hi] at h2
      simp only [sat_Add.go, Option.some.injEq] at h2
      exact ⟨by subst h2; rfl, HBel.out⟩
    | succ k =>
      have hlt : ((i : Int) < (l1.length : Int)) := by have := HK.out; omega
      obtain ⟨m, hs, hgo⟩ := sat_Add.go_drop a0 l1 i n r (by omega) HS.out
      have HSm := Aside0.mk hs; clear hs
      have HGo := Aside0.mk hgo; clear hgo
      have p0 : 0 ≤ (i : Int) := by omega
      obtain ⟨ad, rfl, hx⟩ := Kd.at_int (Kd.C_below HR.out HBel.out) i p0 hlt
      rw [Int.toNat_natCast] at hx
      go_wp2_with (go_at_call 37; (with_reducible refine (sat_Add1.calls _ n a0 m _ _ _ (by omega) HN.out HBB.out HSm.out).mono ?_); rintro e w' ⟨rfl, hn', hb', hbel⟩)
      have HN' := Aside0.mk hn'; have HB' := Aside0.mk hb'; have HBel' := Aside0.mk (HBel.out.trans (hbel _ (by omega)))
      clear hn' hb' hbel hx
      have hmm : (i : Int) < 4611686018427387904 := by have := HM.out; omega
      go_wp2
      go_roundg k
      case measure => omega
      case rel => exact ⟨i + 1, m, by rw [show wrap64 ((i : Int) + 1) = ((i + 1 : Nat) : Int) from by unfold wrap64; omega], ⟨by have := HK.out; omega⟩, HGo, HN', HB', HBel'⟩

/-! ### earshotlaw01_awake: function 13 -/
def earshotlaw01_awake.f (k : Nat)  : Option (Bool) := (sat_Sum.f k (([9223372036854775807, 1, (-1)] : List Int))).bind fun bt113 => ((sat_Add.f 8 (([100, 100, (-1)] : List Int))).bind fun t118 => (if t118 = 126 then (if bt113.1 = 9223372036854775807 then (some bt113.2) else (some false)) else (some false)))
theorem earshotlaw01_awake.mono : ∀ k, LeO (earshotlaw01_awake.f k ) (earshotlaw01_awake.f (k + 1) ) := by
  intro  k
  unfold earshotlaw01_awake.f
  repeat' first
      | (with_reducible exact sat_Sum.mono _ _)
      | (with_reducible exact LeO.refl _)
      | (with_reducible exact LeO.none _)
      | (with_reducible refine LeO.ite ?_ ?_)
      | (with_reducible refine LeO.bind ?_ (fun _ => ?_))
      | exact sat_Sum.mono _ _
      | exact LeO.none _
      | refine LeO.ite ?_ ?_
      | refine LeO.bind ?_ (fun _ => ?_)
set_option maxHeartbeats 8000000 in
set_option maxRecDepth 100000 in
theorem earshotlaw01_awake.calls (k : Nat)  (r : Bool) (w : World) (h : earshotlaw01_awake.f k  = some r) :
    Calls Try.prog 13 #[] w fun e w' => e = .returned (.bool r) ∧ Below w.heap.size w w' := by
  have HB := Aside0.mk (Below.refl w.heap.size w)
  have H : ((sat_Sum.f k (([9223372036854775807, 1, (-1)] : List Int))).bind fun bt113 => ((sat_Add.f 8 (([100, 100, (-1)] : List Int))).bind fun t118 => (if t118 = 126 then (if bt113.1 = 9223372036854775807 then (some bt113.2) else (some false)) else (some false)))) = some r := h
  clear h
  obtain ⟨y110, hy110⟩ : ∃ y_ : List Int, y_ = (([9223372036854775807, 1, (-1)] : List Int)) := ⟨_, rfl⟩
  replace H : ((sat_Sum.f k y110).bind fun bt113 => ((sat_Add.f 8 (([100, 100, (-1)] : List Int))).bind fun t118 => (if t118 = 126 then (if bt113.1 = 9223372036854775807 then (some bt113.2) else (some false)) else (some false)))) = some r := by first | (rw [hy110]; with_reducible exact H) | (have H2_ := (Option.bind_some _ _).symm.trans H; rw [hy110]; with_reducible exact H2_) | (have H2_ := (Option.bind_some _ _).symm.trans H; with_reducible exact H2_) | with_reducible exact H | (rw [hy110]; exact H) | exact H
  have Ny110 := Aside0.mk hy110
  clear hy110
  replace H := Option.bind_eq_some_iff.mp H
  obtain ⟨⟨t113, t114⟩, A10, H⟩ := H
  replace H : ((sat_Add.f 8 (([100, 100, (-1)] : List Int))).bind fun t118 => (if t118 = 126 then (if t113 = 9223372036854775807 then (some t114) else (some false)) else (some false))) = some r := H
  have A1 := Aside0.mk A10
  clear A10
  obtain ⟨y115, hy115⟩ : ∃ y_ : List Int, y_ = (([100, 100, (-1)] : List Int)) := ⟨_, rfl⟩
  replace H : ((sat_Add.f 8 y115).bind fun t118 => (if t118 = 126 then (if t113 = 9223372036854775807 then (some t114) else (some false)) else (some false))) = some r := by first | (rw [hy115]; with_reducible exact H) | (have H2_ := (Option.bind_some _ _).symm.trans H; rw [hy115]; with_reducible exact H2_) | (have H2_ := (Option.bind_some _ _).symm.trans H; with_reducible exact H2_) | with_reducible exact H | (rw [hy115]; exact H) | exact H
  have Ny115 := Aside0.mk hy115
  clear hy115
  replace H := Option.bind_eq_some_iff.mp H
  obtain ⟨t118, A20, H⟩ := H
  replace H : (if t118 = 126 then (if t113 = 9223372036854775807 then (some t114) else (some false)) else (some false)) = some r := H
  have A2 := Aside0.mk A20
  clear A20
  by_cases c3 : t118 = 126
  · rw [if_pos c3] at H
    have c3b0 : (t118 == 126) = true := beq_iff_eq.mpr c3
    have c3b1 : (t118 != 126) = false := bne_eq_false_iff_eq.mpr c3
    clear c3
    by_cases c4 : t113 = 9223372036854775807
    · rw [if_pos c4] at H
      have c4b0 : (t113 == 9223372036854775807) = true := beq_iff_eq.mpr c4
      have c4b1 : (t113 != 9223372036854775807) = false := bne_eq_false_iff_eq.mpr c4
      clear c4
      obtain rfl := Option.some.inj H
      go_enter Try.func13, Try.ntmps13
      go_wp2_with (first | ((with_reducible refine gate_dst (N := 4) rfl ?_); refine Kd.R_lit (Kd.int .i64) _ 3 ?hg (N := 4) ?hd (xs := ([9223372036854775807, 1, (-1)] : List Int)) (inner := [.int .i64 9223372036854775807, .int .i64 1, .int .i64 (-1)]) (ok := fun _ => True) (okp := fun _ => True) ?hr ?hp (fun _ hk => hk) trivial (Below.refl _ _) (Nat.le_refl _) (by simp) ?_; (case hd => rfl); (case hg => rfl); (case hr => first | (go_simp; done) | (go_simp; rfl)); (case hp => exact (Reps.one (show Kd.M (Kd.int .i64) _ _ _ 9223372036854775807 [.int .i64 9223372036854775807] from rfl) (Reps.one (show Kd.M (Kd.int .i64) _ _ _ 1 [.int .i64 1] from rfl) (Reps.one (show Kd.M (Kd.int .i64) _ _ _ (-1) [.int .i64 (-1)] from rfl) (Reps.none _ _))))); intro v111 w5 ho6 hb hg_ hnew_; clear hg_ hnew_; (first | rw [← Ny110.out] at ho6 | (simp only [Int.reduceToNat] at ho6; rw [← Ny110.out] at ho6)); have n0_ := Aside0.mk (Kd.R_lower ho6 (below_size (by repeat (first | (with_reducible first | exact HB.out | apply below_alloc | apply pw_below_drewN | apply below_drew1) | exact HB.out)))); have n1_ := Aside0.mk (below_step (by repeat (first | (with_reducible first | exact HB.out | apply below_alloc | apply pw_below_drewN | apply below_drew1) | exact HB.out)) hb); clear HB; have HO112 := n0_; have HB := n1_; clear n0_ n1_; clear hb ho6; obtain ⟨Ao7, co7, eo7⟩ := Kd.R_slice HO112.out; subst eo7) | ((with_reducible refine gate_callee (f := 18) rfl ?_); refine goesL_ (some 5) rfl rfl Try.func18 (by kernel_rfl) rfl #[.slice Ao7 y110.length co7] rfl (by (try simp only [List.map_toArray, List.map_cons, List.map_nil]); first | done | rfl | (simp only [List.length_drop, List.length_take]; rfl)) ?_; (with_reducible refine (sat_Sum.calls k _ _ y110 t113 t114 _ ?side1 ?side2 A1.out).mono ?_); (case side1 => repeat (first | exact (Kd.R_reads' HO112.out).2.2 | (with_reducible refine Kd.C_alloc ?_ _) | (with_reducible refine Kd.C_drewN ?_ _) | (with_reducible refine Kd.C_drew ?_))); (case side2 => exact (Kd.R_reads' HO112.out).2.1); rintro e w' ⟨rfl, ⟨nd, rfl⟩⟩; refine ⟨_, rfl, ?_⟩) | ((with_reducible refine gate_dst (N := 8) rfl ?_); refine Kd.R_lit (Kd.int .i64) _ 3 ?hg (N := 8) ?hd (xs := ([100, 100, (-1)] : List Int)) (inner := [.int .i64 100, .int .i64 100, .int .i64 (-1)]) (ok := fun _ => True) (okp := fun _ => True) ?hr ?hp (fun _ hk => hk) trivial (Below.refl _ _) (Nat.le_refl _) (by simp) ?_; (case hd => rfl); (case hg => rfl); (case hr => first | (go_simp; done) | (go_simp; rfl)); (case hp => exact (Reps.one (show Kd.M (Kd.int .i64) _ _ _ 100 [.int .i64 100] from rfl) (Reps.one (show Kd.M (Kd.int .i64) _ _ _ 100 [.int .i64 100] from rfl) (Reps.one (show Kd.M (Kd.int .i64) _ _ _ (-1) [.int .i64 (-1)] from rfl) (Reps.none _ _))))); intro v116 w8 ho9 hb hg_ hnew_; clear hg_ hnew_; (first | rw [← Ny115.out] at ho9 | (simp only [Int.reduceToNat] at ho9; rw [← Ny115.out] at ho9)); have n0_ := Aside0.mk (Kd.R_elder' (by (with_reducible repeat (first | apply Kd.R_alloc | apply Kd.R_drewN | apply Kd.R_drew)); exact HO112.out) (Kd.R_base ho9) hb); have n1_ := Aside0.mk (Kd.R_lower (Kd.R_new' ho9 (Kd.R_lt (by (with_reducible repeat (first | apply Kd.R_alloc | apply Kd.R_drewN | apply Kd.R_drew)); exact HO112.out))) (below_size (by repeat (first | (with_reducible first | exact HB.out | apply below_alloc | apply pw_below_drewN | apply below_drew1) | exact HB.out)))); have n2_ := Aside0.mk (below_step (by repeat (first | (with_reducible first | exact HB.out | apply below_alloc | apply pw_below_drewN | apply below_drew1) | exact HB.out)) hb); clear HO112; clear HB; have HO112 := n0_; have HO117 := n1_; have HB := n2_; clear n0_ n1_ n2_; clear hb ho9; obtain ⟨Ao10, co10, eo10⟩ := Kd.R_slice HO117.out; subst eo10) | ((with_reducible refine gate_callee (f := 19) rfl ?_); refine goesL_ (some 9) rfl rfl Try.func19 (by kernel_rfl) rfl #[.int .i64 8, .slice Ao10 y115.length co10] rfl (by (try simp only [List.map_toArray, List.map_cons, List.map_nil]); first | done | rfl | (simp only [List.length_drop, List.length_take]; rfl)) ?_; (with_reducible refine (sat_Add.calls 8 _ _ y115 t118 _ ?side1 ?side2 A2.out).mono ?_); (case side1 => repeat (first | exact (Kd.R_reads' HO117.out).2.2 | (with_reducible refine Kd.C_alloc ?_ _) | (with_reducible refine Kd.C_drewN ?_ _) | (with_reducible refine Kd.C_drew ?_))); (case side2 => exact (Kd.R_reads' HO117.out).2.1); rintro e w11 ⟨rfl, hb⟩; refine ⟨_, rfl, ?_⟩; have n0_ := Aside0.mk (Kd.R_below (by (with_reducible repeat (first | apply Kd.R_alloc | apply Kd.R_drewN | apply Kd.R_drew)); exact HO112.out) hb); have n1_ := Aside0.mk (Kd.R_below (by (with_reducible repeat (first | apply Kd.R_alloc | apply Kd.R_drewN | apply Kd.R_drew)); exact HO117.out) hb); have n2_ := Aside0.mk (below_step (by repeat (first | (with_reducible first | exact HB.out | apply below_alloc | apply pw_below_drewN | apply below_drew1) | exact HB.out)) hb); clear HO112; clear HO117; clear HB; have HO112 := n0_; have HO117 := n1_; have HB := n2_; clear n0_ n1_ n2_; (try clear hb); (try clear hb2); (try clear hk); (try clear hi)))
      go_ret
      exact ⟨by first | rfl | (simp only [Int.tdiv_eq_ediv_of_nonneg (show (0 : Int) ≤ 9223372036854775807 by decide), Int.tdiv_eq_ediv_of_nonneg (show (0 : Int) ≤ 9223372036854775808 by decide)] <;> rfl) | (simp [errW_none, errW_some] <;> rfl) | (simp [*, errW_none, errW_some] <;> rfl), by repeat (first | (with_reducible first | exact HB.out | apply below_alloc | apply pw_below_drewN | apply below_drew1) | exact HB.out)⟩
    · rw [if_neg c4] at H
      have c4b0 : (t113 == 9223372036854775807) = false := beq_eq_false_iff_ne.mpr c4
      have c4b1 : (t113 != 9223372036854775807) = true := bne_iff_ne.mpr c4
      obtain rfl := Option.some.inj H
      go_enter Try.func13, Try.ntmps13
      go_wp2_with (first | ((with_reducible refine gate_dst (N := 4) rfl ?_); refine Kd.R_lit (Kd.int .i64) _ 3 ?hg (N := 4) ?hd (xs := ([9223372036854775807, 1, (-1)] : List Int)) (inner := [.int .i64 9223372036854775807, .int .i64 1, .int .i64 (-1)]) (ok := fun _ => True) (okp := fun _ => True) ?hr ?hp (fun _ hk => hk) trivial (Below.refl _ _) (Nat.le_refl _) (by simp) ?_; (case hd => rfl); (case hg => rfl); (case hr => first | (go_simp; done) | (go_simp; rfl)); (case hp => exact (Reps.one (show Kd.M (Kd.int .i64) _ _ _ 9223372036854775807 [.int .i64 9223372036854775807] from rfl) (Reps.one (show Kd.M (Kd.int .i64) _ _ _ 1 [.int .i64 1] from rfl) (Reps.one (show Kd.M (Kd.int .i64) _ _ _ (-1) [.int .i64 (-1)] from rfl) (Reps.none _ _))))); intro v111 w12 ho13 hb hg_ hnew_; clear hg_ hnew_; (first | rw [← Ny110.out] at ho13 | (simp only [Int.reduceToNat] at ho13; rw [← Ny110.out] at ho13)); have n0_ := Aside0.mk (Kd.R_lower ho13 (below_size (by repeat (first | (with_reducible first | exact HB.out | apply below_alloc | apply pw_below_drewN | apply below_drew1) | exact HB.out)))); have n1_ := Aside0.mk (below_step (by repeat (first | (with_reducible first | exact HB.out | apply below_alloc | apply pw_below_drewN | apply below_drew1) | exact HB.out)) hb); clear HB; have HO112 := n0_; have HB := n1_; clear n0_ n1_; clear hb ho13; obtain ⟨Ao14, co14, eo14⟩ := Kd.R_slice HO112.out; subst eo14) | ((with_reducible refine gate_callee (f := 18) rfl ?_); refine goesL_ (some 5) rfl rfl Try.func18 (by kernel_rfl) rfl #[.slice Ao14 y110.length co14] rfl (by (try simp only [List.map_toArray, List.map_cons, List.map_nil]); first | done | rfl | (simp only [List.length_drop, List.length_take]; rfl)) ?_; (with_reducible refine (sat_Sum.calls k _ _ y110 t113 t114 _ ?side1 ?side2 A1.out).mono ?_); (case side1 => repeat (first | exact (Kd.R_reads' HO112.out).2.2 | (with_reducible refine Kd.C_alloc ?_ _) | (with_reducible refine Kd.C_drewN ?_ _) | (with_reducible refine Kd.C_drew ?_))); (case side2 => exact (Kd.R_reads' HO112.out).2.1); rintro e w' ⟨rfl, ⟨nd, rfl⟩⟩; refine ⟨_, rfl, ?_⟩) | ((with_reducible refine gate_dst (N := 8) rfl ?_); refine Kd.R_lit (Kd.int .i64) _ 3 ?hg (N := 8) ?hd (xs := ([100, 100, (-1)] : List Int)) (inner := [.int .i64 100, .int .i64 100, .int .i64 (-1)]) (ok := fun _ => True) (okp := fun _ => True) ?hr ?hp (fun _ hk => hk) trivial (Below.refl _ _) (Nat.le_refl _) (by simp) ?_; (case hd => rfl); (case hg => rfl); (case hr => first | (go_simp; done) | (go_simp; rfl)); (case hp => exact (Reps.one (show Kd.M (Kd.int .i64) _ _ _ 100 [.int .i64 100] from rfl) (Reps.one (show Kd.M (Kd.int .i64) _ _ _ 100 [.int .i64 100] from rfl) (Reps.one (show Kd.M (Kd.int .i64) _ _ _ (-1) [.int .i64 (-1)] from rfl) (Reps.none _ _))))); intro v116 w15 ho16 hb hg_ hnew_; clear hg_ hnew_; (first | rw [← Ny115.out] at ho16 | (simp only [Int.reduceToNat] at ho16; rw [← Ny115.out] at ho16)); have n0_ := Aside0.mk (Kd.R_elder' (by (with_reducible repeat (first | apply Kd.R_alloc | apply Kd.R_drewN | apply Kd.R_drew)); exact HO112.out) (Kd.R_base ho16) hb); have n1_ := Aside0.mk (Kd.R_lower (Kd.R_new' ho16 (Kd.R_lt (by (with_reducible repeat (first | apply Kd.R_alloc | apply Kd.R_drewN | apply Kd.R_drew)); exact HO112.out))) (below_size (by repeat (first | (with_reducible first | exact HB.out | apply below_alloc | apply pw_below_drewN | apply below_drew1) | exact HB.out)))); have n2_ := Aside0.mk (below_step (by repeat (first | (with_reducible first | exact HB.out | apply below_alloc | apply pw_below_drewN | apply below_drew1) | exact HB.out)) hb); clear HO112; clear HB; have HO112 := n0_; have HO117 := n1_; have HB := n2_; clear n0_ n1_ n2_; clear hb ho16; obtain ⟨Ao17, co17, eo17⟩ := Kd.R_slice HO117.out; subst eo17) | ((with_reducible refine gate_callee (f := 19) rfl ?_); refine goesL_ (some 9) rfl rfl Try.func19 (by kernel_rfl) rfl #[.int .i64 8, .slice Ao17 y115.length co17] rfl (by (try simp only [List.map_toArray, List.map_cons, List.map_nil]); first | done | rfl | (simp only [List.length_drop, List.length_take]; rfl)) ?_; (with_reducible refine (sat_Add.calls 8 _ _ y115 t118 _ ?side1 ?side2 A2.out).mono ?_); (case side1 => repeat (first | exact (Kd.R_reads' HO117.out).2.2 | (with_reducible refine Kd.C_alloc ?_ _) | (with_reducible refine Kd.C_drewN ?_ _) | (with_reducible refine Kd.C_drew ?_))); (case side2 => exact (Kd.R_reads' HO117.out).2.1); rintro e w18 ⟨rfl, hb⟩; refine ⟨_, rfl, ?_⟩; have n0_ := Aside0.mk (Kd.R_below (by (with_reducible repeat (first | apply Kd.R_alloc | apply Kd.R_drewN | apply Kd.R_drew)); exact HO112.out) hb); have n1_ := Aside0.mk (Kd.R_below (by (with_reducible repeat (first | apply Kd.R_alloc | apply Kd.R_drewN | apply Kd.R_drew)); exact HO117.out) hb); have n2_ := Aside0.mk (below_step (by repeat (first | (with_reducible first | exact HB.out | apply below_alloc | apply pw_below_drewN | apply below_drew1) | exact HB.out)) hb); clear HO112; clear HO117; clear HB; have HO112 := n0_; have HO117 := n1_; have HB := n2_; clear n0_ n1_ n2_; (try clear hb); (try clear hb2); (try clear hk); (try clear hi)))
      go_ret
      exact ⟨by first | rfl | (simp only [Int.tdiv_eq_ediv_of_nonneg (show (0 : Int) ≤ 9223372036854775807 by decide), Int.tdiv_eq_ediv_of_nonneg (show (0 : Int) ≤ 9223372036854775808 by decide)] <;> rfl) | (simp [errW_none, errW_some] <;> rfl) | (simp [*, errW_none, errW_some] <;> rfl), by repeat (first | (with_reducible first | exact HB.out | apply below_alloc | apply pw_below_drewN | apply below_drew1) | exact HB.out)⟩
  · rw [if_neg c3] at H
    have c3b0 : (t118 == 126) = false := beq_eq_false_iff_ne.mpr c3
    have c3b1 : (t118 != 126) = true := bne_iff_ne.mpr c3
    obtain rfl := Option.some.inj H
    go_enter Try.func13, Try.ntmps13
    go_wp2_with (first | ((with_reducible refine gate_dst (N := 4) rfl ?_); refine Kd.R_lit (Kd.int .i64) _ 3 ?hg (N := 4) ?hd (xs := ([9223372036854775807, 1, (-1)] : List Int)) (inner := [.int .i64 9223372036854775807, .int .i64 1, .int .i64 (-1)]) (ok := fun _ => True) (okp := fun _ => True) ?hr ?hp (fun _ hk => hk) trivial (Below.refl _ _) (Nat.le_refl _) (by simp) ?_; (case hd => rfl); (case hg => rfl); (case hr => first | (go_simp; done) | (go_simp; rfl)); (case hp => exact (Reps.one (show Kd.M (Kd.int .i64) _ _ _ 9223372036854775807 [.int .i64 9223372036854775807] from rfl) (Reps.one (show Kd.M (Kd.int .i64) _ _ _ 1 [.int .i64 1] from rfl) (Reps.one (show Kd.M (Kd.int .i64) _ _ _ (-1) [.int .i64 (-1)] from rfl) (Reps.none _ _))))); intro v111 w19 ho20 hb hg_ hnew_; clear hg_ hnew_; (first | rw [← Ny110.out] at ho20 | (simp only [Int.reduceToNat] at ho20; rw [← Ny110.out] at ho20)); have n0_ := Aside0.mk (Kd.R_lower ho20 (below_size (by repeat (first | (with_reducible first | exact HB.out | apply below_alloc | apply pw_below_drewN | apply below_drew1) | exact HB.out)))); have n1_ := Aside0.mk (below_step (by repeat (first | (with_reducible first | exact HB.out | apply below_alloc | apply pw_below_drewN | apply below_drew1) | exact HB.out)) hb); clear HB; have HO112 := n0_; have HB := n1_; clear n0_ n1_; clear hb ho20; obtain ⟨Ao21, co21, eo21⟩ := Kd.R_slice HO112.out; subst eo21) | ((with_reducible refine gate_callee (f := 18) rfl ?_); refine goesL_ (some 5) rfl rfl Try.func18 (by kernel_rfl) rfl #[.slice Ao21 y110.length co21] rfl (by (try simp only [List.map_toArray, List.map_cons, List.map_nil]); first | done | rfl | (simp only [List.length_drop, List.length_take]; rfl)) ?_; (with_reducible refine (sat_Sum.calls k _ _ y110 t113 t114 _ ?side1 ?side2 A1.out).mono ?_); (case side1 => repeat (first | exact (Kd.R_reads' HO112.out).2.2 | (with_reducible refine Kd.C_alloc ?_ _) | (with_reducible refine Kd.C_drewN ?_ _) | (with_reducible refine Kd.C_drew ?_))); (case side2 => exact (Kd.R_reads' HO112.out).2.1); rintro e w' ⟨rfl, ⟨nd, rfl⟩⟩; refine ⟨_, rfl, ?_⟩) | ((with_reducible refine gate_dst (N := 8) rfl ?_); refine Kd.R_lit (Kd.int .i64) _ 3 ?hg (N := 8) ?hd (xs := ([100, 100, (-1)] : List Int)) (inner := [.int .i64 100, .int .i64 100, .int .i64 (-1)]) (ok := fun _ => True) (okp := fun _ => True) ?hr ?hp (fun _ hk => hk) trivial (Below.refl _ _) (Nat.le_refl _) (by simp) ?_; (case hd => rfl); (case hg => rfl); (case hr => first | (go_simp; done) | (go_simp; rfl)); (case hp => exact (Reps.one (show Kd.M (Kd.int .i64) _ _ _ 100 [.int .i64 100] from rfl) (Reps.one (show Kd.M (Kd.int .i64) _ _ _ 100 [.int .i64 100] from rfl) (Reps.one (show Kd.M (Kd.int .i64) _ _ _ (-1) [.int .i64 (-1)] from rfl) (Reps.none _ _))))); intro v116 w22 ho23 hb hg_ hnew_; clear hg_ hnew_; (first | rw [← Ny115.out] at ho23 | (simp only [Int.reduceToNat] at ho23; rw [← Ny115.out] at ho23)); have n0_ := Aside0.mk (Kd.R_elder' (by (with_reducible repeat (first | apply Kd.R_alloc | apply Kd.R_drewN | apply Kd.R_drew)); exact HO112.out) (Kd.R_base ho23) hb); have n1_ := Aside0.mk (Kd.R_lower (Kd.R_new' ho23 (Kd.R_lt (by (with_reducible repeat (first | apply Kd.R_alloc | apply Kd.R_drewN | apply Kd.R_drew)); exact HO112.out))) (below_size (by repeat (first | (with_reducible first | exact HB.out | apply below_alloc | apply pw_below_drewN | apply below_drew1) | exact HB.out)))); have n2_ := Aside0.mk (below_step (by repeat (first | (with_reducible first | exact HB.out | apply below_alloc | apply pw_below_drewN | apply below_drew1) | exact HB.out)) hb); clear HO112; clear HB; have HO112 := n0_; have HO117 := n1_; have HB := n2_; clear n0_ n1_ n2_; clear hb ho23; obtain ⟨Ao24, co24, eo24⟩ := Kd.R_slice HO117.out; subst eo24) | ((with_reducible refine gate_callee (f := 19) rfl ?_); refine goesL_ (some 9) rfl rfl Try.func19 (by kernel_rfl) rfl #[.int .i64 8, .slice Ao24 y115.length co24] rfl (by (try simp only [List.map_toArray, List.map_cons, List.map_nil]); first | done | rfl | (simp only [List.length_drop, List.length_take]; rfl)) ?_; (with_reducible refine (sat_Add.calls 8 _ _ y115 t118 _ ?side1 ?side2 A2.out).mono ?_); (case side1 => repeat (first | exact (Kd.R_reads' HO117.out).2.2 | (with_reducible refine Kd.C_alloc ?_ _) | (with_reducible refine Kd.C_drewN ?_ _) | (with_reducible refine Kd.C_drew ?_))); (case side2 => exact (Kd.R_reads' HO117.out).2.1); rintro e w25 ⟨rfl, hb⟩; refine ⟨_, rfl, ?_⟩; have n0_ := Aside0.mk (Kd.R_below (by (with_reducible repeat (first | apply Kd.R_alloc | apply Kd.R_drewN | apply Kd.R_drew)); exact HO112.out) hb); have n1_ := Aside0.mk (Kd.R_below (by (with_reducible repeat (first | apply Kd.R_alloc | apply Kd.R_drewN | apply Kd.R_drew)); exact HO117.out) hb); have n2_ := Aside0.mk (below_step (by repeat (first | (with_reducible first | exact HB.out | apply below_alloc | apply pw_below_drewN | apply below_drew1) | exact HB.out)) hb); clear HO112; clear HO117; clear HB; have HO112 := n0_; have HO117 := n1_; have HB := n2_; clear n0_ n1_ n2_; (try clear hb); (try clear hb2); (try clear hk); (try clear hi)))
    go_ret
    exact ⟨by first | rfl | (simp only [Int.tdiv_eq_ediv_of_nonneg (show (0 : Int) ≤ 9223372036854775807 by decide), Int.tdiv_eq_ediv_of_nonneg (show (0 : Int) ≤ 9223372036854775808 by decide)] <;> rfl) | (simp [errW_none, errW_some] <;> rfl) | (simp [*, errW_none, errW_some] <;> rfl), by repeat (first | (with_reducible first | exact HB.out | apply below_alloc | apply pw_below_drewN | apply below_drew1) | exact HB.out)⟩

/-! ### earshotlaw01_few: function 17 -/
def earshotlaw01_few.f (l0 : List Int) : Option (List Int) := if (l0.length : Int) > 40 then (if 40 ≤ (l0.length : Int) then (some (l0.take 40)) else (none)) else (some l0)
set_option maxHeartbeats 8000000 in
set_option maxRecDepth 100000 in
theorem earshotlaw01_few.calls (P0_ : Nat → Prop) (A0 : Option Addr) (c0 : Nat) (l0 : List Int) (r : List Int) (w : World) (hs0 : Kd.V (Kd.int .i64) 3 w w.heap.size (fun k_ => P0_ k_) (.slice A0 l0.length c0) l0) (h : earshotlaw01_few.f l0 = some r) :
    Calls Try.prog 17 #[.slice A0 l0.length c0] w fun e w' => ∃ v0_ : Value, e = .returned (v0_) ∧ Kd.V (Kd.int .i64) 3 w' w.heap.size (fun k_ => (P0_ k_ ∨ w.heap.size ≤ k_)) v0_ r ∧ Below w.heap.size w w' := by
  have HO0 := Aside0.mk (show Kd.V (Kd.int .i64) 3 w w.heap.size (fun k_ => (P0_ k_ ∨ w.heap.size ≤ k_)) (.slice A0 l0.length c0) l0 from Kd.V_mono hs0 (fun k_ hk => .inl hk))
  have HB := Aside0.mk (Below.refl w.heap.size w)
  have H : (if (l0.length : Int) > 40 then (if 40 ≤ (l0.length : Int) then (some (l0.take 40)) else (none)) else (some l0)) = some r := h
  clear h
  by_cases c2 : (l0.length : Int) > 40
  · rw [if_pos c2] at H
    have c2b0 : decide (40 < (l0.length : Int)) = true := decide_eq_true c2
    have c2b1 : decide (40 < l0.length) = true := decide_eq_true (by omega)
    clear c2
    by_cases c3 : 40 ≤ (l0.length : Int)
    · rw [if_pos c3] at H
      have c3b0 := eq_true c3
      have c3b1 : decide (40 ≤ (l0.length : Int)) = true := decide_eq_true c3
      clear c3
      obtain ⟨y119, hy119⟩ : ∃ y_ : List Int, y_ = (l0.take 40) := ⟨_, rfl⟩
      replace H : (some y119) = some r := by first | (rw [hy119]; with_reducible exact H) | (have H2_ := (Option.bind_some _ _).symm.trans H; rw [hy119]; with_reducible exact H2_) | (have H2_ := (Option.bind_some _ _).symm.trans H; with_reducible exact H2_) | with_reducible exact H | (rw [hy119]; exact H) | exact H
      have Ny119 := Aside0.mk hy119
      clear hy119
      obtain rfl := Option.some.inj H
      have q4 : (40 : Int) ≤ ((l0.length : Int) : Int) := of_decide_eq_true (by first | (with_reducible assumption) | assumption)
      obtain ⟨i04, hi04, _, hsz4, _⟩ := info_parts info3
      have hroom4 : l0.length ≤ c0 := (Kd.V_reads' HO0.out).2.1
      have hC4 : Kd.F (Kd.int .i64) _ _ A0 l0.length l0 := (Kd.V_at (base := w.heap.size) HO0.out).2.2
      have hcut4 := cut_to (P := Try.prog) 27 3 .i64 Try.underlying27 hi04 A0 l0.length c0 40 (by omega) q4 hroom4
      have hr4 := Kd.F_take (m := 40) hC4 (by omega)
      have hy4 : y119.length = (40 : Int).toNat := (by rw [Ny119.out, List.length_take]; omega)
      rw [← Ny119.out] at hr4
      rw [← hy4] at hcut4
      have HO123 := Aside0.mk (show Kd.V (Kd.int .i64) 3 _ w.heap.size _ (.slice A0 y119.length c0) y119 from Kd.V_mk (by omega) hr4)
      have HC123 := Aside0.mk (show y119.length ≤ c0 from by omega)
      clear hr4 hC4 hroom4 hi04 hsz4
      have KY4 := Aside0.mk hy4
      clear hy4
      replace q4 := eq_true q4
      go_enter Try.func17, Try.ntmps17
      go_wp2
      go_ret
      exact ⟨_, by first | rfl | (simp only [Int.tdiv_eq_ediv_of_nonneg (show (0 : Int) ≤ 9223372036854775807 by decide), Int.tdiv_eq_ediv_of_nonneg (show (0 : Int) ≤ 9223372036854775808 by decide)] <;> rfl) | (simp [errW_none, errW_some] <;> rfl) | (simp [*, errW_none, errW_some] <;> rfl), by (with_reducible repeat (first | apply Kd.V_alloc | apply Kd.V_drewN | apply Kd.V_drew)); exact HO123.out, by repeat (first | (with_reducible first | exact HB.out | apply below_alloc | apply pw_below_drewN | apply below_drew1) | exact HB.out)⟩
    · rw [if_neg c3] at H
      exact absurd H (by simp)
  · rw [if_neg c2] at H
    have c2b0 : decide (40 < (l0.length : Int)) = false := decide_eq_false c2
    have c2b1 : decide (40 < l0.length) = false := decide_eq_false (by omega)
    clear c2
    obtain rfl := Option.some.inj H
    go_enter Try.func17, Try.ntmps17
    go_wp2
    go_ret
    exact ⟨_, by first | rfl | (simp only [Int.tdiv_eq_ediv_of_nonneg (show (0 : Int) ≤ 9223372036854775807 by decide), Int.tdiv_eq_ediv_of_nonneg (show (0 : Int) ≤ 9223372036854775808 by decide)] <;> rfl) | (simp [errW_none, errW_some] <;> rfl) | (simp [*, errW_none, errW_some] <;> rfl), by (with_reducible repeat (first | apply Kd.V_alloc | apply Kd.V_drewN | apply Kd.V_drew)); exact HO0.out, by repeat (first | (with_reducible first | exact HB.out | apply below_alloc | apply pw_below_drewN | apply below_drew1) | exact HB.out)⟩

/-! ### earshotlaw01_SatAdds: function 5 -/
mutual
def earshotlaw01_SatAdds.l0 : Nat → List Int → Bool → Int → Int → Int → Int → Int → Bool → Int → Option (Bool)
  | 0, _, _, _, _, _, _, _, _, _ => none
  | k + 1, x0, x7, x8, x9, x10, x11, x12, x13, x14 => if x14 < (x0.length : Int) then (earshotlaw01_SatAdds.j1 k x0 x7 x8 x9 x10 x11 x12 x13 x14 (!x13)) else (earshotlaw01_SatAdds.j1 k x0 x7 x8 x9 x10 x11 x12 x13 x14 false)
def earshotlaw01_SatAdds.j1 : Nat → List Int → Bool → Int → Int → Int → Int → Int → Bool → Int → Bool → Option (Bool)
  | 0, _, _, _, _, _, _, _, _, _, _ => none
  | k + 1, x0, x7, x8, x9, x10, x11, x12, x13, x14, x43 => if x43 = true then (if 0 ≤ x14 then (if x14 < (x0.length : Int) then ((sat_Fits.f (rd x0 x14) 62).bind fun t142 => (if t142 = true then ((sat_Fits.f (wrap64 (x12 + (rd x0 x14))) x8).bind fun t144 => (earshotlaw01_SatAdds.l0 k x0 x7 x8 x9 x10 x11 (wrap64 (x12 + (rd x0 x14))) (!t144) (wrap64 (x14 + 1)))) else (earshotlaw01_SatAdds.l0 k x0 x7 x8 x9 x10 x11 x12 (!t142) (wrap64 (x14 + 1))))) else (none)) else (none)) else (if x7 = true then ((sat_Fits.f x10 x8).bind fun t139 => (if t139 = true then ((sat_Sat.f (wrap64 (x10 + x9)) x8).bind fun t140 => (if x11 = t140 then (if x13 = true then (some true) else (some (x10 == x12))) else (some false))) else (some false))) else (some false))
end
def earshotlaw01_SatAdds.f (k : Nat) (l0 : List Int) (a1 : Int) (a2 : Int) : Option (Bool) := (earshotlaw01_awake.f k).bind fun t124 => ((earshotlaw01_few.f l0).bind fun t125 => ((sat_Add.f (wrap64 (1 + (Int.tmod (wrap64 ((Int.tmod a2 62) + 62)) 62))) t125).bind fun t128 => ((some (([] : List Int) : List Int)).bind fun y129 => (if y129.length + t125.length < 17592186044416 then ((some (y129 ++ t125 : List Int)).bind fun y132 => (if y132.length < 17592186044416 then ((sat_Add.f (wrap64 (1 + (Int.tmod (wrap64 ((Int.tmod a2 62) + 62)) 62))) (y132 ++ [a1 / 4])).bind fun t138 => (earshotlaw01_SatAdds.l0 k t125 t124 (wrap64 (1 + (Int.tmod (wrap64 ((Int.tmod a2 62) + 62)) 62))) (a1 / 4) t128 t138 0 false 0)) else (none))) else (none)))))
theorem earshotlaw01_SatAdds.mono_l : ∀ k, (∀ y0 y1 y2 y3 y4 y5 y6 y7 y8, LeO (earshotlaw01_SatAdds.l0 k y0 y1 y2 y3 y4 y5 y6 y7 y8) (earshotlaw01_SatAdds.l0 (k + 1) y0 y1 y2 y3 y4 y5 y6 y7 y8)) ∧ (∀ y0 y1 y2 y3 y4 y5 y6 y7 y8 y9, LeO (earshotlaw01_SatAdds.j1 k y0 y1 y2 y3 y4 y5 y6 y7 y8 y9) (earshotlaw01_SatAdds.j1 (k + 1) y0 y1 y2 y3 y4 y5 y6 y7 y8 y9))
  | 0 => ⟨fun _ _ _ _ _ _ _ _ _ r h => by simp [earshotlaw01_SatAdds.l0] at h, fun _ _ _ _ _ _ _ _ _ _ r h => by simp [earshotlaw01_SatAdds.j1] at h⟩
  | k + 1 => by
    obtain ⟨ih0, ih1⟩ := earshotlaw01_SatAdds.mono_l k
    refine ⟨?_, ?_⟩
    · intro y0 y1 y2 y3 y4 y5 y6 y7 y8
      unfold earshotlaw01_SatAdds.l0
      repeat' first
      | (with_reducible exact ih0 _ _ _ _ _ _ _ _ _)
      | (with_reducible exact ih1 _ _ _ _ _ _ _ _ _ _)
      | (with_reducible exact earshotlaw01_awake.mono _)
      | (with_reducible exact LeO.refl _)
      | (with_reducible exact LeO.none _)
      | (with_reducible refine LeO.ite ?_ ?_)
      | (with_reducible refine LeO.bind ?_ (fun _ => ?_))
      | exact ih0 _ _ _ _ _ _ _ _ _
      | exact ih1 _ _ _ _ _ _ _ _ _ _
      | exact earshotlaw01_awake.mono _
      | exact LeO.none _
      | refine LeO.ite ?_ ?_
      | refine LeO.bind ?_ (fun _ => ?_)
    · intro y0 y1 y2 y3 y4 y5 y6 y7 y8 y9
      unfold earshotlaw01_SatAdds.j1
      repeat' first
      | (with_reducible exact ih0 _ _ _ _ _ _ _ _ _)
      | (with_reducible exact ih1 _ _ _ _ _ _ _ _ _ _)
      | (with_reducible exact earshotlaw01_awake.mono _)
      | (with_reducible exact LeO.refl _)
      | (with_reducible exact LeO.none _)
      | (with_reducible refine LeO.ite ?_ ?_)
      | (with_reducible refine LeO.bind ?_ (fun _ => ?_))
      | exact ih0 _ _ _ _ _ _ _ _ _
      | exact ih1 _ _ _ _ _ _ _ _ _ _
      | exact earshotlaw01_awake.mono _
      | exact LeO.none _
      | refine LeO.ite ?_ ?_
      | refine LeO.bind ?_ (fun _ => ?_)
theorem earshotlaw01_SatAdds.mono : ∀ a0 a1 a2 k, LeO (earshotlaw01_SatAdds.f k a0 a1 a2) (earshotlaw01_SatAdds.f (k + 1) a0 a1 a2) := by
  intro a0 a1 a2 k
  obtain ⟨ih0, ih1⟩ := earshotlaw01_SatAdds.mono_l k
  unfold earshotlaw01_SatAdds.f
  repeat' first
      | (with_reducible exact ih0 _ _ _ _ _ _ _ _ _)
      | (with_reducible exact ih1 _ _ _ _ _ _ _ _ _ _)
      | (with_reducible exact earshotlaw01_awake.mono _)
      | (with_reducible exact LeO.refl _)
      | (with_reducible exact LeO.none _)
      | (with_reducible refine LeO.ite ?_ ?_)
      | (with_reducible refine LeO.bind ?_ (fun _ => ?_))
      | exact ih0 _ _ _ _ _ _ _ _ _
      | exact ih1 _ _ _ _ _ _ _ _ _ _
      | exact earshotlaw01_awake.mono _
      | exact LeO.none _
      | refine LeO.ite ?_ ?_
      | refine LeO.bind ?_ (fun _ => ?_)
set_option maxHeartbeats 8000000 in
set_option maxRecDepth 100000 in
theorem earshotlaw01_SatAdds.calls (k : Nat) (A0 : Option Addr) (c0 : Nat) (l0 : List Int) (a1 : Int) (a2 : Int) (r : Bool) (w : World) (hr0 : Kd.C (Kd.int .i64) w A0 l0.length l0) (hc0 : l0.length ≤ c0) (h : earshotlaw01_SatAdds.f k l0 a1 a2 = some r) :
    Calls Try.prog 5 #[.slice A0 l0.length c0, .int .i64 a1, .int .i64 a2] w fun e w' => e = .returned (.bool r) ∧ Below w.heap.size w w' := by
  have HR0 := Aside0.mk hr0
  have HC0 := Aside0.mk hc0
  clear hr0 hc0
  have HB := Aside0.mk (Below.refl w.heap.size w)
  have H : ((earshotlaw01_awake.f k).bind fun t124 => ((earshotlaw01_few.f l0).bind fun t125 => ((sat_Add.f (wrap64 (1 + (Int.tmod (wrap64 ((Int.tmod a2 62) + 62)) 62))) t125).bind fun t128 => ((some (([] : List Int) : List Int)).bind fun y129 => (if y129.length + t125.length < 17592186044416 then ((some (y129 ++ t125 : List Int)).bind fun y132 => (if y132.length < 17592186044416 then ((sat_Add.f (wrap64 (1 + (Int.tmod (wrap64 ((Int.tmod a2 62) + 62)) 62))) (y132 ++ [a1 / 4])).bind fun t138 => (earshotlaw01_SatAdds.l0 k t125 t124 (wrap64 (1 + (Int.tmod (wrap64 ((Int.tmod a2 62) + 62)) 62))) (a1 / 4) t128 t138 0 false 0)) else (none))) else (none)))))) = some r := h
  clear h
  replace H := Option.bind_eq_some_iff.mp H
  obtain ⟨t124, A40, H⟩ := H
  replace H : ((earshotlaw01_few.f l0).bind fun t125 => ((sat_Add.f (wrap64 (1 + (Int.tmod (wrap64 ((Int.tmod a2 62) + 62)) 62))) t125).bind fun t128 => ((some (([] : List Int) : List Int)).bind fun y129 => (if y129.length + t125.length < 17592186044416 then ((some (y129 ++ t125 : List Int)).bind fun y132 => (if y132.length < 17592186044416 then ((sat_Add.f (wrap64 (1 + (Int.tmod (wrap64 ((Int.tmod a2 62) + 62)) 62))) (y132 ++ [a1 / 4])).bind fun t138 => (earshotlaw01_SatAdds.l0 k t125 t124 (wrap64 (1 + (Int.tmod (wrap64 ((Int.tmod a2 62) + 62)) 62))) (a1 / 4) t128 t138 0 false 0)) else (none))) else (none))))) = some r := H
  have A4 := Aside0.mk A40
  clear A40
  replace H := Option.bind_eq_some_iff.mp H
  obtain ⟨t125, A50, H⟩ := H
  replace H : ((sat_Add.f (wrap64 (1 + (Int.tmod (wrap64 ((Int.tmod a2 62) + 62)) 62))) t125).bind fun t128 => ((some (([] : List Int) : List Int)).bind fun y129 => (if y129.length + t125.length < 17592186044416 then ((some (y129 ++ t125 : List Int)).bind fun y132 => (if y132.length < 17592186044416 then ((sat_Add.f (wrap64 (1 + (Int.tmod (wrap64 ((Int.tmod a2 62) + 62)) 62))) (y132 ++ [a1 / 4])).bind fun t138 => (earshotlaw01_SatAdds.l0 k t125 t124 (wrap64 (1 + (Int.tmod (wrap64 ((Int.tmod a2 62) + 62)) 62))) (a1 / 4) t128 t138 0 false 0)) else (none))) else (none)))) = some r := H
  have A5 := Aside0.mk A50
  clear A50
  replace H := Option.bind_eq_some_iff.mp H
  obtain ⟨t128, A60, H⟩ := H
  replace H : ((some (([] : List Int) : List Int)).bind fun y129 => (if y129.length + t125.length < 17592186044416 then ((some (y129 ++ t125 : List Int)).bind fun y132 => (if y132.length < 17592186044416 then ((sat_Add.f (wrap64 (1 + (Int.tmod (wrap64 ((Int.tmod a2 62) + 62)) 62))) (y132 ++ [a1 / 4])).bind fun t138 => (earshotlaw01_SatAdds.l0 k t125 t124 (wrap64 (1 + (Int.tmod (wrap64 ((Int.tmod a2 62) + 62)) 62))) (a1 / 4) t128 t138 0 false 0)) else (none))) else (none))) = some r := H
  have A6 := Aside0.mk A60
  clear A60
  obtain ⟨y129, hy129⟩ : ∃ y_ : List Int, y_ = (([] : List Int)) := ⟨_, rfl⟩
  replace H : (if y129.length + t125.length < 17592186044416 then ((some (y129 ++ t125 : List Int)).bind fun y132 => (if y132.length < 17592186044416 then ((sat_Add.f (wrap64 (1 + (Int.tmod (wrap64 ((Int.tmod a2 62) + 62)) 62))) (y132 ++ [a1 / 4])).bind fun t138 => (earshotlaw01_SatAdds.l0 k t125 t124 (wrap64 (1 + (Int.tmod (wrap64 ((Int.tmod a2 62) + 62)) 62))) (a1 / 4) t128 t138 0 false 0)) else (none))) else (none)) = some r := by first | (rw [hy129]; with_reducible exact H) | (have H2_ := (Option.bind_some _ _).symm.trans H; rw [hy129]; with_reducible exact H2_) | (have H2_ := (Option.bind_some _ _).symm.trans H; with_reducible exact H2_) | with_reducible exact H | (rw [hy129]; exact H) | exact H
  have Ny129 := Aside0.mk hy129
  clear hy129
  by_cases c7 : y129.length + t125.length < 17592186044416
  · rw [if_pos c7] at H
    have LMc7 := Aside0.mk c7
    clear c7
    obtain ⟨y132, hy132⟩ : ∃ y_ : List Int, y_ = (y129 ++ t125) := ⟨_, rfl⟩
    replace H : (if y132.length < 17592186044416 then ((sat_Add.f (wrap64 (1 + (Int.tmod (wrap64 ((Int.tmod a2 62) + 62)) 62))) (y132 ++ [a1 / 4])).bind fun t138 => (earshotlaw01_SatAdds.l0 k t125 t124 (wrap64 (1 + (Int.tmod (wrap64 ((Int.tmod a2 62) + 62)) 62))) (a1 / 4) t128 t138 0 false 0)) else (none)) = some r := by first | (rw [hy132]; with_reducible exact H) | (have H2_ := (Option.bind_some _ _).symm.trans H; rw [hy132]; with_reducible exact H2_) | (have H2_ := (Option.bind_some _ _).symm.trans H; with_reducible exact H2_) | with_reducible exact H | (rw [hy132]; exact H) | exact H
    have Ny132 := Aside0.mk hy132
    clear hy132
    by_cases c8 : y132.length < 17592186044416
    · rw [if_pos c8] at H
      have LMc8 := Aside0.mk c8
      clear c8
      obtain ⟨y135, hy135⟩ : ∃ y_ : List Int, y_ = (y132 ++ [a1 / 4]) := ⟨_, rfl⟩
      replace H : ((sat_Add.f (wrap64 (1 + (Int.tmod (wrap64 ((Int.tmod a2 62) + 62)) 62))) y135).bind fun t138 => (earshotlaw01_SatAdds.l0 k t125 t124 (wrap64 (1 + (Int.tmod (wrap64 ((Int.tmod a2 62) + 62)) 62))) (a1 / 4) t128 t138 0 false 0)) = some r := by first | (rw [hy135]; with_reducible exact H) | (have H2_ := (Option.bind_some _ _).symm.trans H; rw [hy135]; with_reducible exact H2_) | (have H2_ := (Option.bind_some _ _).symm.trans H; with_reducible exact H2_) | with_reducible exact H | (rw [hy135]; exact H) | exact H
      have Ny135 := Aside0.mk hy135
      clear hy135
      replace H := Option.bind_eq_some_iff.mp H
      obtain ⟨t138, A90, H⟩ := H
      replace H : (earshotlaw01_SatAdds.l0 k t125 t124 (wrap64 (1 + (Int.tmod (wrap64 ((Int.tmod a2 62) + 62)) 62))) (a1 / 4) t128 t138 0 false 0) = some r := H
      have A9 := Aside0.mk A90
      clear A90
      have H' := Aside0.mk H
      clear H
      go_enter Try.func5, Try.ntmps5
      go_wp2_with (first | ((with_reducible refine gate_callee (f := 13) rfl ?_); refine goesL_ (some 15) rfl rfl Try.func13 (by kernel_rfl) rfl #[] rfl (by (try simp only [List.map_toArray, List.map_cons, List.map_nil]); first | done | rfl | (simp only [List.length_drop, List.length_take]; rfl)) ?_; (with_reducible refine (earshotlaw01_awake.calls k  t124 _ A4.out).mono ?_); rintro e w10 ⟨rfl, hb⟩; refine ⟨_, rfl, ?_⟩; have n0_ := Aside0.mk (below_step (by repeat (first | (with_reducible first | exact HB.out | apply below_alloc | apply pw_below_drewN | apply below_drew1) | exact HB.out)) hb); clear HB; have HB := n0_; clear n0_; (try clear hb); (try clear hb2); (try clear hk); (try clear hi)) | ((with_reducible refine gate_callee (f := 17) rfl ?_); refine goesL_ (some 17) rfl rfl Try.func17 (by kernel_rfl) rfl #[.slice A0 l0.length c0] rfl (by (try simp only [List.map_toArray, List.map_cons, List.map_nil]); first | done | rfl | (simp only [List.length_drop, List.length_take]; rfl)) ?_; (with_reducible refine (earshotlaw01_few.calls (fun k_ => k_ < w.heap.size) _ _ l0 t125 _ ?side1 A5.out).mono ?_); (case side1 => exact Kd.V_mk HC0.out (Kd.F_below (Kd.C_F (Kd.heap_int .i64) HR0.out) (by repeat (first | (with_reducible first | exact HB.out | apply below_alloc | apply pw_below_drewN | apply below_drew1) | exact HB.out)))); rintro e w11 ⟨v126, rfl, ho0, hb⟩; refine ⟨_, rfl, ?_⟩; have n0_ := Aside0.mk (Kd.V_lower (Kd.V_mono (ok' := fun k_ => True) ho0 (fun k_ hk_ => trivial)) (below_size (by repeat (first | (with_reducible first | exact HB.out | apply below_alloc | apply pw_below_drewN | apply below_drew1) | exact HB.out)))); have n1_ := Aside0.mk (below_step (by repeat (first | (with_reducible first | exact HB.out | apply below_alloc | apply pw_below_drewN | apply below_drew1) | exact HB.out)) hb); clear HB; have HO127 := n0_; have HB := n1_; clear n0_ n1_; (try clear hb); (try clear hb2); (try clear hk); (try clear hi); (try clear ho0); obtain ⟨Ao12, co12, eo12⟩ := Kd.V_slice HO127.out; subst eo12) | ((with_reducible refine gate_callee (f := 19) rfl ?_); refine goesL_ (some 27) rfl rfl Try.func19 (by kernel_rfl) rfl #[.int .i64 (wrap64 (1 + (Int.tmod (wrap64 ((Int.tmod a2 62) + 62)) 62))), .slice Ao12 t125.length co12] rfl (by (try simp only [List.map_toArray, List.map_cons, List.map_nil]); first | done | rfl | (simp only [List.length_drop, List.length_take]; rfl)) ?_; (with_reducible refine (sat_Add.calls (wrap64 (1 + (Int.tmod (wrap64 ((Int.tmod a2 62) + 62)) 62))) _ _ t125 t128 _ ?side1 ?side2 A6.out).mono ?_); (case side1 => repeat (first | exact (Kd.V_reads' HO127.out).2.2 | (with_reducible refine Kd.C_alloc ?_ _) | (with_reducible refine Kd.C_drewN ?_ _) | (with_reducible refine Kd.C_drew ?_))); (case side2 => exact (Kd.V_reads' HO127.out).2.1); rintro e w13 ⟨rfl, hb⟩; refine ⟨_, rfl, ?_⟩; have n0_ := Aside0.mk (Kd.V_below (by (with_reducible repeat (first | apply Kd.V_alloc | apply Kd.V_drewN | apply Kd.V_drew)); exact HO127.out) hb); have n1_ := Aside0.mk (below_step (by repeat (first | (with_reducible first | exact HB.out | apply below_alloc | apply pw_below_drewN | apply below_drew1) | exact HB.out)) hb); clear HO127; clear HB; have HO127 := n0_; have HB := n1_; clear n0_ n1_; (try clear hb); (try clear hb2); (try clear hk); (try clear hi)) | ((with_reducible refine gate_dst (N := 29) rfl ?_); refine Kd.R_lit (Kd.int .i64) _ 3 ?hg (N := 29) ?hd (xs := ([] : List Int)) (inner := []) (ok := fun _ => True) (okp := fun _ => True) ?hr ?hp (fun _ hk => hk) trivial (Below.refl _ _) (Nat.le_refl _) (by simp) ?_; (case hd => rfl); (case hg => rfl); (case hr => first | (go_simp; done) | (go_simp; rfl)); (case hp => exact (Reps.none _ _)); intro v130 w14 ho15 hb hg_ hnew_; clear hg_ hnew_; (first | rw [← Ny129.out] at ho15 | (simp only [Int.reduceToNat] at ho15; rw [← Ny129.out] at ho15)); have n0_ := Aside0.mk (Kd.V_elder' (by (with_reducible repeat (first | apply Kd.V_alloc | apply Kd.V_drewN | apply Kd.V_drew)); exact HO127.out) (Kd.R_base ho15) hb); have n1_ := Aside0.mk (Kd.R_lower ho15 (below_size (by repeat (first | (with_reducible first | exact HB.out | apply below_alloc | apply pw_below_drewN | apply below_drew1) | exact HB.out)))); have n2_ := Aside0.mk (below_step (by repeat (first | (with_reducible first | exact HB.out | apply below_alloc | apply pw_below_drewN | apply below_drew1) | exact HB.out)) hb); clear HO127; clear HB; have HO127 := n0_; have HO131 := n1_; have HB := n2_; clear n0_ n1_ n2_; clear hb ho15) | ((with_reducible refine gate_builtin (b := .append) (xs := #[.tmp 29, .tmp 30]) rfl ?_); at_builtin; refine Kd.R_append_rows (Kd.int .i64) (w0 := w) w.heap.size rfl (.tmp 29) (.tmp 30) 27 3 (.int .i64 0) 8 rfl Try.underlying27 info3 rfl (by decide) (by omega) v130 y129 t125 _ _ _ (fun _ => True) (fun _ => False) rfl rfl ?aO ?aR (fun _ _ h => h) (fun _ h => h.elim) ?aF ?aB ?aS ?aL ?_; (case aR => repeat (first | exact (Kd.V_reads' HO127.out).2.2 | (with_reducible refine Kd.C_alloc ?_ _) | (with_reducible refine Kd.C_drewN ?_ _) | (with_reducible refine Kd.C_drew ?_))); (case aB => exact (by repeat (first | (with_reducible first | exact HB.out | apply below_alloc | apply pw_below_drewN | apply below_drew1) | exact HB.out))); (case aF => exact (fun _ _ => trivial)); (case aO => exact (by (with_reducible repeat (first | apply Kd.R_alloc | apply Kd.R_drewN | apply Kd.R_drew)); exact HO131.out)); (case aS => exact (below_size (by repeat (first | (with_reducible first | exact HB.out | apply below_alloc | apply pw_below_drewN | apply below_drew1) | exact HB.out)))); (case aL => have := LMc7.out; omega); intro v133 w16 ho hb hg hat; rw [← Ny132.out] at ho; have n0_ := Aside0.mk (Kd.V_afterv (ok := (fun _ => True)) (by (with_reducible repeat (first | apply Kd.V_alloc | apply Kd.V_drewN | apply Kd.V_drew)); exact HO127.out) hg hat); have n1_ := Aside0.mk (hb); have n2_ := Aside0.mk (ho); clear HO127; clear HB; clear HO131; have HO127 := n0_; have HB := n1_; have HO134 := n2_; clear n0_ n1_ n2_; clear ho hb hg hat) | ((with_reducible refine gate_builtin (b := .append) (xs := #[.tmp 31, .tmp 33]) rfl ?_); at_builtin; refine Kd.R_append (Kd.int .i64) (w0 := w) w.heap.size rfl (.tmp 31) (.tmp 33) 27 3 (.int .i64 0) 8 rfl Try.underlying27 info3 rfl (by decide) (by omega) v133 y132 (a1 / 4) [.int .i64 (a1 / 4)] (fun _ => True) (fun _ => False) rfl rfl ?aP (fun _ hk => hk.elim) ?aF ?aO ?aB ?aS ?aL ?_; (case aP => exact rfl); (case aB => exact (by repeat (first | (with_reducible first | exact HB.out | apply below_alloc | apply pw_below_drewN | apply below_drew1) | exact HB.out))); (case aF => exact (fun _ _ => trivial)); (case aO => exact (by (with_reducible repeat (first | apply Kd.R_alloc | apply Kd.R_drewN | apply Kd.R_drew)); exact HO134.out)); (case aS => exact (below_size (by repeat (first | (with_reducible first | exact HB.out | apply below_alloc | apply pw_below_drewN | apply below_drew1) | exact HB.out)))); (case aL => have := LMc8.out; omega); intro v136 w17 ho hb hg hat; rw [← Ny135.out] at ho; have n0_ := Aside0.mk (Kd.V_afterv (ok := (fun _ => True)) (by (with_reducible repeat (first | apply Kd.V_alloc | apply Kd.V_drewN | apply Kd.V_drew)); exact HO127.out) hg hat); have n1_ := Aside0.mk (hb); have n2_ := Aside0.mk (ho); clear HO127; clear HB; clear HO134; have HO127 := n0_; have HB := n1_; have HO137 := n2_; clear n0_ n1_ n2_; clear ho hb hg hat; obtain ⟨Ao18, co18, eo18⟩ := Kd.R_slice HO137.out; subst eo18) | ((with_reducible refine gate_callee (f := 19) rfl ?_); refine goesL_ (some 35) rfl rfl Try.func19 (by kernel_rfl) rfl #[.int .i64 (wrap64 (1 + (Int.tmod (wrap64 ((Int.tmod a2 62) + 62)) 62))), .slice Ao18 y135.length co18] rfl (by (try simp only [List.map_toArray, List.map_cons, List.map_nil]); first | done | rfl | (simp only [List.length_drop, List.length_take]; rfl)) ?_; (with_reducible refine (sat_Add.calls (wrap64 (1 + (Int.tmod (wrap64 ((Int.tmod a2 62) + 62)) 62))) _ _ y135 t138 _ ?side1 ?side2 A9.out).mono ?_); (case side1 => repeat (first | exact (Kd.R_reads' HO137.out).2.2 | (with_reducible refine Kd.C_alloc ?_ _) | (with_reducible refine Kd.C_drewN ?_ _) | (with_reducible refine Kd.C_drew ?_))); (case side2 => exact (Kd.R_reads' HO137.out).2.1); rintro e w19 ⟨rfl, hb⟩; refine ⟨_, rfl, ?_⟩; have n0_ := Aside0.mk (Kd.V_below (by (with_reducible repeat (first | apply Kd.V_alloc | apply Kd.V_drewN | apply Kd.V_drew)); exact HO127.out) hb); have n1_ := Aside0.mk (Kd.R_below (by (with_reducible repeat (first | apply Kd.R_alloc | apply Kd.R_drewN | apply Kd.R_drew)); exact HO137.out) hb); have n2_ := Aside0.mk (below_step (by repeat (first | (with_reducible first | exact HB.out | apply below_alloc | apply pw_below_drewN | apply below_drew1) | exact HB.out)) hb); clear HO127; clear HO137; clear HB; have HO127 := n0_; have HO137 := n1_; have HB := n2_; clear n0_ n1_ n2_; (try clear hb); (try clear hb2); (try clear hk); (try clear hi)))
      go_loopg [12, 13, 14] k (fun kq v12 v13 v14 w' => ∃ (x12_1 : Int) (x13_1 : Bool) (x14_1 : Int), v12 = .int .i64 x12_1 ∧ v13 = .bool x13_1 ∧ v14 = .int .i64 x14_1 ∧ Aside0 (earshotlaw01_SatAdds.l0 kq t125 t124 (wrap64 (1 + (Int.tmod (wrap64 ((Int.tmod a2 62) + 62)) 62))) (a1 / 4) t128 t138 x12_1 x13_1 x14_1 = some r) ∧ Aside0 (kq ≤ k) ∧ Aside0 (Kd.V (Kd.int .i64) 3 w' w.heap.size (fun _ => True) (.slice Ao12 t125.length co12) t125) ∧ Aside0 (Below w.heap.size w w'))
      case atStart => exact ⟨(0), (false), (0), (by first | rfl | (simp; done) | (simp [*]; done)), (by first | rfl | (simp; done) | (simp [*]; done)), (by first | rfl | (simp; done) | (simp [*]; done)), H', ⟨Nat.le_refl _⟩, ⟨by (with_reducible repeat (first | apply Kd.V_alloc | apply Kd.V_drewN | apply Kd.V_drew)); exact Kd.V_mono HO127.out (fun _ hk => trivial)⟩, ⟨by repeat (first | (with_reducible first | exact HB.out | apply below_alloc | apply pw_below_drewN | apply below_drew1) | exact HB.out)⟩⟩
      case round =>
        clear H'
        try clear c1
        try clear p2
        try clear c5
        try clear p6
        try clear c7
        try clear c8
        try clear c13
        try clear c17
        try clear c19
        obtain ⟨x12_1, x13_1, x14_1, rfl, rfl, rfl, HA, HK1, HO_0, HB⟩ := hrel
        cases gk with
        | zero => exact absurd HA.out (by simp [earshotlaw01_SatAdds.l0])
        | succ k1 =>
          have H := HA.out
          clear HA
          simp only [earshotlaw01_SatAdds.l0] at H
          have HC20 := Aside0.mk H
          clear H
          go_upto_region 10 with (fail)
          go_cut [43] (fun v43 wc => ∃ (kq : Nat) (x43_19 : Bool), v43 = .bool x43_19 ∧ Aside0 (earshotlaw01_SatAdds.j1 kq t125 t124 (wrap64 (1 + (Int.tmod (wrap64 ((Int.tmod a2 62) + 62)) 62))) (a1 / 4) t128 t138 x12_1 x13_1 x14_1 x43_19 = some r) ∧ Aside0 (kq ≤ k1) ∧ Aside0 (Kd.V (Kd.int .i64) 3 wc w.heap.size (fun _ => True) (.slice Ao12 t125.length co12) t125) ∧ Aside0 (Below w.heap.size w wc))
          case first =>
            have H := HC20.out
            clear HC20
            by_cases c21 : x14_1 < (t125.length : Int)
            · rw [if_pos c21] at H
              have c21b0 : decide (x14_1 < (t125.length : Int)) = true := decide_eq_true c21
              clear c21
              (first | rw [c21b0] | (simp only [i64_w, i32_w]; rw [c21b0]) | skip)
              have H' := Aside0.mk H
              clear H
              go_wp2
              go_meet
              case rel => exact ⟨_, (!x13_1), (by first | rfl | (simp; done) | (simp [*]; done)), H', ⟨by have := HK1.out; first | omega | exact Nat.le_refl _⟩, ⟨by (with_reducible repeat (first | apply Kd.V_alloc | apply Kd.V_drewN | apply Kd.V_drew)); exact HO_0.out⟩, ⟨by repeat (first | (with_reducible first | exact HB.out | apply below_alloc | apply pw_below_drewN | apply below_drew1) | exact HB.out)⟩⟩
            · rw [if_neg c21] at H
              have c21b0 : decide (x14_1 < (t125.length : Int)) = false := decide_eq_false c21
              clear c21
              (first | rw [c21b0] | (simp only [i64_w, i32_w]; rw [c21b0]) | skip)
              have H' := Aside0.mk H
              clear H
              go_wp2
              go_meet
              case rel => exact ⟨_, (false), (by first | rfl | (simp; done) | (simp [*]; done)), H', ⟨by have := HK1.out; first | omega | exact Nat.le_refl _⟩, ⟨by (with_reducible repeat (first | apply Kd.V_alloc | apply Kd.V_drewN | apply Kd.V_drew)); exact HO_0.out⟩, ⟨by repeat (first | (with_reducible first | exact HB.out | apply below_alloc | apply pw_below_drewN | apply below_drew1) | exact HB.out)⟩⟩
          case rest =>
            clear HC20
            try clear c1
            try clear c2
            try clear p2
            try clear c5
            try clear p6
            try clear c7
            try clear c8
            try clear c13
            try clear c17
            try clear c19
            try clear c21
            try clear c21b0
            try clear p2
            try clear p6
            obtain ⟨kq, x43_19, rfl, HA, HJ19, HO_0, HB⟩ := hcut
            cases kq with
            | zero => exact absurd HA.out (by simp [earshotlaw01_SatAdds.j1])
            | succ kj19 =>
              have H := HA.out
              clear HA
              simp only [earshotlaw01_SatAdds.j1] at H
              by_cases c22 : x43_19 = true
              · subst c22
                have H1 : (if 0 ≤ x14_1 then (if x14_1 < (t125.length : Int) then ((sat_Fits.f (rd t125 x14_1) 62).bind fun t142 => (if t142 = true then ((sat_Fits.f (wrap64 (x12_1 + (rd t125 x14_1))) (wrap64 (1 + (Int.tmod (wrap64 ((Int.tmod a2 62) + 62)) 62)))).bind fun t144 => (earshotlaw01_SatAdds.l0 kj19 t125 t124 (wrap64 (1 + (Int.tmod (wrap64 ((Int.tmod a2 62) + 62)) 62))) (a1 / 4) t128 t138 (wrap64 (x12_1 + (rd t125 x14_1))) (!t144) (wrap64 (x14_1 + 1)))) else (earshotlaw01_SatAdds.l0 kj19 t125 t124 (wrap64 (1 + (Int.tmod (wrap64 ((Int.tmod a2 62) + 62)) 62))) (a1 / 4) t128 t138 x12_1 (!t142) (wrap64 (x14_1 + 1))))) else (none)) else (none)) = some r := by rw [if_pos rfl] at H; exact H
                clear H
                have H := H1
                clear H1
                by_cases c23 : 0 ≤ x14_1
                · rw [if_pos c23] at H
                  have c23b0 : decide (0 ≤ x14_1) = true := decide_eq_true c23
                  clear c23
                  by_cases c24 : x14_1 < (t125.length : Int)
                  · rw [if_pos c24] at H
                    have c24b0 : decide (x14_1 < (t125.length : Int)) = true := decide_eq_true c24
                    clear c24
                    replace H := Option.bind_eq_some_iff.mp H
                    obtain ⟨t142, A250, H⟩ := H
                    replace H : (if t142 = true then ((sat_Fits.f (wrap64 (x12_1 + (rd t125 x14_1))) (wrap64 (1 + (Int.tmod (wrap64 ((Int.tmod a2 62) + 62)) 62)))).bind fun t144 => (earshotlaw01_SatAdds.l0 kj19 t125 t124 (wrap64 (1 + (Int.tmod (wrap64 ((Int.tmod a2 62) + 62)) 62))) (a1 / 4) t128 t138 (wrap64 (x12_1 + (rd t125 x14_1))) (!t144) (wrap64 (x14_1 + 1)))) else (earshotlaw01_SatAdds.l0 kj19 t125 t124 (wrap64 (1 + (Int.tmod (wrap64 ((Int.tmod a2 62) + 62)) 62))) (a1 / 4) t128 t138 x12_1 (!t142) (wrap64 (x14_1 + 1)))) = some r := H
                    have A25 := Aside0.mk A250
                    clear A250
                    by_cases c26 : t142 = true
                    · subst c26
                      have H1 : ((sat_Fits.f (wrap64 (x12_1 + (rd t125 x14_1))) (wrap64 (1 + (Int.tmod (wrap64 ((Int.tmod a2 62) + 62)) 62)))).bind fun t144 => (earshotlaw01_SatAdds.l0 kj19 t125 t124 (wrap64 (1 + (Int.tmod (wrap64 ((Int.tmod a2 62) + 62)) 62))) (a1 / 4) t128 t138 (wrap64 (x12_1 + (rd t125 x14_1))) (!t144) (wrap64 (x14_1 + 1)))) = some r := by rw [if_pos rfl] at H; exact H
                      clear H
                      have H := H1
                      clear H1
                      replace H := Option.bind_eq_some_iff.mp H
                      obtain ⟨t144, A270, H⟩ := H
                      replace H : (earshotlaw01_SatAdds.l0 kj19 t125 t124 (wrap64 (1 + (Int.tmod (wrap64 ((Int.tmod a2 62) + 62)) 62))) (a1 / 4) t128 t138 (wrap64 (x12_1 + (rd t125 x14_1))) (!t144) (wrap64 (x14_1 + 1))) = some r := H
                      have A27 := Aside0.mk A270
                      clear A270
                      have H' := Aside0.mk H
                      clear H
                      have p141 : 0 ≤ (x14_1 : Int) := of_decide_eq_true (by first | (with_reducible assumption) | assumption)
                      have q141 : x14_1 < (t125.length : Int) := of_decide_eq_true (by first | (with_reducible assumption) | assumption)
                      obtain ⟨ad141, e141, hx141_0⟩ := Kd.at_int (Kd.V_reads' HO_0.out).2.2 x14_1 p141 q141
                      cases e141
                      replace p141 := eq_true p141
                      replace q141 := eq_true q141
                      go_wp2_with (first | ((with_reducible refine gate_callee (f := 15) rfl ?_); refine goesL_ (some 50) rfl rfl Try.func15 (by kernel_rfl) rfl #[.int .i64 (rd t125 x14_1), .int .i64 62] rfl (by (try simp only [List.map_toArray, List.map_cons, List.map_nil]); first | done | rfl | (simp only [List.length_drop, List.length_take]; rfl)) ?_; (with_reducible refine (sat_Fits.calls (rd t125 x14_1) 62 true _ A25.out).mono ?_); rintro e w' ⟨rfl, ⟨nd, rfl⟩⟩; refine ⟨_, rfl, ?_⟩; have p143 : 0 ≤ (x14_1 : Int) := of_decide_eq_true (by first | (with_reducible assumption) | assumption); have q143 : x14_1 < (t125.length : Int) := of_decide_eq_true (by first | (with_reducible assumption) | assumption); obtain ⟨ad143, e143, hx143_0⟩ := Kd.at_int (Kd.V_reads' HO_0.out).2.2 x14_1 p143 q143; obtain rfl : ad141 = ad143 := (by injection e143); replace p143 := eq_true p143; replace q143 := eq_true q143) | ((with_reducible refine gate_callee (f := 15) rfl ?_); refine goesL_ (some 62) rfl rfl Try.func15 (by kernel_rfl) rfl #[.int .i64 (wrap64 (x12_1 + (rd t125 x14_1))), .int .i64 (wrap64 (1 + (Int.tmod (wrap64 ((Int.tmod a2 62) + 62)) 62)))] rfl (by (try simp only [List.map_toArray, List.map_cons, List.map_nil]); first | done | rfl | (simp only [List.length_drop, List.length_take]; rfl)) ?_; (with_reducible refine (sat_Fits.calls (wrap64 (x12_1 + (rd t125 x14_1))) (wrap64 (1 + (Int.tmod (wrap64 ((Int.tmod a2 62) + 62)) 62))) t144 _ A27.out).mono ?_); rintro e w' ⟨rfl, ⟨nd, rfl⟩⟩; refine ⟨_, rfl, ?_⟩))
                      go_roundg kj19
                      case measure => have := HK1.out; have := HJ19.out; omega
                      case rel => exact ⟨(wrap64 (x12_1 + (rd t125 x14_1))), (!t144), (wrap64 (x14_1 + 1)), (by first | rfl | (simp; done) | (simp [*]; done)), (by first | rfl | (simp; done) | (simp [*]; done)), (by first | rfl | (simp; done) | (simp [*]; done)), H', ⟨by have := HK1.out; have := HJ19.out; omega⟩, ⟨by (with_reducible repeat (first | apply Kd.V_alloc | apply Kd.V_drewN | apply Kd.V_drew)); exact HO_0.out⟩, ⟨by repeat (first | (with_reducible first | exact HB.out | apply below_alloc | apply pw_below_drewN | apply below_drew1) | exact HB.out)⟩⟩
                    · replace c26 := Bool.eq_false_iff.mpr c26
                      subst c26
                      have H1 : (earshotlaw01_SatAdds.l0 kj19 t125 t124 (wrap64 (1 + (Int.tmod (wrap64 ((Int.tmod a2 62) + 62)) 62))) (a1 / 4) t128 t138 x12_1 (!false) (wrap64 (x14_1 + 1))) = some r := by rw [if_neg (show ¬ (false = true) by decide)] at H; exact H
                      clear H
                      have H := H1
                      clear H1
                      have H' := Aside0.mk H
                      clear H
                      have p141 : 0 ≤ (x14_1 : Int) := of_decide_eq_true (by first | (with_reducible assumption) | assumption)
                      have q141 : x14_1 < (t125.length : Int) := of_decide_eq_true (by first | (with_reducible assumption) | assumption)
                      obtain ⟨ad141, e141, hx141_0⟩ := Kd.at_int (Kd.V_reads' HO_0.out).2.2 x14_1 p141 q141
                      cases e141
                      replace p141 := eq_true p141
                      replace q141 := eq_true q141
                      go_wp2_with (first | ((with_reducible refine gate_callee (f := 15) rfl ?_); refine goesL_ (some 50) rfl rfl Try.func15 (by kernel_rfl) rfl #[.int .i64 (rd t125 x14_1), .int .i64 62] rfl (by (try simp only [List.map_toArray, List.map_cons, List.map_nil]); first | done | rfl | (simp only [List.length_drop, List.length_take]; rfl)) ?_; (with_reducible refine (sat_Fits.calls (rd t125 x14_1) 62 false _ A25.out).mono ?_); rintro e w' ⟨rfl, ⟨nd, rfl⟩⟩; refine ⟨_, rfl, ?_⟩))
                      go_roundg kj19
                      case measure => have := HK1.out; have := HJ19.out; omega
                      case rel => exact ⟨(x12_1), (!false), (wrap64 (x14_1 + 1)), (by first | rfl | (simp; done) | (simp [*]; done)), (by first | rfl | (simp; done) | (simp [*]; done)), (by first | rfl | (simp; done) | (simp [*]; done)), H', ⟨by have := HK1.out; have := HJ19.out; omega⟩, ⟨by (with_reducible repeat (first | apply Kd.V_alloc | apply Kd.V_drewN | apply Kd.V_drew)); exact HO_0.out⟩, ⟨by repeat (first | (with_reducible first | exact HB.out | apply below_alloc | apply pw_below_drewN | apply below_drew1) | exact HB.out)⟩⟩
                  · rw [if_neg c24] at H
                    exact absurd H (by simp)
                · rw [if_neg c23] at H
                  exact absurd H (by simp)
              · replace c22 := Bool.eq_false_iff.mpr c22
                subst c22
                have H1 : (if t124 = true then ((sat_Fits.f t128 (wrap64 (1 + (Int.tmod (wrap64 ((Int.tmod a2 62) + 62)) 62)))).bind fun t139 => (if t139 = true then ((sat_Sat.f (wrap64 (t128 + (a1 / 4))) (wrap64 (1 + (Int.tmod (wrap64 ((Int.tmod a2 62) + 62)) 62)))).bind fun t140 => (if t138 = t140 then (if x13_1 = true then (some true) else (some (t128 == x12_1))) else (some false))) else (some false))) else (some false)) = some r := by rw [if_neg (show ¬ (false = true) by decide)] at H; exact H
                clear H
                have H := H1
                clear H1
                by_cases c28 : t124 = true
                · subst c28
                  have H1 : ((sat_Fits.f t128 (wrap64 (1 + (Int.tmod (wrap64 ((Int.tmod a2 62) + 62)) 62)))).bind fun t139 => (if t139 = true then ((sat_Sat.f (wrap64 (t128 + (a1 / 4))) (wrap64 (1 + (Int.tmod (wrap64 ((Int.tmod a2 62) + 62)) 62)))).bind fun t140 => (if t138 = t140 then (if x13_1 = true then (some true) else (some (t128 == x12_1))) else (some false))) else (some false))) = some r := by rw [if_pos rfl] at H; exact H
                  clear H
                  have H := H1
                  clear H1
                  replace H := Option.bind_eq_some_iff.mp H
                  obtain ⟨t139, A290, H⟩ := H
                  replace H : (if t139 = true then ((sat_Sat.f (wrap64 (t128 + (a1 / 4))) (wrap64 (1 + (Int.tmod (wrap64 ((Int.tmod a2 62) + 62)) 62)))).bind fun t140 => (if t138 = t140 then (if x13_1 = true then (some true) else (some (t128 == x12_1))) else (some false))) else (some false)) = some r := H
                  have A29 := Aside0.mk A290
                  clear A290
                  by_cases c30 : t139 = true
                  · subst c30
                    have H1 : ((sat_Sat.f (wrap64 (t128 + (a1 / 4))) (wrap64 (1 + (Int.tmod (wrap64 ((Int.tmod a2 62) + 62)) 62)))).bind fun t140 => (if t138 = t140 then (if x13_1 = true then (some true) else (some (t128 == x12_1))) else (some false))) = some r := by rw [if_pos rfl] at H; exact H
                    clear H
                    have H := H1
                    clear H1
                    replace H := Option.bind_eq_some_iff.mp H
                    obtain ⟨t140, A310, H⟩ := H
                    replace H : (if t138 = t140 then (if x13_1 = true then (some true) else (some (t128 == x12_1))) else (some false)) = some r := H
                    have A31 := Aside0.mk A310
                    clear A310
                    by_cases c32 : t138 = t140
                    · rw [if_pos c32] at H
                      have c32b0 : (t138 == t140) = true := beq_iff_eq.mpr c32
                      have c32b1 : (t138 != t140) = false := bne_eq_false_iff_eq.mpr c32
                      clear c32
                      by_cases c33 : x13_1 = true
                      · subst c33
                        have H1 : (some true) = some r := by rw [if_pos rfl] at H; exact H
                        clear H
                        have H := H1
                        clear H1
                        obtain rfl := Option.some.inj H
                        go_wp2_with (first | (go_at_call 15; (with_reducible refine (sat_Fits.calls t128 (wrap64 (1 + (Int.tmod (wrap64 ((Int.tmod a2 62) + 62)) 62))) true _ A29.out).mono ?_); rintro e w' ⟨rfl, ⟨nd, rfl⟩⟩) | (go_at_call 14; (with_reducible refine (sat_Sat.calls (wrap64 (t128 + (a1 / 4))) (wrap64 (1 + (Int.tmod (wrap64 ((Int.tmod a2 62) + 62)) 62))) t140 _ A31.out).mono ?_); rintro e w' ⟨rfl, ⟨nd, rfl⟩⟩))
                        go_ret
                        exact ⟨by first | rfl | (simp only [Int.tdiv_eq_ediv_of_nonneg (show (0 : Int) ≤ 9223372036854775807 by decide), Int.tdiv_eq_ediv_of_nonneg (show (0 : Int) ≤ 9223372036854775808 by decide)] <;> rfl) | (simp [errW_none, errW_some] <;> rfl) | (simp [*, errW_none, errW_some] <;> rfl), by repeat (first | (with_reducible first | exact HB.out | apply below_alloc | apply pw_below_drewN | apply below_drew1) | exact HB.out)⟩
                      · replace c33 := Bool.eq_false_iff.mpr c33
                        subst c33
                        have H1 : (some (t128 == x12_1)) = some r := by rw [if_neg (show ¬ (false = true) by decide)] at H; exact H
                        clear H
                        have H := H1
                        clear H1
                        obtain rfl := Option.some.inj H
                        go_wp2_with (first | (go_at_call 15; (with_reducible refine (sat_Fits.calls t128 (wrap64 (1 + (Int.tmod (wrap64 ((Int.tmod a2 62) + 62)) 62))) true _ A29.out).mono ?_); rintro e w' ⟨rfl, ⟨nd, rfl⟩⟩) | (go_at_call 14; (with_reducible refine (sat_Sat.calls (wrap64 (t128 + (a1 / 4))) (wrap64 (1 + (Int.tmod (wrap64 ((Int.tmod a2 62) + 62)) 62))) t140 _ A31.out).mono ?_); rintro e w' ⟨rfl, ⟨nd, rfl⟩⟩))
                        go_ret
                        exact ⟨by first | rfl | (simp only [Int.tdiv_eq_ediv_of_nonneg (show (0 : Int) ≤ 9223372036854775807 by decide), Int.tdiv_eq_ediv_of_nonneg (show (0 : Int) ≤ 9223372036854775808 by decide)] <;> rfl) | (simp [errW_none, errW_some] <;> rfl) | (simp [*, errW_none, errW_some] <;> rfl), by repeat (first | (with_reducible first | exact HB.out | apply below_alloc | apply pw_below_drewN | apply below_drew1) | exact HB.out)⟩
                    · rw [if_neg c32] at H
                      have c32b0 : (t138 == t140) = false := beq_eq_false_iff_ne.mpr c32
                      have c32b1 : (t138 != t140) = true := bne_iff_ne.mpr c32
                      obtain rfl := Option.some.inj H
                      go_wp2_with (first | (go_at_call 15; (with_reducible refine (sat_Fits.calls t128 (wrap64 (1 + (Int.tmod (wrap64 ((Int.tmod a2 62) + 62)) 62))) true _ A29.out).mono ?_); rintro e w' ⟨rfl, ⟨nd, rfl⟩⟩) | (go_at_call 14; (with_reducible refine (sat_Sat.calls (wrap64 (t128 + (a1 / 4))) (wrap64 (1 + (Int.tmod (wrap64 ((Int.tmod a2 62) + 62)) 62))) t140 _ A31.out).mono ?_); rintro e w' ⟨rfl, ⟨nd, rfl⟩⟩))
                      go_ret
                      exact ⟨by first | rfl | (simp only [Int.tdiv_eq_ediv_of_nonneg (show (0 : Int) ≤ 9223372036854775807 by decide), Int.tdiv_eq_ediv_of_nonneg (show (0 : Int) ≤ 9223372036854775808 by decide)] <;> rfl) | (simp [errW_none, errW_some] <;> rfl) | (simp [*, errW_none, errW_some] <;> rfl), by repeat (first | (with_reducible first | exact HB.out | apply below_alloc | apply pw_below_drewN | apply below_drew1) | exact HB.out)⟩
                  · replace c30 := Bool.eq_false_iff.mpr c30
                    subst c30
                    have H1 : (some false) = some r := by rw [if_neg (show ¬ (false = true) by decide)] at H; exact H
                    clear H
                    have H := H1
                    clear H1
                    obtain rfl := Option.some.inj H
                    go_wp2_with (first | (go_at_call 15; (with_reducible refine (sat_Fits.calls t128 (wrap64 (1 + (Int.tmod (wrap64 ((Int.tmod a2 62) + 62)) 62))) false _ A29.out).mono ?_); rintro e w' ⟨rfl, ⟨nd, rfl⟩⟩))
                    go_ret
                    exact ⟨by first | rfl | (simp only [Int.tdiv_eq_ediv_of_nonneg (show (0 : Int) ≤ 9223372036854775807 by decide), Int.tdiv_eq_ediv_of_nonneg (show (0 : Int) ≤ 9223372036854775808 by decide)] <;> rfl) | (simp [errW_none, errW_some] <;> rfl) | (simp [*, errW_none, errW_some] <;> rfl), by repeat (first | (with_reducible first | exact HB.out | apply below_alloc | apply pw_below_drewN | apply below_drew1) | exact HB.out)⟩
                · replace c28 := Bool.eq_false_iff.mpr c28
                  subst c28
                  have H1 : (some false) = some r := by rw [if_neg (show ¬ (false = true) by decide)] at H; exact H
                  clear H
                  have H := H1
                  clear H1
                  obtain rfl := Option.some.inj H
                  go_wp2
                  go_ret
                  exact ⟨by first | rfl | (simp only [Int.tdiv_eq_ediv_of_nonneg (show (0 : Int) ≤ 9223372036854775807 by decide), Int.tdiv_eq_ediv_of_nonneg (show (0 : Int) ≤ 9223372036854775808 by decide)] <;> rfl) | (simp [errW_none, errW_some] <;> rfl) | (simp [*, errW_none, errW_some] <;> rfl), by repeat (first | (with_reducible first | exact HB.out | apply below_alloc | apply pw_below_drewN | apply below_drew1) | exact HB.out)⟩
    · rw [if_neg c8] at H
      exact absurd H (by simp)
  · rw [if_neg c7] at H
    exact absurd H (by simp)

/-- THE ONE PURE STATEMENT of earshotlaw01_SatAdds. -/
def earshotlaw01_SatAdds.Pure : Prop := ∀ (l0 : List Int) (a1 : Int) (a2 : Int), l0.length ≤ maxLen → l0.length * 8 ≤ 140737488351232 → (∀ x ∈ l0, (Lit.int .i64 x).wf = true) → (Lit.int .i64 a1).wf = true → (Lit.int .i64 a2).wf = true → ∃ k, earshotlaw01_SatAdds.f k l0 a1 a2 = some true
theorem earshotlaw01_SatAdds.walk (P : earshotlaw01_SatAdds.Pure) (a0 : Option Addr) (len0 cap0 : Nat) (z0 : List Int) (a1 : Int) (a2 : Int) (w : World) (w0 : (a0 = none ∧ len0 = 0 ∧ cap0 = 0 ∧ z0 = []) ∨ ∃ x, a0 = some x ∧ len0 ≤ cap0 ∧ cap0 ≤ maxLen ∧ z0.length = cap0 ∧ (∀ i, i < z0.length → w.cell? (x.add i) = some (.int .i64 (z0.getD i 0))) ∧ ∀ n ∈ z0, (Lit.int .i64 n).wf = true) (y0 : len0 * 8 ≤ 140737488351232) (w1 : (Lit.int .i64 a1).wf = true) (w2 : (Lit.int .i64 a2).wf = true) :
    Calls Try.prog 5 #[.slice a0 len0 cap0, .int .i64 a1, .int .i64 a2] w fun e w' => e = .returned (.bool true) ∧ Below w.heap.size w w' := by
  obtain ⟨l0, rfl, hr0, hm0, hw0, hc0⟩ := ReadsInt.ofRowC w0
  obtain ⟨k, h⟩ := P l0 a1 a2 hm0 y0 hw0 w1 w2
  refine (earshotlaw01_SatAdds.calls k _ _ l0 a1 a2 true w (Kd.C_of_reads (d := (0 : Int)) (h1 := fun _ => rfl) hr0) hc0 h).mono ?_
  rintro e w' ⟨rfl, hd⟩
  exact ⟨rfl, hd⟩

end Go.Proofs.Ytpaednaeehlofaa.PSatAdds
