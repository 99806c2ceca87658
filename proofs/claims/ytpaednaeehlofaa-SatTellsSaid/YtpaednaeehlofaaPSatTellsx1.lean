/- Written by xp.py, a program of this session: contracts of the Go functions that a law reaches: each call returns what the Lean function of its name tells. Conditions: those that each theorem names, none else. -/
import Derived.Test.YtpaednaeehlofaaPSatTellsx0
namespace Go.Proofs.Ytpaednaeehlofaa.PSatTells
open Go.RowKit Go.Proofs.YtpaednaeehlofaaW.PrintWords Go.Proofs.YtpaednaeehlofaaW.PrintLast Go.Proofs.YtpaednaeehlofaaW.PrintMore
attribute [local go_sem] max2_int min2_int max_two min_two max_three min_three max_four min_four   -- for this text's walks alone
set_option linter.unusedVariables false
set_option linter.unusedSimpArgs false

/-! ### sat_ends: function 36 -/
def sat_ends.f (a0 : Int) : Option (Int × Int × Bool) := if a0 < 1 then (some (0, 0, false)) else (if a0 > 64 then (some (0, 0, false)) else (if 0 ≤ (wrap64 (64 - a0)) then (some (shr .i64 (-9223372036854775808) (wrap64 (64 - a0)), Go.bits .xor .i64 (-1) (shr .i64 (-9223372036854775808) (wrap64 (64 - a0))), true)) else (none)))
set_option maxHeartbeats 8000000 in
set_option maxRecDepth 100000 in
theorem sat_ends.calls (a0 : Int) (r1 : Int) (r2 : Int) (r3 : Bool) (w : World) (h : sat_ends.f a0 = some (r1, r2, r3)) :
    Calls Try.prog 36 #[.int .i64 a0] w fun e w' => e = .returned (.tuple #[.int .i64 r1, .int .i64 r2, .bool r3]) ∧ Drawn0 w w' := by
  have H : (if a0 < 1 then (some (0, 0, false)) else (if a0 > 64 then (some (0, 0, false)) else (if 0 ≤ (wrap64 (64 - a0)) then (some (shr .i64 (-9223372036854775808) (wrap64 (64 - a0)), Go.bits .xor .i64 (-1) (shr .i64 (-9223372036854775808) (wrap64 (64 - a0))), true)) else (none)))) = some (r1, r2, r3) := h
  clear h
  by_cases c2 : a0 < 1
  · rw [if_pos c2] at H
    have c2b0 : decide (a0 < 1) = true := decide_eq_true c2
    clear c2
    simp only [Option.some.injEq, Prod.mk.injEq] at H
    obtain ⟨rfl, rfl, rfl⟩ := H
    go_enter Try.func36, Try.ntmps36
    go_wp2
    go_ret3
    exact ⟨by first | rfl | (simp; done) | (simp [*]; done), by repeat (first | exact Drawn0.refl _ | apply Drawn0.step)⟩
  · rw [if_neg c2] at H
    have c2b0 : decide (a0 < 1) = false := decide_eq_false c2
    clear c2
    by_cases c3 : a0 > 64
    · rw [if_pos c3] at H
      have c3b0 : decide (64 < a0) = true := decide_eq_true c3
      clear c3
      simp only [Option.some.injEq, Prod.mk.injEq] at H
      obtain ⟨rfl, rfl, rfl⟩ := H
      go_enter Try.func36, Try.ntmps36
      go_wp2
      go_ret3
      exact ⟨by first | rfl | (simp; done) | (simp [*]; done), by repeat (first | exact Drawn0.refl _ | apply Drawn0.step)⟩
    · rw [if_neg c3] at H
      have c3b0 : decide (64 < a0) = false := decide_eq_false c3
      clear c3
      obtain ⟨ji4, hji4⟩ : ∃ j_ : Int, (wrap64 (64 - a0)) = j_ := ⟨_, rfl⟩
      replace H : (if 0 ≤ (ji4) then (some (shr .i64 (-9223372036854775808) (ji4), Go.bits .xor .i64 (-1) (shr .i64 (-9223372036854775808) (ji4)), true)) else (none)) = some (r1, r2, r3) := by first | (rw [hji4] at H; exact H) | (simp only [hji4] at H ⊢; exact H)
      have hji4w : (IntKind.i64.wrap (64 - a0)) = ji4 := (i64_w _).trans hji4
      by_cases c5 : 0 ≤ (ji4)
      · rw [if_pos c5] at H
        have c5b0 := eq_true c5
        have c5b1 : decide (0 ≤ (ji4)) = true := decide_eq_true c5
        clear c5
        obtain ⟨ji6, hji6⟩ : ∃ j_ : Int, (shr .i64 (-9223372036854775808) (ji4)) = j_ := ⟨_, rfl⟩
        replace H : (some (ji6, Go.bits .xor .i64 (-1) (ji6), true)) = some (r1, r2, r3) := by first | (rw [hji6] at H; exact H) | (simp only [hji6] at H ⊢; exact H)
        have hji6_ : ((-9223372036854775808) / 2 ^ min (ji4).toNat 64) = ji6 := hji6
        have hji6z : (ji4) ≤ 64 → ((-9223372036854775808) / 2 ^ (ji4).toNat) = ji6 := shr_small hji6
        simp only [Option.some.injEq, Prod.mk.injEq] at H
        obtain ⟨rfl, rfl, rfl⟩ := H
        go_enter Try.func36, Try.ntmps36
        go_wp2
        go_ret3
        exact ⟨by first | rfl | (simp; done) | (simp only [← hji4, ← hji6] <;> (first | rfl | simp)) | (simp [*]; done), by repeat (first | exact Drawn0.refl _ | apply Drawn0.step)⟩
      · rw [if_neg c5] at H
        exact absurd H (by simp)

/-! ### sat_Fits: function 15 -/
def sat_Fits.f (a0 : Int) (a1 : Int) : Option (Bool) := (sat_ends.f a1).bind fun bt101 => (if bt101.2.2 = true then (if a0 ≥ bt101.1 then (some (decide (a0 ≤ bt101.2.1))) else (some false)) else (some false))
set_option maxHeartbeats 8000000 in
set_option maxRecDepth 100000 in
theorem sat_Fits.calls (a0 : Int) (a1 : Int) (r : Bool) (w : World) (h : sat_Fits.f a0 a1 = some r) :
    Calls Try.prog 15 #[.int .i64 a0, .int .i64 a1] w fun e w' => e = .returned (.bool r) ∧ Drawn0 w w' := by
  have H : ((sat_ends.f a1).bind fun bt101 => (if bt101.2.2 = true then (if a0 ≥ bt101.1 then (some (decide (a0 ≤ bt101.2.1))) else (some false)) else (some false))) = some r := h
  clear h
  replace H := Option.bind_eq_some_iff.mp H
  obtain ⟨⟨t101, t102, t103⟩, A30, H⟩ := H
  replace H : (if t103 = true then (if a0 ≥ t101 then (some (decide (a0 ≤ t102))) else (some false)) else (some false)) = some r := H
  have A3 := Aside0.mk A30
  clear A30
  by_cases c4 : t103 = true
  · subst c4
    have H1 : (if a0 ≥ t101 then (some (decide (a0 ≤ t102))) else (some false)) = some r := by rw [if_pos rfl] at H; exact H
    clear H
    have H := H1
    clear H1
    by_cases c5 : a0 ≥ t101
    · rw [if_pos c5] at H
      have c5b0 : decide (t101 ≤ a0) = true := decide_eq_true c5
      clear c5
      obtain rfl := Option.some.inj H
      go_enter Try.func15, Try.ntmps15
      go_wp2_with (first | ((with_reducible refine gate_callee (f := 36) rfl ?_); refine goesL_ (some 10) rfl rfl Try.func36 (by kernel_rfl) rfl #[.int .i64 a1] rfl (by (try simp only [List.map_toArray, List.map_cons, List.map_nil]); first | done | rfl | (simp only [List.length_drop, List.length_take]; rfl)) ?_; (with_reducible refine (sat_ends.calls a1 t101 t102 true _ A3.out).mono ?_); rintro e w' ⟨rfl, ⟨nd, rfl⟩⟩; refine ⟨_, rfl, ?_⟩; (try clear A3)))
      go_ret
      exact ⟨by first | rfl | (simp; done) | (simp [*]; done), by repeat (first | exact Drawn0.refl _ | apply Drawn0.step)⟩
    · rw [if_neg c5] at H
      have c5b0 : decide (t101 ≤ a0) = false := decide_eq_false c5
      clear c5
      obtain rfl := Option.some.inj H
      go_enter Try.func15, Try.ntmps15
      go_wp2_with (first | ((with_reducible refine gate_callee (f := 36) rfl ?_); refine goesL_ (some 10) rfl rfl Try.func36 (by kernel_rfl) rfl #[.int .i64 a1] rfl (by (try simp only [List.map_toArray, List.map_cons, List.map_nil]); first | done | rfl | (simp only [List.length_drop, List.length_take]; rfl)) ?_; (with_reducible refine (sat_ends.calls a1 t101 t102 true _ A3.out).mono ?_); rintro e w' ⟨rfl, ⟨nd, rfl⟩⟩; refine ⟨_, rfl, ?_⟩; (try clear A3)))
      go_ret
      exact ⟨by first | rfl | (simp; done) | (simp [*]; done), by repeat (first | exact Drawn0.refl _ | apply Drawn0.step)⟩
  · replace c4 := Bool.eq_false_iff.mpr c4
    subst c4
    have H1 : (some false) = some r := by rw [if_neg (show ¬ (false = true) by decide)] at H; exact H
    clear H
    have H := H1
    clear H1
    obtain rfl := Option.some.inj H
    go_enter Try.func15, Try.ntmps15
    go_wp2_with (first | ((with_reducible refine gate_callee (f := 36) rfl ?_); refine goesL_ (some 10) rfl rfl Try.func36 (by kernel_rfl) rfl #[.int .i64 a1] rfl (by (try simp only [List.map_toArray, List.map_cons, List.map_nil]); first | done | rfl | (simp only [List.length_drop, List.length_take]; rfl)) ?_; (with_reducible refine (sat_ends.calls a1 t101 t102 false _ A3.out).mono ?_); rintro e w' ⟨rfl, ⟨nd, rfl⟩⟩; refine ⟨_, rfl, ?_⟩; (try clear A3)))
    go_ret
    exact ⟨by first | rfl | (simp; done) | (simp [*]; done), by repeat (first | exact Drawn0.refl _ | apply Drawn0.step)⟩

/-! ### sat_Sum: function 18 -/
def sat_Sum.l0 : Nat → Int → Int → List Int → Int → Int → Option (Int × Bool)
  | 0, _, _, _, _, _ => none
  | k + 1, x4, x5, x8, x9, x10 => if x10 < x9 then (if 0 ≤ x10 then (if x10 < (x8.length : Int) then (sat_Sum.l0 k (wrap64 (x4 + ((rd x8 x10) / 4294967296))) (wrap64 (x5 + (Go.bits .and .i64 (rd x8 x10) 4294967295))) x8 x9 (wrap64 (x10 + 1))) else (none)) else (none)) else ((sat_Fits.f (wrap64 (x4 + (x5 / 4294967296))) 32).bind fun t105 => (if t105 = true then (some (Go.bits .or .i64 (wrap64 ((wrap64 (x4 + (x5 / 4294967296))) * 4294967296)) (Go.bits .and .i64 x5 4294967295), true)) else (some (0, false))))
def sat_Sum.f (k : Nat) (l0 : List Int) : Option (Int × Bool) := sat_Sum.l0 k 0 0 l0 (l0.length : Int) 0
theorem sat_Sum.mono_l : ∀ k, (∀ y0 y1 y2 y3 y4, LeO (sat_Sum.l0 k y0 y1 y2 y3 y4) (sat_Sum.l0 (k + 1) y0 y1 y2 y3 y4))
  | 0 => fun _ _ _ _ _ r h => by simp [sat_Sum.l0] at h
  | k + 1 => by
    have ih0 := sat_Sum.mono_l k
    · intro y0 y1 y2 y3 y4
      unfold sat_Sum.l0
      repeat' first
      | (with_reducible exact ih0 _ _ _ _ _)
      | (with_reducible exact LeO.refl _)
      | (with_reducible exact LeO.none _)
      | (with_reducible refine LeO.ite ?_ ?_)
      | (with_reducible refine LeO.bind ?_ (fun _ => ?_))
      | exact ih0 _ _ _ _ _
      | exact LeO.none _
      | refine LeO.ite ?_ ?_
      | refine LeO.bind ?_ (fun _ => ?_)
theorem sat_Sum.mono : ∀ a0 k, LeO (sat_Sum.f k a0) (sat_Sum.f (k + 1) a0) := by
  intro a0 k
  have ih0 := sat_Sum.mono_l k
  unfold sat_Sum.f
  repeat' first
      | (with_reducible exact ih0 _ _ _ _ _)
      | (with_reducible exact LeO.refl _)
      | (with_reducible exact LeO.none _)
      | (with_reducible refine LeO.ite ?_ ?_)
      | (with_reducible refine LeO.bind ?_ (fun _ => ?_))
      | exact ih0 _ _ _ _ _
      | exact LeO.none _
      | refine LeO.ite ?_ ?_
      | refine LeO.bind ?_ (fun _ => ?_)
set_option maxHeartbeats 8000000 in
set_option maxRecDepth 100000 in
theorem sat_Sum.calls (k : Nat) (A0 : Option Addr) (c0 : Nat) (l0 : List Int) (r1 : Int) (r2 : Bool) (w : World) (hr0 : Kd.C (Kd.int .i64) w A0 l0.length l0) (hc0 : l0.length ≤ c0) (h : sat_Sum.f k l0 = some (r1, r2)) :
    Calls Try.prog 18 #[.slice A0 l0.length c0] w fun e w' => e = .returned (.tuple #[.int .i64 r1, .bool r2]) ∧ Drawn0 w w' := by
  have HR0 := Aside0.mk hr0
  have HC0 := Aside0.mk hc0
  clear hr0 hc0
  have H : (sat_Sum.l0 k 0 0 l0 (l0.length : Int) 0) = some (r1, r2) := h
  clear h
  have H' := Aside0.mk H
  clear H
  go_enter Try.func18, Try.ntmps18
  go_wp2
  go_loopg [4, 5, 10] k (fun kq v4 v5 v10 w' => ∃ (x4_1 : Int) (x5_1 : Int) (x10_1 : Int), v4 = .int .i64 x4_1 ∧ v5 = .int .i64 x5_1 ∧ v10 = .int .i64 x10_1 ∧ Aside0 (sat_Sum.l0 kq x4_1 x5_1 l0 (l0.length : Int) x10_1 = some (r1, r2)) ∧ Aside0 (kq ≤ k) ∧ Drawn0 w w')
  case atStart => exact ⟨(0), (0), (0), (by first | rfl | (simp; done) | (simp [*]; done)), (by first | rfl | (simp; done) | (simp [*]; done)), (by first | rfl | (simp; done) | (simp [*]; done)), H', ⟨Nat.le_refl _⟩, by repeat (first | exact Drawn0.refl _ | apply Drawn0.step)⟩
  case round =>
    clear H'
    try clear c1
    obtain ⟨x4_1, x5_1, x10_1, rfl, rfl, rfl, HA, HK1, ⟨m1, rfl⟩⟩ := hrel
    cases gk with
    | zero => exact absurd HA.out (by simp [sat_Sum.l0])
    | succ k1 =>
      have H := HA.out
      clear HA
      simp only [sat_Sum.l0] at H
      by_cases c2 : x10_1 < (l0.length : Int)
      · rw [if_pos c2] at H
        have c2b0 : decide (x10_1 < (l0.length : Int)) = true := decide_eq_true c2
        clear c2
        by_cases c3 : 0 ≤ x10_1
        · rw [if_pos c3] at H
          have c3b0 : decide (0 ≤ x10_1) = true := decide_eq_true c3
          clear c3
          by_cases c4 : x10_1 < (l0.length : Int)
          · rw [if_pos c4] at H
            have c4b0 : decide (x10_1 < (l0.length : Int)) = true := decide_eq_true c4
            clear c4
            have H' := Aside0.mk H
            clear H
            have p104 : 0 ≤ (x10_1 : Int) := of_decide_eq_true (by first | (with_reducible assumption) | assumption)
            have q104 : x10_1 < (l0.length : Int) := of_decide_eq_true (by first | (with_reducible assumption) | assumption)
            obtain ⟨ad104, e104, hx104_0⟩ := Kd.at_int HR0.out x10_1 p104 q104
            cases e104
            replace p104 := eq_true p104
            replace q104 := eq_true q104
            go_wp2
            go_roundg k1
            case measure => have := HK1.out; omega
            case rel => exact ⟨(wrap64 (x4_1 + ((rd l0 x10_1) / 4294967296))), (wrap64 (x5_1 + (Go.bits .and .i64 (rd l0 x10_1) 4294967295))), (wrap64 (x10_1 + 1)), (by first | rfl | (simp; done) | (simp [*]; done)), (by first | rfl | (simp; done) | (simp [*]; done)), (by first | rfl | (simp; done) | (simp [*]; done)), H', ⟨by have := HK1.out; omega⟩, by repeat (first | exact Drawn0.refl _ | apply Drawn0.step)⟩
          · rw [if_neg c4] at H
            exact absurd H (by simp)
        · rw [if_neg c3] at H
          exact absurd H (by simp)
      · rw [if_neg c2] at H
        have c2b0 : decide (x10_1 < (l0.length : Int)) = false := decide_eq_false c2
        clear c2
        replace H := Option.bind_eq_some_iff.mp H
        obtain ⟨t105, A50, H⟩ := H
        replace H : (if t105 = true then (some (Go.bits .or .i64 (wrap64 ((wrap64 (x4_1 + (x5_1 / 4294967296))) * 4294967296)) (Go.bits .and .i64 x5_1 4294967295), true)) else (some (0, false))) = some (r1, r2) := H
        have A5 := Aside0.mk A50
        clear A50
        by_cases c6 : t105 = true
        · subst c6
          have H1 : (some (Go.bits .or .i64 (wrap64 ((wrap64 (x4_1 + (x5_1 / 4294967296))) * 4294967296)) (Go.bits .and .i64 x5_1 4294967295), true)) = some (r1, r2) := by rw [if_pos rfl] at H; exact H
          clear H
          have H := H1
          clear H1
          simp only [Option.some.injEq, Prod.mk.injEq] at H
          obtain ⟨rfl, rfl⟩ := H
          go_wp2_with (first | ((with_reducible refine gate_callee (f := 15) rfl ?_); refine goesL_ (some 28) rfl rfl Try.func15 (by kernel_rfl) rfl #[.int .i64 (wrap64 (x4_1 + (x5_1 / 4294967296))), .int .i64 32] rfl (by (try simp only [List.map_toArray, List.map_cons, List.map_nil]); first | done | rfl | (simp only [List.length_drop, List.length_take]; rfl)) ?_; (with_reducible refine (sat_Fits.calls (wrap64 (x4_1 + (x5_1 / 4294967296))) 32 true _ A5.out).mono ?_); rintro e w' ⟨rfl, ⟨nd, rfl⟩⟩; refine ⟨_, rfl, ?_⟩; (try clear A5)))
          go_ret2
          exact ⟨by first | rfl | (simp; done) | (simp [*]; done), by repeat (first | exact Drawn0.refl _ | apply Drawn0.step)⟩
        · replace c6 := Bool.eq_false_iff.mpr c6
          subst c6
          have H1 : (some (0, false)) = some (r1, r2) := by rw [if_neg (show ¬ (false = true) by decide)] at H; exact H
          clear H
          have H := H1
          clear H1
          simp only [Option.some.injEq, Prod.mk.injEq] at H
          obtain ⟨rfl, rfl⟩ := H
          go_wp2_with (first | ((with_reducible refine gate_callee (f := 15) rfl ?_); refine goesL_ (some 28) rfl rfl Try.func15 (by kernel_rfl) rfl #[.int .i64 (wrap64 (x4_1 + (x5_1 / 4294967296))), .int .i64 32] rfl (by (try simp only [List.map_toArray, List.map_cons, List.map_nil]); first | done | rfl | (simp only [List.length_drop, List.length_take]; rfl)) ?_; (with_reducible refine (sat_Fits.calls (wrap64 (x4_1 + (x5_1 / 4294967296))) 32 false _ A5.out).mono ?_); rintro e w' ⟨rfl, ⟨nd, rfl⟩⟩; refine ⟨_, rfl, ?_⟩; (try clear A5)))
          go_ret2
          exact ⟨by first | rfl | (simp; done) | (simp [*]; done), by repeat (first | exact Drawn0.refl _ | apply Drawn0.step)⟩

/-! ### sat_Clamp: function 16 -/
def sat_Clamp.f (a0 : Int) (a1 : Int) (a2 : Int) : Option (Int) := if a0 < a1 then (some a1) else (if a0 > a2 then (some a2) else (some a0))
set_option maxHeartbeats 8000000 in
set_option maxRecDepth 100000 in
theorem sat_Clamp.calls (a0 : Int) (a1 : Int) (a2 : Int) (r : Int) (w : World) (h : sat_Clamp.f a0 a1 a2 = some r) :
    Calls Try.prog 16 #[.int .i64 a0, .int .i64 a1, .int .i64 a2] w fun e w' => e = .returned (.int .i64 r) ∧ Drawn0 w w' := by
  have H : (if a0 < a1 then (some a1) else (if a0 > a2 then (some a2) else (some a0))) = some r := h
  clear h
  by_cases c4 : a0 < a1
  · rw [if_pos c4] at H
    have c4b0 : decide (a0 < a1) = true := decide_eq_true c4
    clear c4
    obtain rfl := Option.some.inj H
    go_enter Try.func16, Try.ntmps16
    go_wp2
    go_ret
    exact ⟨by first | rfl | (simp; done) | (simp [*]; done), by repeat (first | exact Drawn0.refl _ | apply Drawn0.step)⟩
  · rw [if_neg c4] at H
    have c4b0 : decide (a0 < a1) = false := decide_eq_false c4
    clear c4
    by_cases c5 : a0 > a2
    · rw [if_pos c5] at H
      have c5b0 : decide (a2 < a0) = true := decide_eq_true c5
      clear c5
      obtain rfl := Option.some.inj H
      go_enter Try.func16, Try.ntmps16
      go_wp2
      go_ret
      exact ⟨by first | rfl | (simp; done) | (simp [*]; done), by repeat (first | exact Drawn0.refl _ | apply Drawn0.step)⟩
    · rw [if_neg c5] at H
      have c5b0 : decide (a2 < a0) = false := decide_eq_false c5
      clear c5
      obtain rfl := Option.some.inj H
      go_enter Try.func16, Try.ntmps16
      go_wp2
      go_ret
      exact ⟨by first | rfl | (simp; done) | (simp [*]; done), by repeat (first | exact Drawn0.refl _ | apply Drawn0.step)⟩

/-! ### sat_Sat: function 14 -/
def sat_Sat.f (a0 : Int) (a1 : Int) : Option (Int) := (sat_ends.f a1).bind fun bt106 => (if bt106.2.2 = true then ((sat_Clamp.f a0 bt106.1 bt106.2.1).bind fun t109 => (some t109)) else (some 0))
set_option maxHeartbeats 8000000 in
set_option maxRecDepth 100000 in
theorem sat_Sat.calls (a0 : Int) (a1 : Int) (r : Int) (w : World) (h : sat_Sat.f a0 a1 = some r) :
    Calls Try.prog 14 #[.int .i64 a0, .int .i64 a1] w fun e w' => e = .returned (.int .i64 r) ∧ Drawn0 w w' := by
  have H : ((sat_ends.f a1).bind fun bt106 => (if bt106.2.2 = true then ((sat_Clamp.f a0 bt106.1 bt106.2.1).bind fun t109 => (some t109)) else (some 0))) = some r := h
  clear h
  replace H := Option.bind_eq_some_iff.mp H
  obtain ⟨⟨t106, t107, t108⟩, A30, H⟩ := H
  replace H : (if t108 = true then ((sat_Clamp.f a0 t106 t107).bind fun t109 => (some t109)) else (some 0)) = some r := H
  have A3 := Aside0.mk A30
  clear A30
  by_cases c4 : t108 = true
  · subst c4
    have H1 : ((sat_Clamp.f a0 t106 t107).bind fun t109 => (some t109)) = some r := by rw [if_pos rfl] at H; exact H
    clear H
    have H := H1
    clear H1
    replace H := Option.bind_eq_some_iff.mp H
    obtain ⟨t109, A50, H⟩ := H
    replace H : (some t109) = some r := H
    have A5 := Aside0.mk A50
    clear A50
    obtain rfl := Option.some.inj H
    go_enter Try.func14, Try.ntmps14
    go_wp2_with (first | ((with_reducible refine gate_callee (f := 36) rfl ?_); refine goesL_ (some 10) rfl rfl Try.func36 (by kernel_rfl) rfl #[.int .i64 a1] rfl (by (try simp only [List.map_toArray, List.map_cons, List.map_nil]); first | done | rfl | (simp only [List.length_drop, List.length_take]; rfl)) ?_; (with_reducible refine (sat_ends.calls a1 t106 t107 true _ A3.out).mono ?_); rintro e w' ⟨rfl, ⟨nd, rfl⟩⟩; refine ⟨_, rfl, ?_⟩; (try clear A3)) | ((with_reducible refine gate_callee (f := 16) rfl ?_); refine goesL_ (some 19) rfl rfl Try.func16 (by kernel_rfl) rfl #[.int .i64 a0, .int .i64 t106, .int .i64 t107] rfl (by (try simp only [List.map_toArray, List.map_cons, List.map_nil]); first | done | rfl | (simp only [List.length_drop, List.length_take]; rfl)) ?_; (with_reducible refine (sat_Clamp.calls a0 t106 t107 t109 _ A5.out).mono ?_); rintro e w' ⟨rfl, ⟨nd, rfl⟩⟩; refine ⟨_, rfl, ?_⟩; (try clear A5)))
    go_ret
    exact ⟨by first | rfl | (simp; done) | (simp [*]; done), by repeat (first | exact Drawn0.refl _ | apply Drawn0.step)⟩
  · replace c4 := Bool.eq_false_iff.mpr c4
    subst c4
    have H1 : (some 0) = some r := by rw [if_neg (show ¬ (false = true) by decide)] at H; exact H
    clear H
    have H := H1
    clear H1
    obtain rfl := Option.some.inj H
    go_enter Try.func14, Try.ntmps14
    go_wp2_with (first | ((with_reducible refine gate_callee (f := 36) rfl ?_); refine goesL_ (some 10) rfl rfl Try.func36 (by kernel_rfl) rfl #[.int .i64 a1] rfl (by (try simp only [List.map_toArray, List.map_cons, List.map_nil]); first | done | rfl | (simp only [List.length_drop, List.length_take]; rfl)) ?_; (with_reducible refine (sat_ends.calls a1 t106 t107 false _ A3.out).mono ?_); rintro e w' ⟨rfl, ⟨nd, rfl⟩⟩; refine ⟨_, rfl, ?_⟩; (try clear A3)))
    go_ret
    exact ⟨by first | rfl | (simp; done) | (simp [*]; done), by repeat (first | exact Drawn0.refl _ | apply Drawn0.step)⟩

/-! ### sat_Add: function 19 (by hand) -/

def sat_Add.plus (n x : Int) : Int :=
  if 0 < x ∧ wrap64 (9223372036854775807 - x) < n then 9223372036854775807
  else if x < 0 ∧ n < wrap64 (-9223372036854775808 - x) then -9223372036854775808
  else wrap64 (n + x)
def sat_Add.go (b : Int) : List Int → Int → Option Int
  | [], n => some n
  | x :: xs, n => (sat_Sat.f (sat_Add.plus n x) b).bind fun m => sat_Add.go b xs m
def sat_Add.f (a0 : Int) (l1 : List Int) : Option Int := if l1.length < 4611686018427387904 then sat_Add.go a0 l1 0 else none
theorem sat_Add.blk_set_far {w : World} {n : Nat} {t : TypeId} {cs : Array Value} {u : Value} (h : w.heap[n]? = some (.cells cs t (0, 0))) : (w.setCell ⟨n + 1, 0, none⟩ u).heap[n]? = some (.cells cs t (0, 0)) := blk_far h (p := ⟨n + 1, 0, none⟩) (by simp) u

set_option maxHeartbeats 800000 in
set_option maxRecDepth 100000 in
theorem sat_Add1.calls (x n b r : Int) (gn gb : Nat) (w : World) (hne : gb ≠ gn)
    (hn : w.heap[gn]? = some (.cells #[.int .i64 n] 3 (0, 0))) (hb : w.heap[gb]? = some (.cells #[.int .i64 b] 3 (0, 0)))
    (h : sat_Sat.f (sat_Add.plus n x) b = some r) :
    Calls Try.prog 37 #[.int .i64 x, .pointer (some ⟨gn, 0, none⟩), .pointer (some ⟨gb, 0, none⟩)] w fun e w' =>
      e = .returned (.tuple #[]) ∧ w'.heap[gn]? = some (.cells #[.int .i64 r] 3 (0, 0)) ∧ w'.heap[gb]? = some (.cells #[.int .i64 b] 3 (0, 0)) ∧ (∀ B, B ≤ gn → Below B w w') := by
  have hcn : w.cell? ⟨gn, 0, none⟩ = some (.int .i64 n) := cell_of_one hn
  have hcb : w.cell? ⟨gb, 0, none⟩ = some (.int .i64 b) := cell_of_one hb
  have hfn : w.frozen? ⟨gn, 0, none⟩ = false := free_of_one hn
  have HN := Aside0.mk hn; clear hn
  have HB := Aside0.mk hb; clear hb
  unfold sat_Add.plus at h
  by_cases c1 : 0 < x
  · by_cases c2 : wrap64 (9223372036854775807 - x) < n
    · rw [if_pos ⟨c1, c2⟩] at h
      have hA := Aside0.mk h; clear h
      go_enter Try.func37, Try.ntmps37
      go_wp2_with (go_at_call 14; (with_reducible refine (sat_Sat.calls 9223372036854775807 b r _ hA.out).mono ?_); rintro e w' ⟨rfl, ⟨nd, rfl⟩⟩)
      go_end0
      refine ⟨rfl, ?_, ?_, fun B hBg => ?_⟩
      · exact one_setCell (blk_drewN (one_setCell HN.out) nd)
      · exact blk_far (blk_drewN (blk_far HB.out hne _) nd) hne _
      · exact Below.setCell (pw_below_drewN (Below.setCell (Below.refl _ _) (p := ⟨gn, 0, none⟩) hBg _) nd) (p := ⟨gn, 0, none⟩) hBg _
    · rw [if_neg (fun k => c2 k.2), if_neg (fun k => by omega)] at h
      have hA := Aside0.mk h; clear h
      go_enter Try.func37, Try.ntmps37
      go_wp2_with (go_at_call 14; (with_reducible refine (sat_Sat.calls (wrap64 (n + x)) b r _ hA.out).mono ?_); rintro e w' ⟨rfl, ⟨nd, rfl⟩⟩)
      go_end0
      refine ⟨rfl, ?_, ?_, fun B hBg => ?_⟩
      · exact one_setCell (blk_drewN (one_setCell HN.out) nd)
      · exact blk_far (blk_drewN (blk_far HB.out hne _) nd) hne _
      · exact Below.setCell (pw_below_drewN (Below.setCell (Below.refl _ _) (p := ⟨gn, 0, none⟩) hBg _) nd) (p := ⟨gn, 0, none⟩) hBg _
  · rw [if_neg (fun k => c1 k.1)] at h
    by_cases c3 : x < 0
    · by_cases c4 : n < wrap64 (-9223372036854775808 - x)
      · rw [if_pos ⟨c3, c4⟩] at h
        have hA := Aside0.mk h; clear h
        go_enter Try.func37, Try.ntmps37
        go_wp2_with (go_at_call 14; (with_reducible refine (sat_Sat.calls (-9223372036854775808) b r _ hA.out).mono ?_); rintro e w' ⟨rfl, ⟨nd, rfl⟩⟩)
        go_end0
        refine ⟨rfl, ?_, ?_, fun B hBg => ?_⟩
        · exact one_setCell (blk_drewN (one_setCell HN.out) nd)
        · exact blk_far (blk_drewN (blk_far HB.out hne _) nd) hne _
        · exact Below.setCell (pw_below_drewN (Below.setCell (Below.refl _ _) (p := ⟨gn, 0, none⟩) hBg _) nd) (p := ⟨gn, 0, none⟩) hBg _
      · rw [if_neg (fun k => c4 k.2)] at h
        have hA := Aside0.mk h; clear h
        go_enter Try.func37, Try.ntmps37
        go_wp2_with (go_at_call 14; (with_reducible refine (sat_Sat.calls (wrap64 (n + x)) b r _ hA.out).mono ?_); rintro e w' ⟨rfl, ⟨nd, rfl⟩⟩)
        go_end0
        refine ⟨rfl, ?_, ?_, fun B hBg => ?_⟩
        · exact one_setCell (blk_drewN (one_setCell HN.out) nd)
        · exact blk_far (blk_drewN (blk_far HB.out hne _) nd) hne _
        · exact Below.setCell (pw_below_drewN (Below.setCell (Below.refl _ _) (p := ⟨gn, 0, none⟩) hBg _) nd) (p := ⟨gn, 0, none⟩) hBg _
    · rw [if_neg (fun k => c3 k.1)] at h
      have hA := Aside0.mk h; clear h
      go_enter Try.func37, Try.ntmps37
      go_wp2_with (go_at_call 14; (with_reducible refine (sat_Sat.calls (wrap64 (n + x)) b r _ hA.out).mono ?_); rintro e w' ⟨rfl, ⟨nd, rfl⟩⟩)
      go_end0
      refine ⟨rfl, ?_, ?_, fun B hBg => ?_⟩
      · exact one_setCell (blk_drewN (one_setCell HN.out) nd)
      · exact blk_far (blk_drewN (blk_far HB.out hne _) nd) hne _
      · exact Below.setCell (pw_below_drewN (Below.setCell (Below.refl _ _) (p := ⟨gn, 0, none⟩) hBg _) nd) (p := ⟨gn, 0, none⟩) hBg _

theorem sat_Add.go_drop (b : Int) (l : List Int) (i : Nat) (n : Int) (r : Int) (hi : i < l.length) (h : sat_Add.go b (l.drop i) n = some r) :
    ∃ m, sat_Sat.f (sat_Add.plus n (rd l i)) b = some m ∧ sat_Add.go b (l.drop (i + 1)) m = some r := by
  rw [List.drop_eq_getElem_cons hi] at h
  have hr : rd l (i : Int) = l[i] := by unfold rd; simp [hi]
  rw [hr]
  simp only [sat_Add.go] at h
  exact Option.bind_eq_some_iff.mp h

set_option maxHeartbeats 800000 in
set_option maxRecDepth 100000 in
theorem sat_Add.calls (a0 : Int) (A1 : Option Addr) (c1 : Nat) (l1 : List Int) (r : Int) (w : World) (hr1 : Kd.C (Kd.int .i64) w A1 l1.length l1) (hc1 : l1.length ≤ c1) (h : sat_Add.f a0 l1 = some r) :
    Calls Try.prog 19 #[.int .i64 a0, .slice A1 l1.length c1] w fun e w' => e = .returned (.int .i64 r) ∧ Below w.heap.size w w' := by
  unfold sat_Add.f at h
  by_cases hm : l1.length < 4611686018427387904
  case neg => rw [if_neg hm] at h; cases h
  rw [if_pos hm] at h
  have HR := Aside0.mk hr1; clear hr1 hc1
  have HM := Aside0.mk hm; clear hm
  have HA := Aside0.mk h; clear h
  have HG := Aside0.mk (blk_new (w.alloc (.cells #[.int .i64 a0] 3)) (.cells #[.int .i64 0] 3))
  have HB := Aside0.mk (blk_alloc (blk_new w (.cells #[.int .i64 a0] 3)) (.cells #[.int .i64 0] 3))
  go_enter Try.func19, Try.ntmps19
  go_wp2_with fail
  go_loopg [12] l1.length (fun gk v12 W => ∃ (i : Nat) (n : Int), v12 = .int .i64 i ∧ Aside0 (i + gk = l1.length) ∧ Aside0 (sat_Add.go a0 (l1.drop i) n = some r) ∧ Aside0 (W.heap[w.heap.size + 1]? = some (.cells #[.int .i64 n] 3 (0, 0))) ∧ Aside0 (W.heap[w.heap.size]? = some (.cells #[.int .i64 a0] 3 (0, 0))) ∧ Aside0 (Below w.heap.size w W))
  case atStart => exact ⟨0, 0, rfl, ⟨by omega⟩, ⟨HA.out⟩, ⟨by have := HG.out; simpa using this⟩, HB, ⟨below_alloc (below_alloc (Below.refl _ _) _) _⟩⟩
  case round =>
    obtain ⟨i, n, rfl, HK, HS, HN, HBB, HBel⟩ := hrel
    clear HA HG HB
    have hcn := cell_of_one HN.out
    cases gk with
    | zero =>
      have hlt : ¬ ((i : Int) < (l1.length : Int)) := by have := HK.out; omega
      go_wp2
      go_ret
      have hi : l1.length ≤ i := by omega
      have h2 := HS.out
      rw [List.drop_of_length_le hi] at h2
      simp only [sat_Add.go, Option.some.injEq] at h2
      exact ⟨by subst h2; rfl, HBel.out⟩
    | succ k =>
      have hlt : ((i : Int) < (l1.length : Int)) := by have := HK.out; omega
      obtain ⟨m, hs, hgo⟩ := sat_Add.go_drop a0 l1 i n r (by omega) HS.out
      have HSm := Aside0.mk hs; clear hs
      have HGo := Aside0.mk hgo; clear hgo
      have p0 : 0 ≤ (i : Int) := by omega
      obtain ⟨ad, rfl, hx⟩ := Kd.at_int (Kd.C_below HR.out HBel.out) i p0 hlt
      rw [Int.toNat_natCast] at hx
      go_wp2_with (go_at_call 37; (with_reducible refine (sat_Add1.calls _ n a0 m _ _ _ (by omega) HN.out HBB.out HSm.out).mono ?_); rintro e w' ⟨rfl, hn', hb', hbel⟩)
      have HN' := Aside0.mk hn'; have HB' := Aside0.mk hb'; have HBel' := Aside0.mk (HBel.out.trans (hbel _ (by omega)))
      clear hn' hb' hbel hx
      have hmm : (i : Int) < 4611686018427387904 := by have := HM.out; omega
      go_wp2
      go_roundg k
      case measure => omega
      case rel => exact ⟨i + 1, m, by rw [show wrap64 ((i : Int) + 1) = ((i + 1 : Nat) : Int) from by unfold wrap64; omega], ⟨by have := HK.out; omega⟩, HGo, HN', HB', HBel'⟩

/-! ### earshotlaw01_awake: function 13 -/
def earshotlaw01_awake.f (k : Nat)  : Option (Bool) := (sat_Sum.f k (([9223372036854775807, 1, (-1)] : List Int))).bind fun bt113 => ((sat_Add.f 8 (([100, 100, (-1)] : List Int))).bind fun t118 => (if t118 = 126 then (if bt113.1 = 9223372036854775807 then (some bt113.2) else (some false)) else (some false)))
theorem earshotlaw01_awake.mono : ∀ k, LeO (earshotlaw01_awake.f k ) (earshotlaw01_awake.f (k + 1) ) := by
  intro  k
  unfold earshotlaw01_awake.f
  repeat' first
      | (with_reducible exact sat_Sum.mono _ _)
      | (with_reducible exact LeO.refl _)
      | (with_reducible exact LeO.none _)
      | (with_reducible refine LeO.ite ?_ ?_)
      | (with_reducible refine LeO.bind ?_ (fun _ => ?_))
      | exact sat_Sum.mono _ _
      | exact LeO.none _
      | refine LeO.ite ?_ ?_
      | refine LeO.bind ?_ (fun _ => ?_)
set_option maxHeartbeats 8000000 in
set_option maxRecDepth 100000 in
theorem earshotlaw01_awake.calls (k : Nat)  (r : Bool) (w : World) (h : earshotlaw01_awake.f k  = some r) :
    Calls Try.prog 13 #[] w fun e w' => e = .returned (.bool r) ∧ Below w.heap.size w w' := by
  have HB := Aside0.mk (Below.refl w.heap.size w)
  have H : ((sat_Sum.f k (([9223372036854775807, 1, (-1)] : List Int))).bind fun bt113 => ((sat_Add.f 8 (([100, 100, (-1)] : List Int))).bind fun t118 => (if t118 = 126 then (if bt113.1 = 9223372036854775807 then (some bt113.2) else (some false)) else (some false)))) = some r := h
  clear h
  obtain ⟨y110, hy110⟩ : ∃ y_ : List Int, y_ = (([9223372036854775807, 1, (-1)] : List Int)) := ⟨_, rfl⟩
  replace H : ((sat_Sum.f k y110).bind fun bt113 => ((sat_Add.f 8 (([100, 100, (-1)] : List Int))).bind fun t118 => (if t118 = 126 then (if bt113.1 = 9223372036854775807 then (some bt113.2) else (some false)) else (some false)))) = some r := by first | (rw [hy110]; with_reducible exact H) | (have H2_ := (Option.bind_some _ _).symm.trans H; rw [hy110]; with_reducible exact H2_) | (have H2_ := (Option.bind_some _ _).symm.trans H; with_reducible exact H2_) | with_reducible exact H | (rw [hy110]; exact H) | exact H
  have Ny110 := Aside0.mk hy110
  clear hy110
  replace H := Option.bind_eq_some_iff.mp H
  obtain ⟨⟨t113, t114⟩, A10, H⟩ := H
  replace H : ((sat_Add.f 8 (([100, 100, (-1)] : List Int))).bind fun t118 => (if t118 = 126 then (if t113 = 9223372036854775807 then (some t114) else (some false)) else (some false))) = some r := H
  have A1 := Aside0.mk A10
  clear A10
  obtain ⟨y115, hy115⟩ : ∃ y_ : List Int, y_ = (([100, 100, (-1)] : List Int)) := ⟨_, rfl⟩
  replace H : ((sat_Add.f 8 y115).bind fun t118 => (if t118 = 126 then (if t113 = 9223372036854775807 then (some t114) else (some false)) else (some false))) = some r := by first | (rw [hy115]; with_reducible exact H) | (have H2_ := (Option.bind_some _ _).symm.trans H; rw [hy115]; with_reducible exact H2_) | (have H2_ := (Option.bind_some _ _).symm.trans H; with_reducible exact H2_) | with_reducible exact H | (rw [hy115]; exact H) | exact H
  have Ny115 := Aside0.mk hy115
  clear hy115
  replace H := Option.bind_eq_some_iff.mp H
  obtain ⟨t118, A20, H⟩ := H
  replace H : (if t118 = 126 then (if t113 = 9223372036854775807 then (some t114) else (some false)) else (some false)) = some r := H
  have A2 := Aside0.mk A20
  clear A20
  by_cases c3 : t118 = 126
  · rw [if_pos c3] at H
    have c3b0 : (t118 == 126) = true := beq_iff_eq.mpr c3
    have c3b1 : (t118 != 126) = false := bne_eq_false_iff_eq.mpr c3
    clear c3
    by_cases c4 : t113 = 9223372036854775807
    · rw [if_pos c4] at H
      have c4b0 : (t113 == 9223372036854775807) = true := beq_iff_eq.mpr c4
      have c4b1 : (t113 != 9223372036854775807) = false := bne_eq_false_iff_eq.mpr c4
      clear c4
      obtain rfl := Option.some.inj H
      go_enter Try.func13, Try.ntmps13
      go_wp2_with (first | ((with_reducible refine gate_dst (N := 4) rfl ?_); refine Kd.R_lit (Kd.int .i64) _ 3 ?hg (N := 4) ?hd (xs := ([9223372036854775807, 1, (-1)] : List Int)) (inner := [.int .i64 9223372036854775807, .int .i64 1, .int .i64 (-1)]) (ok := fun _ => True) (okp := fun _ => True) ?hr ?hp (fun _ hk => hk) trivial (Below.refl _ _) (Nat.le_refl _) (by simp) ?_; (case hd => rfl); (case hg => rfl); (case hr => first | (go_simp; done) | (go_simp; rfl)); (case hp => exact (Reps.one (show Kd.M (Kd.int .i64) _ _ _ 9223372036854775807 [.int .i64 9223372036854775807] from rfl) (Reps.one (show Kd.M (Kd.int .i64) _ _ _ 1 [.int .i64 1] from rfl) (Reps.one (show Kd.M (Kd.int .i64) _ _ _ (-1) [.int .i64 (-1)] from rfl) (Reps.none _ _))))); intro v111 w5 ho6 hb hg_ hnew_; clear hg_ hnew_; (first | rw [← Ny110.out] at ho6 | (simp only [Int.reduceToNat] at ho6; rw [← Ny110.out] at ho6)); have n0_ := Aside0.mk (Kd.R_lower ho6 (below_size (by repeat (first | (with_reducible first | exact HB.out | apply below_alloc | apply pw_below_drewN | apply below_drew1) | exact HB.out)))); have n1_ := Aside0.mk (below_step (by repeat (first | (with_reducible first | exact HB.out | apply below_alloc | apply pw_below_drewN | apply below_drew1) | exact HB.out)) hb); clear HB; have HO112 := n0_; have HB := n1_; clear n0_ n1_; clear hb ho6; obtain ⟨Ao7, co7, eo7⟩ := Kd.R_slice HO112.out; subst eo7) | ((with_reducible refine gate_callee (f := 18) rfl ?_); refine goesL_ (some 5) rfl rfl Try.func18 (by kernel_rfl) rfl #[.slice Ao7 y110.length co7] rfl (by (try simp only [List.map_toArray, List.map_cons, List.map_nil]); first | done | rfl | (simp only [List.length_drop, List.length_take]; rfl)) ?_; (with_reducible refine (sat_Sum.calls k _ _ y110 t113 t114 _ ?side1 ?side2 A1.out).mono ?_); (case side1 => repeat (first | exact (Kd.R_reads' HO112.out).2.2 | (with_reducible refine Kd.C_alloc ?_ _) | (with_reducible refine Kd.C_drewN ?_ _) | (with_reducible refine Kd.C_drew ?_))); (case side2 => exact (Kd.R_reads' HO112.out).2.1); rintro e w' ⟨rfl, ⟨nd, rfl⟩⟩; refine ⟨_, rfl, ?_⟩; (try clear A1)) | ((with_reducible refine gate_dst (N := 8) rfl ?_); refine Kd.R_lit (Kd.int .i64) _ 3 ?hg (N := 8) ?hd (xs := ([100, 100, (-1)] : List Int)) (inner := [.int .i64 100, .int .i64 100, .int .i64 (-1)]) (ok := fun _ => True) (okp := fun _ => True) ?hr ?hp (fun _ hk => hk) trivial (Below.refl _ _) (Nat.le_refl _) (by simp) ?_; (case hd => rfl); (case hg => rfl); (case hr => first | (go_simp; done) | (go_simp; rfl)); (case hp => exact (Reps.one (show Kd.M (Kd.int .i64) _ _ _ 100 [.int .i64 100] from rfl) (Reps.one (show Kd.M (Kd.int .i64) _ _ _ 100 [.int .i64 100] from rfl) (Reps.one (show Kd.M (Kd.int .i64) _ _ _ (-1) [.int .i64 (-1)] from rfl) (Reps.none _ _))))); intro v116 w8 ho9 hb hg_ hnew_; clear hg_ hnew_; (first | rw [← Ny115.out] at ho9 | (simp only [Int.reduceToNat] at ho9; rw [← Ny115.out] at ho9)); have n0_ := Aside0.mk (Kd.R_elder' (by (with_reducible repeat (first | apply Kd.R_alloc | apply Kd.R_drewN | apply Kd.R_drew)); exact HO112.out) (Kd.R_base ho9) hb); have n1_ := Aside0.mk (Kd.R_lower (Kd.R_new' ho9 (Kd.R_lt (by (with_reducible repeat (first | apply Kd.R_alloc | apply Kd.R_drewN | apply Kd.R_drew)); exact HO112.out))) (below_size (by repeat (first | (with_reducible first | exact HB.out | apply below_alloc | apply pw_below_drewN | apply below_drew1) | exact HB.out)))); have n2_ := Aside0.mk (below_step (by repeat (first | (with_reducible first | exact HB.out | apply below_alloc | apply pw_below_drewN | apply below_drew1) | exact HB.out)) hb); clear HO112; clear HB; have HO112 := n0_; have HO117 := n1_; have HB := n2_; clear n0_ n1_ n2_; clear hb ho9; obtain ⟨Ao10, co10, eo10⟩ := Kd.R_slice HO117.out; subst eo10) | ((with_reducible refine gate_callee (f := 19) rfl ?_); refine goesL_ (some 9) rfl rfl Try.func19 (by kernel_rfl) rfl #[.int .i64 8, .slice Ao10 y115.length co10] rfl (by (try simp only [List.map_toArray, List.map_cons, List.map_nil]); first | done | rfl | (simp only [List.length_drop, List.length_take]; rfl)) ?_; (with_reducible refine (sat_Add.calls 8 _ _ y115 t118 _ ?side1 ?side2 A2.out).mono ?_); (case side1 => repeat (first | exact (Kd.R_reads' HO117.out).2.2 | (with_reducible refine Kd.C_alloc ?_ _) | (with_reducible refine Kd.C_drewN ?_ _) | (with_reducible refine Kd.C_drew ?_))); (case side2 => exact (Kd.R_reads' HO117.out).2.1); rintro e w11 ⟨rfl, hb⟩; refine ⟨_, rfl, ?_⟩; have n0_ := Aside0.mk (Kd.R_below (by (with_reducible repeat (first | apply Kd.R_alloc | apply Kd.R_drewN | apply Kd.R_drew)); exact HO112.out) hb); have n1_ := Aside0.mk (Kd.R_below (by (with_reducible repeat (first | apply Kd.R_alloc | apply Kd.R_drewN | apply Kd.R_drew)); exact HO117.out) hb); have n2_ := Aside0.mk (below_step (by repeat (first | (with_reducible first | exact HB.out | apply below_alloc | apply pw_below_drewN | apply below_drew1) | exact HB.out)) hb); clear HO112; clear HO117; clear HB; have HO112 := n0_; have HO117 := n1_; have HB := n2_; clear n0_ n1_ n2_; (try clear hb); (try clear hb2); (try clear hk); (try clear hi); (try clear A2)))
      go_ret
      exact ⟨by first | rfl | (simp only [Int.tdiv_eq_ediv_of_nonneg (show (0 : Int) ≤ 9223372036854775807 by decide), Int.tdiv_eq_ediv_of_nonneg (show (0 : Int) ≤ 9223372036854775808 by decide)] <;> rfl) | (simp [errW_none, errW_some] <;> rfl) | (simp [*, errW_none, errW_some] <;> rfl), by repeat (first | (with_reducible first | exact HB.out | apply below_alloc | apply pw_below_drewN | apply below_drew1) | exact HB.out)⟩
    · rw [if_neg c4] at H
      have c4b0 : (t113 == 9223372036854775807) = false := beq_eq_false_iff_ne.mpr c4
      have c4b1 : (t113 != 9223372036854775807) = true := bne_iff_ne.mpr c4
      obtain rfl := Option.some.inj H
      go_enter Try.func13, Try.ntmps13
      go_wp2_with (first | ((with_reducible refine gate_dst (N := 4) rfl ?_); refine Kd.R_lit (Kd.int .i64) _ 3 ?hg (N := 4) ?hd (xs := ([9223372036854775807, 1, (-1)] : List Int)) (inner := [.int .i64 9223372036854775807, .int .i64 1, .int .i64 (-1)]) (ok := fun _ => True) (okp := fun _ => True) ?hr ?hp (fun _ hk => hk) trivial (Below.refl _ _) (Nat.le_refl _) (by simp) ?_; (case hd => rfl); (case hg => rfl); (case hr => first | (go_simp; done) | (go_simp; rfl)); (case hp => exact (Reps.one (show Kd.M (Kd.int .i64) _ _ _ 9223372036854775807 [.int .i64 9223372036854775807] from rfl) (Reps.one (show Kd.M (Kd.int .i64) _ _ _ 1 [.int .i64 1] from rfl) (Reps.one (show Kd.M (Kd.int .i64) _ _ _ (-1) [.int .i64 (-1)] from rfl) (Reps.none _ _))))); intro v111 w12 ho13 hb hg_ hnew_; clear hg_ hnew_; (first | rw [← Ny110.out] at ho13 | (simp only [Int.reduceToNat] at ho13; rw [← Ny110.out] at ho13)); have n0_ := Aside0.mk (Kd.R_lower ho13 (below_size (by repeat (first | (with_reducible first | exact HB.out | apply below_alloc | apply pw_below_drewN | apply below_drew1) | exact HB.out)))); have n1_ := Aside0.mk (below_step (by repeat (first | (with_reducible first | exact HB.out | apply below_alloc | apply pw_below_drewN | apply below_drew1) | exact HB.out)) hb); clear HB; have HO112 := n0_; have HB := n1_; clear n0_ n1_; clear hb ho13; obtain ⟨Ao14, co14, eo14⟩ := Kd.R_slice HO112.out; subst eo14) | ((with_reducible refine gate_callee (f := 18) rfl ?_); refine goesL_ (some 5) rfl rfl Try.func18 (by kernel_rfl) rfl #[.slice Ao14 y110.length co14] rfl (by (try simp only [List.map_toArray, List.map_cons, List.map_nil]); first | done | rfl | (simp only [List.length_drop, List.length_take]; rfl)) ?_; (with_reducible refine (sat_Sum.calls k _ _ y110 t113 t114 _ ?side1 ?side2 A1.out).mono ?_); (case side1 => repeat (first | exact (Kd.R_reads' HO112.out).2.2 | (with_reducible refine Kd.C_alloc ?_ _) | (with_reducible refine Kd.C_drewN ?_ _) | (with_reducible refine Kd.C_drew ?_))); (case side2 => exact (Kd.R_reads' HO112.out).2.1); rintro e w' ⟨rfl, ⟨nd, rfl⟩⟩; refine ⟨_, rfl, ?_⟩; (try clear A1)) | ((with_reducible refine gate_dst (N := 8) rfl ?_); refine Kd.R_lit (Kd.int .i64) _ 3 ?hg (N := 8) ?hd (xs := ([100, 100, (-1)] : List Int)) (inner := [.int .i64 100, .int .i64 100, .int .i64 (-1)]) (ok := fun _ => True) (okp := fun _ => True) ?hr ?hp (fun _ hk => hk) trivial (Below.refl _ _) (Nat.le_refl _) (by simp) ?_; (case hd => rfl); (case hg => rfl); (case hr => first | (go_simp; done) | (go_simp; rfl)); (case hp => exact (Reps.one (show Kd.M (Kd.int .i64) _ _ _ 100 [.int .i64 100] from rfl) (Reps.one (show Kd.M (Kd.int .i64) _ _ _ 100 [.int .i64 100] from rfl) (Reps.one (show Kd.M (Kd.int .i64) _ _ _ (-1) [.int .i64 (-1)] from rfl) (Reps.none _ _))))); intro v116 w15 ho16 hb hg_ hnew_; clear hg_ hnew_; (first | rw [← Ny115.out] at ho16 | (simp only [Int.reduceToNat] at ho16; rw [← Ny115.out] at ho16)); have n0_ := Aside0.mk (Kd.R_elder' (by (with_reducible repeat (first | apply Kd.R_alloc | apply Kd.R_drewN | apply Kd.R_drew)); exact HO112.out) (Kd.R_base ho16) hb); have n1_ := Aside0.mk (Kd.R_lower (Kd.R_new' ho16 (Kd.R_lt (by (with_reducible repeat (first | apply Kd.R_alloc | apply Kd.R_drewN | apply Kd.R_drew)); exact HO112.out))) (below_size (by repeat (first | (with_reducible first | exact HB.out | apply below_alloc | apply pw_below_drewN | apply below_drew1) | exact HB.out)))); have n2_ := Aside0.mk (below_step (by repeat (first | (with_reducible first | exact HB.out | apply below_alloc | apply pw_below_drewN | apply below_drew1) | exact HB.out)) hb); clear HO112; clear HB; have HO112 := n0_; have HO117 := n1_; have HB := n2_; clear n0_ n1_ n2_; clear hb ho16; obtain ⟨Ao17, co17, eo17⟩ := Kd.R_slice HO117.out; subst eo17) | ((with_reducible refine gate_callee (f := 19) rfl ?_); refine goesL_ (some 9) rfl rfl Try.func19 (by kernel_rfl) rfl #[.int .i64 8, .slice Ao17 y115.length co17] rfl (by (try simp only [List.map_toArray, List.map_cons, List.map_nil]); first | done | rfl | (simp only [List.length_drop, List.length_take]; rfl)) ?_; (with_reducible refine (sat_Add.calls 8 _ _ y115 t118 _ ?side1 ?side2 A2.out).mono ?_); (case side1 => repeat (first | exact (Kd.R_reads' HO117.out).2.2 | (with_reducible refine Kd.C_alloc ?_ _) | (with_reducible refine Kd.C_drewN ?_ _) | (with_reducible refine Kd.C_drew ?_))); (case side2 => exact (Kd.R_reads' HO117.out).2.1); rintro e w18 ⟨rfl, hb⟩; refine ⟨_, rfl, ?_⟩; have n0_ := Aside0.mk (Kd.R_below (by (with_reducible repeat (first | apply Kd.R_alloc | apply Kd.R_drewN | apply Kd.R_drew)); exact HO112.out) hb); have n1_ := Aside0.mk (Kd.R_below (by (with_reducible repeat (first | apply Kd.R_alloc | apply Kd.R_drewN | apply Kd.R_drew)); exact HO117.out) hb); have n2_ := Aside0.mk (below_step (by repeat (first | (with_reducible first | exact HB.out | apply below_alloc | apply pw_below_drewN | apply below_drew1) | exact HB.out)) hb); clear HO112; clear HO117; clear HB; have HO112 := n0_; have HO117 := n1_; have HB := n2_; clear n0_ n1_ n2_; (try clear hb); (try clear hb2); (try clear hk); (try clear hi); (try clear A2)))
      go_ret
      exact ⟨by first | rfl | (simp only [Int.tdiv_eq_ediv_of_nonneg (show (0 : Int) ≤ 9223372036854775807 by decide), Int.tdiv_eq_ediv_of_nonneg (show (0 : Int) ≤ 9223372036854775808 by decide)] <;> rfl) | (simp [errW_none, errW_some] <;> rfl) | (simp [*, errW_none, errW_some] <;> rfl), by repeat (first | (with_reducible first | exact HB.out | apply below_alloc | apply pw_below_drewN | apply below_drew1) | exact HB.out)⟩
  · rw [if_neg c3] at H
    have c3b0 : (t118 == 126) = false := beq_eq_false_iff_ne.mpr c3
    have c3b1 : (t118 != 126) = true := bne_iff_ne.mpr c3
    obtain rfl := Option.some.inj H
    go_enter Try.func13, Try.ntmps13
    go_wp2_with (first | ((with_reducible refine gate_dst (N := 4) rfl ?_); refine Kd.R_lit (Kd.int .i64) _ 3 ?hg (N := 4) ?hd (xs := ([9223372036854775807, 1, (-1)] : List Int)) (inner := [.int .i64 9223372036854775807, .int .i64 1, .int .i64 (-1)]) (ok := fun _ => True) (okp := fun _ => True) ?hr ?hp (fun _ hk => hk) trivial (Below.refl _ _) (Nat.le_refl _) (by simp) ?_; (case hd => rfl); (case hg => rfl); (case hr => first | (go_simp; done) | (go_simp; rfl)); (case hp => exact (Reps.one (show Kd.M (Kd.int .i64) _ _ _ 9223372036854775807 [.int .i64 9223372036854775807] from rfl) (Reps.one (show Kd.M (Kd.int .i64) _ _ _ 1 [.int .i64 1] from rfl) (Reps.one (show Kd.M (Kd.int .i64) _ _ _ (-1) [.int .i64 (-1)] from rfl) (Reps.none _ _))))); intro v111 w19 ho20 hb hg_ hnew_; clear hg_ hnew_; (first | rw [← Ny110.out] at ho20 | (simp only [Int.reduceToNat] at ho20; rw [← Ny110.out] at ho20)); have n0_ := Aside0.mk (Kd.R_lower ho20 (below_size (by repeat (first | (with_reducible first | exact HB.out | apply below_alloc | apply pw_below_drewN | apply below_drew1) | exact HB.out)))); have n1_ := Aside0.mk (below_step (by repeat (first | (with_reducible first | exact HB.out | apply below_alloc | apply pw_below_drewN | apply below_drew1) | exact HB.out)) hb); clear HB; have HO112 := n0_; have HB := n1_; clear n0_ n1_; clear hb ho20; obtain ⟨Ao21, co21, eo21⟩ := Kd.R_slice HO112.out; subst eo21) | ((with_reducible refine gate_callee (f := 18) rfl ?_); refine goesL_ (some 5) rfl rfl Try.func18 (by kernel_rfl) rfl #[.slice Ao21 y110.length co21] rfl (by (try simp only [List.map_toArray, List.map_cons, List.map_nil]); first | done | rfl | (simp only [List.length_drop, List.length_take]; rfl)) ?_; (with_reducible refine (sat_Sum.calls k _ _ y110 t113 t114 _ ?side1 ?side2 A1.out).mono ?_); (case side1 => repeat (first | exact (Kd.R_reads' HO112.out).2.2 | (with_reducible refine Kd.C_alloc ?_ _) | (with_reducible refine Kd.C_drewN ?_ _) | (with_reducible refine Kd.C_drew ?_))); (case side2 => exact (Kd.R_reads' HO112.out).2.1); rintro e w' ⟨rfl, ⟨nd, rfl⟩⟩; refine ⟨_, rfl, ?_⟩; (try clear A1)) | ((with_reducible refine gate_dst (N := 8) rfl ?_); refine Kd.R_lit (Kd.int .i64) _ 3 ?hg (N := 8) ?hd (xs := ([100, 100, (-1)] : List Int)) (inner := [.int .i64 100, .int .i64 100, .int .i64 (-1)]) (ok := fun _ => True) (okp := fun _ => True) ?hr ?hp (fun _ hk => hk) trivial (Below.refl _ _) (Nat.le_refl _) (by simp) ?_; (case hd => rfl); (case hg => rfl); (case hr => first | (go_simp; done) | (go_simp; rfl)); (case hp => exact (Reps.one (show Kd.M (Kd.int .i64) _ _ _ 100 [.int .i64 100] from rfl) (Reps.one (show Kd.M (Kd.int .i64) _ _ _ 100 [.int .i64 100] from rfl) (Reps.one (show Kd.M (Kd.int .i64) _ _ _ (-1) [.int .i64 (-1)] from rfl) (Reps.none _ _))))); intro v116 w22 ho23 hb hg_ hnew_; clear hg_ hnew_; (first | rw [← Ny115.out] at ho23 | (simp only [Int.reduceToNat] at ho23; rw [← Ny115.out] at ho23)); have n0_ := Aside0.mk (Kd.R_elder' (by (with_reducible repeat (first | apply Kd.R_alloc | apply Kd.R_drewN | apply Kd.R_drew)); exact HO112.out) (Kd.R_base ho23) hb); have n1_ := Aside0.mk (Kd.R_lower (Kd.R_new' ho23 (Kd.R_lt (by (with_reducible repeat (first | apply Kd.R_alloc | apply Kd.R_drewN | apply Kd.R_drew)); exact HO112.out))) (below_size (by repeat (first | (with_reducible first | exact HB.out | apply below_alloc | apply pw_below_drewN | apply below_drew1) | exact HB.out)))); have n2_ := Aside0.mk (below_step (by repeat (first | (with_reducible first | exact HB.out | apply below_alloc | apply pw_below_drewN | apply below_drew1) | exact HB.out)) hb); clear HO112; clear HB; have HO112 := n0_; have HO117 := n1_; have HB := n2_; clear n0_ n1_ n2_; clear hb ho23; obtain ⟨Ao24, co24, eo24⟩ := Kd.R_slice HO117.out; subst eo24) | ((with_reducible refine gate_callee (f := 19) rfl ?_); refine goesL_ (some 9) rfl rfl Try.func19 (by kernel_rfl) rfl #[.int .i64 8, .slice Ao24 y115.length co24] rfl (by (try simp only [List.map_toArray, List.map_cons, List.map_nil]); first | done | rfl | (simp only [List.length_drop, List.length_take]; rfl)) ?_; (with_reducible refine (sat_Add.calls 8 _ _ y115 t118 _ ?side1 ?side2 A2.out).mono ?_); (case side1 => repeat (first | exact (Kd.R_reads' HO117.out).2.2 | (with_reducible refine Kd.C_alloc ?_ _) | (with_reducible refine Kd.C_drewN ?_ _) | (with_reducible refine Kd.C_drew ?_))); (case side2 => exact (Kd.R_reads' HO117.out).2.1); rintro e w25 ⟨rfl, hb⟩; refine ⟨_, rfl, ?_⟩; have n0_ := Aside0.mk (Kd.R_below (by (with_reducible repeat (first | apply Kd.R_alloc | apply Kd.R_drewN | apply Kd.R_drew)); exact HO112.out) hb); have n1_ := Aside0.mk (Kd.R_below (by (with_reducible repeat (first | apply Kd.R_alloc | apply Kd.R_drewN | apply Kd.R_drew)); exact HO117.out) hb); have n2_ := Aside0.mk (below_step (by repeat (first | (with_reducible first | exact HB.out | apply below_alloc | apply pw_below_drewN | apply below_drew1) | exact HB.out)) hb); clear HO112; clear HO117; clear HB; have HO112 := n0_; have HO117 := n1_; have HB := n2_; clear n0_ n1_ n2_; (try clear hb); (try clear hb2); (try clear hk); (try clear hi); (try clear A2)))
    go_ret
    exact ⟨by first | rfl | (simp only [Int.tdiv_eq_ediv_of_nonneg (show (0 : Int) ≤ 9223372036854775807 by decide), Int.tdiv_eq_ediv_of_nonneg (show (0 : Int) ≤ 9223372036854775808 by decide)] <;> rfl) | (simp [errW_none, errW_some] <;> rfl) | (simp [*, errW_none, errW_some] <;> rfl), by repeat (first | (with_reducible first | exact HB.out | apply below_alloc | apply pw_below_drewN | apply below_drew1) | exact HB.out)⟩

/-! ### earshotlaw01_few: function 17 -/
def earshotlaw01_few.f (l0 : List Int) : Option (List Int) := if (l0.length : Int) > 40 then (if 40 ≤ (l0.length : Int) then (some (l0.take 40)) else (none)) else (some l0)
set_option maxHeartbeats 8000000 in
set_option maxRecDepth 100000 in
theorem earshotlaw01_few.calls (P0_ : Nat → Prop) (A0 : Option Addr) (c0 : Nat) (l0 : List Int) (r : List Int) (w : World) (hs0 : Kd.V (Kd.int .i64) 3 w w.heap.size (fun k_ => P0_ k_) (.slice A0 l0.length c0) l0) (h : earshotlaw01_few.f l0 = some r) :
    Calls Try.prog 17 #[.slice A0 l0.length c0] w fun e w' => ∃ v0_ : Value, e = .returned (v0_) ∧ Kd.V (Kd.int .i64) 3 w' w.heap.size (fun k_ => (P0_ k_ ∨ w.heap.size ≤ k_)) v0_ r ∧ Below w.heap.size w w' := by
  have HO0 := Aside0.mk (show Kd.V (Kd.int .i64) 3 w w.heap.size (fun k_ => (P0_ k_ ∨ w.heap.size ≤ k_)) (.slice A0 l0.length c0) l0 from Kd.V_mono hs0 (fun k_ hk => .inl hk))
  have HB := Aside0.mk (Below.refl w.heap.size w)
  have H : (if (l0.length : Int) > 40 then (if 40 ≤ (l0.length : Int) then (some (l0.take 40)) else (none)) else (some l0)) = some r := h
  clear h
  by_cases c2 : (l0.length : Int) > 40
  · rw [if_pos c2] at H
    have c2b0 : decide (40 < (l0.length : Int)) = true := decide_eq_true c2
    have c2b1 : decide (40 < l0.length) = true := decide_eq_true (by omega)
    clear c2
    by_cases c3 : 40 ≤ (l0.length : Int)
    · rw [if_pos c3] at H
      have c3b0 := eq_true c3
      have c3b1 : decide (40 ≤ (l0.length : Int)) = true := decide_eq_true c3
      clear c3
      obtain ⟨y119, hy119⟩ : ∃ y_ : List Int, y_ = (l0.take 40) := ⟨_, rfl⟩
      replace H : (some y119) = some r := by first | (rw [hy119]; with_reducible exact H) | (have H2_ := (Option.bind_some _ _).symm.trans H; rw [hy119]; with_reducible exact H2_) | (have H2_ := (Option.bind_some _ _).symm.trans H; with_reducible exact H2_) | with_reducible exact H | (rw [hy119]; exact H) | exact H
      have Ny119 := Aside0.mk hy119
      clear hy119
      obtain rfl := Option.some.inj H
      have q4 : (40 : Int) ≤ ((l0.length : Int) : Int) := of_decide_eq_true (by first | (with_reducible assumption) | assumption)
      obtain ⟨i04, hi04, _, hsz4, _⟩ := info_parts info3
      have hroom4 : l0.length ≤ c0 := (Kd.V_reads' HO0.out).2.1
      have hC4 : Kd.F (Kd.int .i64) _ _ A0 l0.length l0 := (Kd.V_at (base := w.heap.size) HO0.out).2.2
      have hcut4 := cut_to (P := Try.prog) 27 3 .i64 Try.underlying27 hi04 A0 l0.length c0 40 (by omega) q4 hroom4
      have hr4 := Kd.F_take (m := 40) hC4 (by omega)
      have hy4 : y119.length = (40 : Int).toNat := (by rw [Ny119.out, List.length_take]; omega)
      rw [← Ny119.out] at hr4
      rw [← hy4] at hcut4
      have HO123 := Aside0.mk (show Kd.V (Kd.int .i64) 3 _ w.heap.size _ (.slice A0 y119.length c0) y119 from Kd.V_mk (by omega) hr4)
      have HC123 := Aside0.mk (show y119.length ≤ c0 from by omega)
      clear hr4 hC4 hroom4 hi04 hsz4
      have KY4 := Aside0.mk hy4
      clear hy4
      replace q4 := eq_true q4
      go_enter Try.func17, Try.ntmps17
      go_wp2
      go_ret
      exact ⟨_, by first | rfl | (simp only [Int.tdiv_eq_ediv_of_nonneg (show (0 : Int) ≤ 9223372036854775807 by decide), Int.tdiv_eq_ediv_of_nonneg (show (0 : Int) ≤ 9223372036854775808 by decide)] <;> rfl) | (simp [errW_none, errW_some] <;> rfl) | (simp [*, errW_none, errW_some] <;> rfl), by (with_reducible repeat (first | apply Kd.V_alloc | apply Kd.V_drewN | apply Kd.V_drew)); exact HO123.out, by repeat (first | (with_reducible first | exact HB.out | apply below_alloc | apply pw_below_drewN | apply below_drew1) | exact HB.out)⟩
    · rw [if_neg c3] at H
      exact absurd H (by simp)
  · rw [if_neg c2] at H
    have c2b0 : decide (40 < (l0.length : Int)) = false := decide_eq_false c2
    have c2b1 : decide (40 < l0.length) = false := decide_eq_false (by omega)
    clear c2
    obtain rfl := Option.some.inj H
    go_enter Try.func17, Try.ntmps17
    go_wp2
    go_ret
    exact ⟨_, by first | rfl | (simp only [Int.tdiv_eq_ediv_of_nonneg (show (0 : Int) ≤ 9223372036854775807 by decide), Int.tdiv_eq_ediv_of_nonneg (show (0 : Int) ≤ 9223372036854775808 by decide)] <;> rfl) | (simp [errW_none, errW_some] <;> rfl) | (simp [*, errW_none, errW_some] <;> rfl), by (with_reducible repeat (first | apply Kd.V_alloc | apply Kd.V_drewN | apply Kd.V_drew)); exact HO0.out, by repeat (first | (with_reducible first | exact HB.out | apply below_alloc | apply pw_below_drewN | apply below_drew1) | exact HB.out)⟩

/-! ### earshotref01_Sum: function 20 -/
def earshotref01_Sum.l0 : Nat → List Int → Int → Int → Int → Option (Int × Bool)
  | 0, _, _, _, _ => none
  | k + 1, x0, x3, x4, x5 => if x5 < (x0.length : Int) then (if 0 ≤ x5 then (earshotref01_Sum.l0 k x0 (wrap64 (x3 + ((rd x0 x5) / 4294967296))) (wrap64 (x4 + (Go.bits .and .i64 (rd x0 x5) 4294967295))) (wrap64 (x5 + 1))) else (none)) else (if (wrap64 (x3 + (x4 / 4294967296))) < (-2147483648) then (some (0, false)) else (if (wrap64 (x3 + (x4 / 4294967296))) > 2147483647 then (some (0, false)) else (some (wrap64 ((wrap64 ((wrap64 (x3 + (x4 / 4294967296))) * 4294967296)) + (Go.bits .and .i64 x4 4294967295)), true))))
def earshotref01_Sum.f (k : Nat) (l0 : List Int) : Option (Int × Bool) := earshotref01_Sum.l0 k l0 0 0 0
theorem earshotref01_Sum.mono_l : ∀ k, (∀ y0 y1 y2 y3, LeO (earshotref01_Sum.l0 k y0 y1 y2 y3) (earshotref01_Sum.l0 (k + 1) y0 y1 y2 y3))
  | 0 => fun _ _ _ _ r h => by simp [earshotref01_Sum.l0] at h
  | k + 1 => by
    have ih0 := earshotref01_Sum.mono_l k
    · intro y0 y1 y2 y3
      unfold earshotref01_Sum.l0
      repeat' first
      | (with_reducible exact ih0 _ _ _ _)
      | (with_reducible exact LeO.refl _)
      | (with_reducible exact LeO.none _)
      | (with_reducible refine LeO.ite ?_ ?_)
      | (with_reducible refine LeO.bind ?_ (fun _ => ?_))
      | exact ih0 _ _ _ _
      | exact LeO.none _
      | refine LeO.ite ?_ ?_
      | refine LeO.bind ?_ (fun _ => ?_)
theorem earshotref01_Sum.mono : ∀ a0 k, LeO (earshotref01_Sum.f k a0) (earshotref01_Sum.f (k + 1) a0) := by
  intro a0 k
  have ih0 := earshotref01_Sum.mono_l k
  unfold earshotref01_Sum.f
  repeat' first
      | (with_reducible exact ih0 _ _ _ _)
      | (with_reducible exact LeO.refl _)
      | (with_reducible exact LeO.none _)
      | (with_reducible refine LeO.ite ?_ ?_)
      | (with_reducible refine LeO.bind ?_ (fun _ => ?_))
      | exact ih0 _ _ _ _
      | exact LeO.none _
      | refine LeO.ite ?_ ?_
      | refine LeO.bind ?_ (fun _ => ?_)
set_option maxHeartbeats 8000000 in
set_option maxRecDepth 100000 in
theorem earshotref01_Sum.calls (k : Nat) (A0 : Option Addr) (c0 : Nat) (l0 : List Int) (r1 : Int) (r2 : Bool) (w : World) (hr0 : Kd.C (Kd.int .i64) w A0 l0.length l0) (hc0 : l0.length ≤ c0) (h : earshotref01_Sum.f k l0 = some (r1, r2)) :
    Calls Try.prog 20 #[.slice A0 l0.length c0] w fun e w' => e = .returned (.agg #[.int .i64 r1, .bool r2]) ∧ Below w.heap.size w w' := by
  have hu37 := Try.underlying37
  have HR0 := Aside0.mk hr0
  have HC0 := Aside0.mk hc0
  clear hr0 hc0
  have HB := Aside0.mk (Below.refl w.heap.size w)
  have H : (earshotref01_Sum.l0 k l0 0 0 0) = some (r1, r2) := h
  clear h
  have H' := Aside0.mk H
  clear H
  go_enter Try.func20, Try.ntmps20
  go_wp2_with (first | ((with_reducible refine gate_dst (N := 2) rfl ?_); refine box_event ?hg (N := 2) ?hd (cs := #[.int .i64 0, .bool false]) (t := 37) ?hr ?_; (case hd => rfl); (case hg => rfl); (case hr => first | (go_simp; done) | (go_simp; rfl)); intro gb124 hg w2 hbox hb; have n0_ := Aside0.mk (below_step (by repeat (first | (with_reducible first | exact HB.out | apply below_alloc | apply pw_below_drewN | apply below_drew1) | exact HB.out)) hb); have n1_ := Aside0.mk (hbox); have n2_ := Aside0.mk ((by rw [hg]; exact (below_size (by repeat (first | (with_reducible first | exact HB.out | apply below_alloc | apply pw_below_drewN | apply below_drew1) | exact HB.out))) : w.heap.size ≤ gb124)); have n3_ := Aside0.mk ((by rw [hg]; exact (below_size (by repeat (first | (with_reducible first | exact HB.out | apply below_alloc | apply pw_below_drewN | apply below_drew1) | exact HB.out))) : w.heap.size ≤ gb124)); clear HB; have HB := n0_; have BK124 := n1_; have GW124 := n2_; have GE124 := n3_; clear n0_ n1_ n2_ n3_; clear hb hbox hg))
  go_loopg [3, 4, 5] k (fun kq v3 v4 v5 w' => ∃ (x3_1 : Int) (x4_1 : Int) (x5_1 : Int), v3 = .int .i64 x3_1 ∧ v4 = .int .i64 x4_1 ∧ v5 = .int .i64 x5_1 ∧ Aside0 (earshotref01_Sum.l0 kq l0 x3_1 x4_1 x5_1 = some (r1, r2)) ∧ Aside0 (kq ≤ k) ∧ Aside0 (w'.heap[gb124]? = some (.cells #[.int .i64 0, .bool false] 37 (0, 0))) ∧ Aside0 (Below w.heap.size w w'))
  case atStart => exact ⟨(0), (0), (0), (by first | rfl | (simp; done) | (simp [*]; done)), (by first | rfl | (simp; done) | (simp [*]; done)), (by first | rfl | (simp; done) | (simp [*]; done)), H', ⟨Nat.le_refl _⟩, ⟨by (with_reducible repeat (first | refine blk_drewN ?_ _ | refine blk_drew ?_ | refine blk_alloc ?_ _)); exact BK124.out⟩, ⟨by repeat (first | (with_reducible first | exact HB.out | apply below_alloc | apply pw_below_drewN | apply below_drew1 | refine below_set ?_ GE124.out) | exact HB.out)⟩⟩
  case round =>
    clear H'
    try clear c2
    try clear p2
    obtain ⟨x3_1, x4_1, x5_1, rfl, rfl, rfl, HA, HK1, BK124, HB⟩ := hrel
    cases gk with
    | zero => exact absurd HA.out (by simp [earshotref01_Sum.l0])
    | succ k1 =>
      have H := HA.out
      clear HA
      simp only [earshotref01_Sum.l0] at H
      by_cases c3 : x5_1 < (l0.length : Int)
      · rw [if_pos c3] at H
        have c3b0 : decide (x5_1 < (l0.length : Int)) = true := decide_eq_true c3
        clear c3
        by_cases c4 : 0 ≤ x5_1
        · rw [if_pos c4] at H
          have c4b0 : decide (0 ≤ x5_1) = true := decide_eq_true c4
          clear c4
          have H' := Aside0.mk H
          clear H
          have p125 : 0 ≤ (x5_1 : Int) := of_decide_eq_true (by first | (with_reducible assumption) | assumption)
          have q125 : x5_1 < (l0.length : Int) := of_decide_eq_true (by first | (with_reducible assumption) | assumption)
          obtain ⟨ad125, e125, hx125_0⟩ := Kd.at_int HR0.out x5_1 p125 q125
          cases e125
          replace hx125_0 := (HB.out.cell (World.block_lt_of_cell? w _ hx125_0)).trans hx125_0
          replace p125 := eq_true p125
          replace q125 := eq_true q125
          have p126 : 0 ≤ (x5_1 : Int) := of_decide_eq_true (by first | (with_reducible assumption) | assumption)
          have q126 : x5_1 < (l0.length : Int) := of_decide_eq_true (by first | (with_reducible assumption) | assumption)
          obtain ⟨ad126, e126, hx126_0⟩ := Kd.at_int HR0.out x5_1 p126 q126
          obtain rfl : ad125 = ad126 := (by injection e126)
          replace hx126_0 := (HB.out.cell (World.block_lt_of_cell? w _ hx126_0)).trans hx126_0
          replace p126 := eq_true p126
          replace q126 := eq_true q126
          go_wp2
          go_roundg k1
          case measure => have := HK1.out; omega
          case rel => exact ⟨(wrap64 (x3_1 + ((rd l0 x5_1) / 4294967296))), (wrap64 (x4_1 + (Go.bits .and .i64 (rd l0 x5_1) 4294967295))), (wrap64 (x5_1 + 1)), (by first | rfl | (simp; done) | (simp [*]; done)), (by first | rfl | (simp; done) | (simp [*]; done)), (by first | rfl | (simp; done) | (simp [*]; done)), H', ⟨by have := HK1.out; omega⟩, ⟨by (with_reducible repeat (first | refine blk_drewN ?_ _ | refine blk_drew ?_ | refine blk_alloc ?_ _)); exact BK124.out⟩, ⟨by repeat (first | (with_reducible first | exact HB.out | apply below_alloc | apply pw_below_drewN | apply below_drew1 | refine below_set ?_ GE124.out) | exact HB.out)⟩⟩
        · rw [if_neg c4] at H
          exact absurd H (by simp)
      · rw [if_neg c3] at H
        have c3b0 : decide (x5_1 < (l0.length : Int)) = false := decide_eq_false c3
        clear c3
        by_cases c5 : (wrap64 (x3_1 + (x4_1 / 4294967296))) < (-2147483648)
        · rw [if_pos c5] at H
          have c5b0 : decide ((wrap64 (x3_1 + (x4_1 / 4294967296))) < (-2147483648)) = true := decide_eq_true c5
          clear c5
          simp only [Option.some.injEq, Prod.mk.injEq] at H
          obtain ⟨rfl, rfl⟩ := H
          have hcz6_0 : wr.cell? ⟨gb124, 0, none⟩ = some (.int .i64 0) := (blk_cell BK124.out 0).trans rfl
          have hcz6_1 : wr.cell? ⟨gb124, 1, none⟩ = some (.bool false) := (blk_cell BK124.out 1).trans rfl
          have hfz6_0 := blk_frozen BK124.out 0
          have hfz6_1 := blk_frozen BK124.out 1
          go_wp2
          refine bodyPost_ret (results_cell_row rfl _ _ gb124 37 #[.int .i64 0, .bool false] (0, 0) _ rfl (by (with_reducible repeat (first | refine blk_drewN ?_ _ | refine blk_drew ?_ | refine blk_alloc ?_ _)); refine blk_put (cs := #[.int .i64 0, .bool false]) ?_ 1 _ rfl; (with_reducible repeat (first | refine blk_drewN ?_ _ | refine blk_drew ?_ | refine blk_alloc ?_ _)); refine blk_put (cs := #[.int .i64 0, .bool false]) ?_ 0 _ rfl; (with_reducible repeat (first | refine blk_drewN ?_ _ | refine blk_drew ?_ | refine blk_alloc ?_ _)); exact BK124.out) Try.underlying37 rfl (by kernel_rfl)) rfl ?_
          exact ⟨by first | rfl | (simp only [Int.tdiv_eq_ediv_of_nonneg (show (0 : Int) ≤ 9223372036854775807 by decide), Int.tdiv_eq_ediv_of_nonneg (show (0 : Int) ≤ 9223372036854775808 by decide)] <;> rfl) | (simp [errW_none, errW_some] <;> rfl) | (simp [*, errW_none, errW_some] <;> rfl), by repeat (first | (with_reducible first | exact HB.out | apply below_alloc | apply pw_below_drewN | apply below_drew1 | refine below_set ?_ GE124.out) | exact HB.out)⟩
        · rw [if_neg c5] at H
          have c5b0 : decide ((wrap64 (x3_1 + (x4_1 / 4294967296))) < (-2147483648)) = false := decide_eq_false c5
          clear c5
          by_cases c7 : (wrap64 (x3_1 + (x4_1 / 4294967296))) > 2147483647
          · rw [if_pos c7] at H
            have c7b0 : decide (2147483647 < (wrap64 (x3_1 + (x4_1 / 4294967296)))) = true := decide_eq_true c7
            clear c7
            simp only [Option.some.injEq, Prod.mk.injEq] at H
            obtain ⟨rfl, rfl⟩ := H
            have hcz8_0 : wr.cell? ⟨gb124, 0, none⟩ = some (.int .i64 0) := (blk_cell BK124.out 0).trans rfl
            have hcz8_1 : wr.cell? ⟨gb124, 1, none⟩ = some (.bool false) := (blk_cell BK124.out 1).trans rfl
            have hfz8_0 := blk_frozen BK124.out 0
            have hfz8_1 := blk_frozen BK124.out 1
            go_wp2
            refine bodyPost_ret (results_cell_row rfl _ _ gb124 37 #[.int .i64 0, .bool false] (0, 0) _ rfl (by (with_reducible repeat (first | refine blk_drewN ?_ _ | refine blk_drew ?_ | refine blk_alloc ?_ _)); refine blk_put (cs := #[.int .i64 0, .bool false]) ?_ 1 _ rfl; (with_reducible repeat (first | refine blk_drewN ?_ _ | refine blk_drew ?_ | refine blk_alloc ?_ _)); refine blk_put (cs := #[.int .i64 0, .bool false]) ?_ 0 _ rfl; (with_reducible repeat (first | refine blk_drewN ?_ _ | refine blk_drew ?_ | refine blk_alloc ?_ _)); exact BK124.out) Try.underlying37 rfl (by kernel_rfl)) rfl ?_
            exact ⟨by first | rfl | (simp only [Int.tdiv_eq_ediv_of_nonneg (show (0 : Int) ≤ 9223372036854775807 by decide), Int.tdiv_eq_ediv_of_nonneg (show (0 : Int) ≤ 9223372036854775808 by decide)] <;> rfl) | (simp [errW_none, errW_some] <;> rfl) | (simp [*, errW_none, errW_some] <;> rfl), by repeat (first | (with_reducible first | exact HB.out | apply below_alloc | apply pw_below_drewN | apply below_drew1 | refine below_set ?_ GE124.out) | exact HB.out)⟩
          · rw [if_neg c7] at H
            have c7b0 : decide (2147483647 < (wrap64 (x3_1 + (x4_1 / 4294967296)))) = false := decide_eq_false c7
            clear c7
            simp only [Option.some.injEq, Prod.mk.injEq] at H
            obtain ⟨rfl, rfl⟩ := H
            have hcz9_0 : wr.cell? ⟨gb124, 0, none⟩ = some (.int .i64 0) := (blk_cell BK124.out 0).trans rfl
            have hcz9_1 : wr.cell? ⟨gb124, 1, none⟩ = some (.bool false) := (blk_cell BK124.out 1).trans rfl
            have hfz9_0 := blk_frozen BK124.out 0
            have hfz9_1 := blk_frozen BK124.out 1
            go_wp2
            refine bodyPost_ret (results_cell_row rfl _ _ gb124 37 #[.int .i64 (wrap64 ((wrap64 ((wrap64 (x3_1 + (x4_1 / 4294967296))) * 4294967296)) + (Go.bits .and .i64 x4_1 4294967295))), .bool true] (0, 0) _ rfl (by (with_reducible repeat (first | refine blk_drewN ?_ _ | refine blk_drew ?_ | refine blk_alloc ?_ _)); refine blk_put (cs := #[.int .i64 (wrap64 ((wrap64 ((wrap64 (x3_1 + (x4_1 / 4294967296))) * 4294967296)) + (Go.bits .and .i64 x4_1 4294967295))), .bool false]) ?_ 1 _ rfl; (with_reducible repeat (first | refine blk_drewN ?_ _ | refine blk_drew ?_ | refine blk_alloc ?_ _)); refine blk_put (cs := #[.int .i64 0, .bool false]) ?_ 0 _ rfl; (with_reducible repeat (first | refine blk_drewN ?_ _ | refine blk_drew ?_ | refine blk_alloc ?_ _)); exact BK124.out) Try.underlying37 rfl (by kernel_rfl)) rfl ?_
            exact ⟨by first | rfl | (simp only [Int.tdiv_eq_ediv_of_nonneg (show (0 : Int) ≤ 9223372036854775807 by decide), Int.tdiv_eq_ediv_of_nonneg (show (0 : Int) ≤ 9223372036854775808 by decide)] <;> rfl) | (simp [errW_none, errW_some] <;> rfl) | (simp [*, errW_none, errW_some] <;> rfl), by repeat (first | (with_reducible first | exact HB.out | apply below_alloc | apply pw_below_drewN | apply below_drew1 | refine below_set ?_ GE124.out) | exact HB.out)⟩

/-! ### sat_Mul: function 21 -/
def sat_Mul.j0 : Nat → Int → Int → Bool → Option (Int × Bool)
  | 0, _, _, _ => none
  | k + 1, x0, x1, x12 => if x12 = true then (some (0, true)) else (if x1 = 0 then (none) else (if (wrap64 (Int.tdiv (wrap64 (x0 * x1)) x1)) = x0 then (if x0 = (-1) then (if x1 = (-9223372036854775808) then (some (0, false)) else (if x1 = (-1) then (if x0 = (-9223372036854775808) then (some (0, false)) else (some (wrap64 (x0 * x1), true))) else (some (wrap64 (x0 * x1), true)))) else (if x1 = (-1) then (if x0 = (-9223372036854775808) then (some (0, false)) else (some (wrap64 (x0 * x1), true))) else (some (wrap64 (x0 * x1), true)))) else (some (0, false))))
def sat_Mul.f (k : Nat) (a0 : Int) (a1 : Int) : Option (Int × Bool) := if a0 = 0 then (sat_Mul.j0 k a0 a1 true) else (sat_Mul.j0 k a0 a1 (a1 == 0))
theorem sat_Mul.mono_l : ∀ k, (∀ y0 y1 y2, LeO (sat_Mul.j0 k y0 y1 y2) (sat_Mul.j0 (k + 1) y0 y1 y2))
  | 0 => fun _ _ _ r h => by simp [sat_Mul.j0] at h
  | k + 1 => by
    have ih0 := sat_Mul.mono_l k
    · intro y0 y1 y2
      unfold sat_Mul.j0
      repeat' first
      | (with_reducible exact ih0 _ _ _)
      | (with_reducible exact LeO.refl _)
      | (with_reducible exact LeO.none _)
      | (with_reducible refine LeO.ite ?_ ?_)
      | (with_reducible refine LeO.bind ?_ (fun _ => ?_))
      | exact ih0 _ _ _
      | exact LeO.none _
      | refine LeO.ite ?_ ?_
      | refine LeO.bind ?_ (fun _ => ?_)
theorem sat_Mul.mono : ∀ a0 a1 k, LeO (sat_Mul.f k a0 a1) (sat_Mul.f (k + 1) a0 a1) := by
  intro a0 a1 k
  have ih0 := sat_Mul.mono_l k
  unfold sat_Mul.f
  repeat' first
      | (with_reducible exact ih0 _ _ _)
      | (with_reducible exact LeO.refl _)
      | (with_reducible exact LeO.none _)
      | (with_reducible refine LeO.ite ?_ ?_)
      | (with_reducible refine LeO.bind ?_ (fun _ => ?_))
      | exact ih0 _ _ _
      | exact LeO.none _
      | refine LeO.ite ?_ ?_
      | refine LeO.bind ?_ (fun _ => ?_)
set_option maxHeartbeats 8000000 in
set_option maxRecDepth 100000 in
theorem sat_Mul.calls (k : Nat) (a0 : Int) (a1 : Int) (r1 : Int) (r2 : Bool) (w : World) (h : sat_Mul.f k a0 a1 = some (r1, r2)) :
    Calls Try.prog 21 #[.int .i64 a0, .int .i64 a1] w fun e w' => e = .returned (.tuple #[.int .i64 r1, .bool r2]) ∧ Drawn0 w w' := by
  have H : (if a0 = 0 then (sat_Mul.j0 k a0 a1 true) else (sat_Mul.j0 k a0 a1 (a1 == 0))) = some (r1, r2) := h
  clear h
  have HC3 := Aside0.mk H
  clear H
  go_enter Try.func21, Try.ntmps21
  go_upto_region 1 with (fail)
  go_cut [12] (fun v12 wc => ∃ (kq : Nat) (x12_2 : Bool), v12 = .bool x12_2 ∧ Aside0 (sat_Mul.j0 kq a0 a1 x12_2 = some (r1, r2)) ∧ Aside0 (kq ≤ k) ∧ Drawn0 w wc)
  case first =>
    have H := HC3.out
    clear HC3
    by_cases c4 : a0 = 0
    · rw [if_pos c4] at H
      have c4b0 : (a0 == 0) = true := beq_iff_eq.mpr c4
      have c4b1 : (a0 != 0) = false := bne_eq_false_iff_eq.mpr c4
      clear c4
      (first | rw [c4b0] | (simp only [i64_w, i32_w]; rw [c4b0]) | skip)
      have H' := Aside0.mk H
      clear H
      go_wp2
      go_meet
      case rel => exact ⟨_, (true), (by first | rfl | (simp; done) | (simp [*]; done)), H', ⟨by first | omega | exact Nat.le_refl _⟩, by repeat (first | exact Drawn0.refl _ | apply Drawn0.step)⟩
    · rw [if_neg c4] at H
      have c4b0 : (a0 == 0) = false := beq_eq_false_iff_ne.mpr c4
      have c4b1 : (a0 != 0) = true := bne_iff_ne.mpr c4
      (first | rw [c4b0] | (simp only [i64_w, i32_w]; rw [c4b0]) | skip)
      have H' := Aside0.mk H
      clear H
      go_wp2
      go_meet
      case rel => exact ⟨_, ((a1 == 0)), (by first | rfl | (simp; done) | (simp [*]; done)), H', ⟨by first | omega | exact Nat.le_refl _⟩, by repeat (first | exact Drawn0.refl _ | apply Drawn0.step)⟩
  case rest =>
    clear HC3
    try clear c2
    try clear p2
    try clear c4
    try clear c4b0
    try clear c4b1
    obtain ⟨kq, x12_2, rfl, HA, HJ2, ⟨mc2, rfl⟩⟩ := hcut
    cases kq with
    | zero => exact absurd HA.out (by simp [sat_Mul.j0])
    | succ kj2 =>
      have H := HA.out
      clear HA
      simp only [sat_Mul.j0] at H
      by_cases c5 : x12_2 = true
      · subst c5
        have H1 : (some (0, true)) = some (r1, r2) := by rw [if_pos rfl] at H; exact H
        clear H
        have H := H1
        clear H1
        simp only [Option.some.injEq, Prod.mk.injEq] at H
        obtain ⟨rfl, rfl⟩ := H
        go_wp2
        go_ret2
        exact ⟨by first | rfl | (simp; done) | (simp [*]; done), by repeat (first | exact Drawn0.refl _ | apply Drawn0.step)⟩
      · replace c5 := Bool.eq_false_iff.mpr c5
        subst c5
        have H1 : (if a1 = 0 then (none) else (if (wrap64 (Int.tdiv (wrap64 (a0 * a1)) a1)) = a0 then (if a0 = (-1) then (if a1 = (-9223372036854775808) then (some (0, false)) else (if a1 = (-1) then (if a0 = (-9223372036854775808) then (some (0, false)) else (some (wrap64 (a0 * a1), true))) else (some (wrap64 (a0 * a1), true)))) else (if a1 = (-1) then (if a0 = (-9223372036854775808) then (some (0, false)) else (some (wrap64 (a0 * a1), true))) else (some (wrap64 (a0 * a1), true)))) else (some (0, false)))) = some (r1, r2) := by rw [if_neg (show ¬ (false = true) by decide)] at H; exact H
        clear H
        have H := H1
        clear H1
        by_cases c6 : a1 = 0
        · rw [if_pos c6] at H
          exact absurd H (by simp)
        · rw [if_neg c6] at H
          have c6b0 : (a1 == 0) = false := beq_eq_false_iff_ne.mpr c6
          have c6b1 : (a1 != 0) = true := bne_iff_ne.mpr c6
          by_cases c7 : (wrap64 (Int.tdiv (wrap64 (a0 * a1)) a1)) = a0
          · rw [if_pos c7] at H
            have c7b0 : ((wrap64 (Int.tdiv (wrap64 (a0 * a1)) a1)) == a0) = true := beq_iff_eq.mpr c7
            have c7b1 : ((wrap64 (Int.tdiv (wrap64 (a0 * a1)) a1)) != a0) = false := bne_eq_false_iff_eq.mpr c7
            clear c7
            by_cases c8 : a0 = (-1)
            · rw [if_pos c8] at H
              have c8b0 : (a0 == (-1)) = true := beq_iff_eq.mpr c8
              have c8b1 : (a0 != (-1)) = false := bne_eq_false_iff_eq.mpr c8
              clear c8
              by_cases c9 : a1 = (-9223372036854775808)
              · rw [if_pos c9] at H
                have c9b0 : (a1 == (-9223372036854775808)) = true := beq_iff_eq.mpr c9
                have c9b1 : (a1 != (-9223372036854775808)) = false := bne_eq_false_iff_eq.mpr c9
                clear c9
                simp only [Option.some.injEq, Prod.mk.injEq] at H
                obtain ⟨rfl, rfl⟩ := H
                go_wp2
                go_ret2
                exact ⟨by first | rfl | (simp; done) | (simp [*]; done), by repeat (first | exact Drawn0.refl _ | apply Drawn0.step)⟩
              · rw [if_neg c9] at H
                have c9b0 : (a1 == (-9223372036854775808)) = false := beq_eq_false_iff_ne.mpr c9
                have c9b1 : (a1 != (-9223372036854775808)) = true := bne_iff_ne.mpr c9
                by_cases c10 : a1 = (-1)
                · rw [if_pos c10] at H
                  have c10b0 : (a1 == (-1)) = true := beq_iff_eq.mpr c10
                  have c10b1 : (a1 != (-1)) = false := bne_eq_false_iff_eq.mpr c10
                  clear c10
                  by_cases c11 : a0 = (-9223372036854775808)
                  · rw [if_pos c11] at H
                    have c11b0 : (a0 == (-9223372036854775808)) = true := beq_iff_eq.mpr c11
                    have c11b1 : (a0 != (-9223372036854775808)) = false := bne_eq_false_iff_eq.mpr c11
                    clear c11
                    simp only [Option.some.injEq, Prod.mk.injEq] at H
                    obtain ⟨rfl, rfl⟩ := H
                    go_wp2
                    go_ret2
                    exact ⟨by first | rfl | (simp; done) | (simp [*]; done), by repeat (first | exact Drawn0.refl _ | apply Drawn0.step)⟩
                  · rw [if_neg c11] at H
                    have c11b0 : (a0 == (-9223372036854775808)) = false := beq_eq_false_iff_ne.mpr c11
                    have c11b1 : (a0 != (-9223372036854775808)) = true := bne_iff_ne.mpr c11
                    simp only [Option.some.injEq, Prod.mk.injEq] at H
                    obtain ⟨rfl, rfl⟩ := H
                    go_wp2
                    go_ret2
                    exact ⟨by first | rfl | (simp; done) | (simp [*]; done), by repeat (first | exact Drawn0.refl _ | apply Drawn0.step)⟩
                · rw [if_neg c10] at H
                  have c10b0 : (a1 == (-1)) = false := beq_eq_false_iff_ne.mpr c10
                  have c10b1 : (a1 != (-1)) = true := bne_iff_ne.mpr c10
                  simp only [Option.some.injEq, Prod.mk.injEq] at H
                  obtain ⟨rfl, rfl⟩ := H
                  go_wp2
                  go_ret2
                  exact ⟨by first | rfl | (simp; done) | (simp [*]; done), by repeat (first | exact Drawn0.refl _ | apply Drawn0.step)⟩
            · rw [if_neg c8] at H
              have c8b0 : (a0 == (-1)) = false := beq_eq_false_iff_ne.mpr c8
              have c8b1 : (a0 != (-1)) = true := bne_iff_ne.mpr c8
              by_cases c12 : a1 = (-1)
              · rw [if_pos c12] at H
                have c12b0 : (a1 == (-1)) = true := beq_iff_eq.mpr c12
                have c12b1 : (a1 != (-1)) = false := bne_eq_false_iff_eq.mpr c12
                clear c12
                by_cases c13 : a0 = (-9223372036854775808)
                · rw [if_pos c13] at H
                  have c13b0 : (a0 == (-9223372036854775808)) = true := beq_iff_eq.mpr c13
                  have c13b1 : (a0 != (-9223372036854775808)) = false := bne_eq_false_iff_eq.mpr c13
                  clear c13
                  simp only [Option.some.injEq, Prod.mk.injEq] at H
                  obtain ⟨rfl, rfl⟩ := H
                  go_wp2
                  go_ret2
                  exact ⟨by first | rfl | (simp; done) | (simp [*]; done), by repeat (first | exact Drawn0.refl _ | apply Drawn0.step)⟩
                · rw [if_neg c13] at H
                  have c13b0 : (a0 == (-9223372036854775808)) = false := beq_eq_false_iff_ne.mpr c13
                  have c13b1 : (a0 != (-9223372036854775808)) = true := bne_iff_ne.mpr c13
                  simp only [Option.some.injEq, Prod.mk.injEq] at H
                  obtain ⟨rfl, rfl⟩ := H
                  go_wp2
                  go_ret2
                  exact ⟨by first | rfl | (simp; done) | (simp [*]; done), by repeat (first | exact Drawn0.refl _ | apply Drawn0.step)⟩
              · rw [if_neg c12] at H
                have c12b0 : (a1 == (-1)) = false := beq_eq_false_iff_ne.mpr c12
                have c12b1 : (a1 != (-1)) = true := bne_iff_ne.mpr c12
                simp only [Option.some.injEq, Prod.mk.injEq] at H
                obtain ⟨rfl, rfl⟩ := H
                go_wp2
                go_ret2
                exact ⟨by first | rfl | (simp; done) | (simp [*]; done), by repeat (first | exact Drawn0.refl _ | apply Drawn0.step)⟩
          · rw [if_neg c7] at H
            have c7b0 : ((wrap64 (Int.tdiv (wrap64 (a0 * a1)) a1)) == a0) = false := beq_eq_false_iff_ne.mpr c7
            have c7b1 : ((wrap64 (Int.tdiv (wrap64 (a0 * a1)) a1)) != a0) = true := bne_iff_ne.mpr c7
            simp only [Option.some.injEq, Prod.mk.injEq] at H
            obtain ⟨rfl, rfl⟩ := H
            go_wp2
            go_ret2
            exact ⟨by first | rfl | (simp; done) | (simp [*]; done), by repeat (first | exact Drawn0.refl _ | apply Drawn0.step)⟩

end Go.Proofs.Ytpaednaeehlofaa.PSatTells
