/- Contracts of Go functions that the laws of this seat reach, by hand: each call returns what the Lean function of its name tells. Conditions: those that each theorem names, none else. -/
import Derived.Test.YtohhaonjckfkaaaDoorHandH7
namespace Go.Proofs.YtohhaonjckfkaaaDoor.Hand
open Go.RowKit Go.Proofs.YtohhaonjckfkaaaDoorW.PrintWords Go.Proofs.YtohhaonjckfkaaaDoorW.PrintLast Go.Proofs.YtohhaonjckfkaaaDoorW.PrintMore
attribute [local go_sem] max2_int min2_int max_two min_two max_three min_three max_four min_four
set_option linter.unusedVariables false
set_option linter.unusedSimpArgs false

attribute [local go_sem] guarded_true
def sumL : Int → List Int → Int
  | sm, [] => sm
  | sm, x :: l => sumL (wrap64 (sm + x)) l
def Nd.wide (n : Nd) (l : List Int) : Int := if (n.chk l != 0) = true then 0 else if n.has 2 = true then n.wid else if (n.k == 11) = true then 1 else if (n.k == 8) = true then sumL 0 l else rd l 0
theorem Nd.chk_ne (n : Nd) : n.chk [] ≠ 0 := by
  unfold Nd.chk
  rw [Nd.chk5_nil]
  cases n.chk1 [] <;> cases n.chk3 <;> simp
theorem drop_rd {l : List Int} {j : Int} (h0 : 0 ≤ j) (h1 : j < (l.length : Int)) : l.drop j.toNat = rd l j :: l.drop (j + 1).toNat := by
  have h1 : j.toNat < l.length := by omega
  rw [List.drop_eq_getElem_cons h1, show (j + 1).toNat = j.toNat + 1 by omega]
  congr 1
  unfold rd
  rw [List.getD_eq_getElem?_getD, List.getElem?_eq_getElem h1]; rfl

set_option maxHeartbeats 8000000 in
set_option maxRecDepth 100000 in
theorem Width_c (n : Nd) (s : Ns) (A : Option Addr) (c : Nat) (l : List Int) (w : World) (hG : Tab w) (hA : n.At s w) (hn : n.Short) (hr : Kd.C (Kd.int .i64) w A l.length l) (hc : l.length ≤ c) (hl : l.length ≤ 4096) :
    Calls Tryd.prog 34 #[n.val s, .slice A l.length c] w fun e w' => e = .returned (.int .i64 (n.wide l)) ∧ Below w.heap.size w w' := by
  have huN := Tryd.underlying29
  have BK := Aside0.mk (keep0 w (n.box s))
  have HG := Aside0.mk hG
  clear hG
  have HA := Aside0.mk hA
  have HR := Aside0.mk hr
  clear hA hr
  go_enter Tryd.func34, Tryd.ntmps34
  by_cases hc0 : n.chk l ≠ 0
  · have hb : (n.chk l != 0) = true := bne_iff_ne.mpr hc0
    clear hc0
    go_wp2_with (first | (refine wl_box (a1 := ?_) rfl rfl rfl BK.out.2 ?_ ?_; rotate_left 1; (· simp only [Act.put, List.setIfInBounds_toArray, List.set_cons_zero, List.set_cons_succ, guarded_true, i64_w, i32_w]; with_reducible rfl)) | (go_at_call 35; (with_reducible refine ((fun h => Check_c n s A c l _ h (HA.out.below BK.out.1) hn (Kd.C_below HR.out BK.out.1) hc hl) (Tab.below HG.out BK.out.1)).mono ?_); rintro e w2 ⟨rfl, hb⟩; have BK' := Aside0.mk (keepB BK.out hb); clear BK hb; have BK := BK'; clear BK'; (try clear hcz); have hcz := bcs15 BK.out.2))
    go_ret
    exact ⟨by (try clear hcz); unfold Nd.wide; (first | rfl | (simp only [*]; done) | (simp only [*]; rfl) | ((repeat (first | rw [if_pos (by assumption)] | rw [if_neg (by assumption)] | rw [if_neg (Int.not_le.mpr (by assumption))] | rw [if_neg (Int.not_lt.mpr (by assumption))])); rfl) | ((repeat' (first | rfl | split)) <;> first | rfl | (exfalso; simp_all; done) | (exfalso; simp_all; omega) | (exfalso; omega))), BK.out.1⟩
  have hb : (n.chk l != 0) = false := by rw [bne_eq_false_iff_eq]; exact Decidable.not_not.mp hc0
  have q0 : 0 < (l.length : Int) := by
    cases l with
    | nil => exact absurd n.chk_ne hc0
    | cons x xs => rw [List.length_cons]; omega
  clear hc0
  have p0 : 0 ≤ (0 : Int) := by omega
  obtain ⟨ad, e0, hx0⟩ := Kd.at_int HR.out 0 p0 q0
  cases e0
  have qi0 : (0 < l.length) = True := eq_true (by omega)
  rw [show ((0 : Int)).toNat = 0 from rfl, Addr.add_zero'] at hx0
  have HX0 := Aside0.mk hx0
  clear hx0
  replace p0 := eq_true p0
  replace q0 := eq_true q0
  go_upto_region 15 with (first | (refine wl_box (a1 := ?_) rfl rfl rfl BK.out.2 ?_ ?_; rotate_left 1; (· simp only [Act.put, List.setIfInBounds_toArray, List.set_cons_zero, List.set_cons_succ, guarded_true, i64_w, i32_w]; with_reducible rfl)) | (go_at_call 35; (with_reducible refine ((fun h => Check_c n s (some ad) c l _ h (HA.out.below BK.out.1) hn (Kd.C_below HR.out BK.out.1) hc hl) (Tab.below HG.out BK.out.1)).mono ?_); rintro e w2 ⟨rfl, hb⟩; have BK' := Aside0.mk (keepB BK.out hb); clear BK hb; have BK := BK'; clear BK'; (try clear hcz); have hcz := bcs15 BK.out.2) | (go_at_call 42; (with_reducible refine (has_c n s _ _ (Tab.below HG.out BK.out.1)).mono ?_); rintro e w2 ⟨rfl, hb⟩; have BK' := Aside0.mk (keepB BK.out hb); clear BK hb; have BK := BK'; clear BK'; (try clear hcz); have hcz := bcs15 BK.out.2))
  · go_ret; exact ⟨by (try clear hcz); unfold Nd.wide; (first | rfl | (simp only [*]; done) | (simp only [*]; rfl) | ((repeat (first | rw [if_pos (by assumption)] | rw [if_neg (by assumption)] | rw [if_neg (Int.not_le.mpr (by assumption))] | rw [if_neg (Int.not_lt.mpr (by assumption))])); rfl) | ((repeat' (first | rfl | split)) <;> first | rfl | (exfalso; simp_all; done) | (exfalso; simp_all; omega) | (exfalso; omega))), BK.out.1⟩
  · go_ret; exact ⟨by (try clear hcz); unfold Nd.wide; (first | rfl | (simp only [*]; done) | (simp only [*]; rfl) | ((repeat (first | rw [if_pos (by assumption)] | rw [if_neg (by assumption)] | rw [if_neg (Int.not_le.mpr (by assumption))] | rw [if_neg (Int.not_lt.mpr (by assumption))])); rfl) | ((repeat' (first | rfl | split)) <;> first | rfl | (exfalso; simp_all; done) | (exfalso; simp_all; omega) | (exfalso; omega))), BK.out.1⟩
  · have h2 : n.has 2 = false := by assumption
    have h11 : (n.k == 11) = false := by assumption
    have h8 : (n.k == 8) = true := by assumption
    simp only [h2, h11, h8]
    go_loopg [5, 27] l.length (fun kq v5 v74 w' => ∃ (sm : Int) (j : Int), v5 = .int .i64 sm ∧ v74 = .int .i64 j ∧ Aside0 (0 ≤ j ∧ (kq : Int) + j = l.length) ∧ Aside0 (sumL sm (l.drop j.toNat) = sumL 0 l) ∧ Aside0 (Below w.heap.size w w' ∧ w'.heap[w.heap.size]? = some (n.box s)))
    case atStart => exact ⟨0, 0, by first | rfl | simp, by first | rfl | simp, ⟨by omega⟩, ⟨rfl⟩, BK⟩
    case round =>
      clear BK hcz
      obtain ⟨sm, j, rfl, rfl, HK, HL, BK⟩ := hrel
      have hj0 := HK.out.1
      cases gk with
      | zero =>
        have hj : j = (l.length : Int) := by have := HK.out.2; omega
        subst hj
        have hL : sumL 0 l = sm := by rw [← HL.out, List.drop_eq_nil_of_le (by omega)]; rfl
        go_wp2
        go_ret
        exact ⟨by unfold Nd.wide; rw [hL]; (first | (simp only [*]; rfl) | (simp_all; done)), BK.out.1⟩
      | succ k1 =>
        have hj1 : j < (l.length : Int) := by have := HK.out.2; omega
        obtain ⟨ad1, e1, hx1⟩ := Kd.at_int HR.out j hj0 hj1
        obtain rfl : ad = ad1 := by injection e1
        replace hx1 := (BK.out.1.cell (World.block_lt_of_cell? w _ hx1)).trans hx1
        have p1 := eq_true hj0
        have q1 := eq_true hj1
        have c1 := decide_eq_true hj1
        have hL : sumL 0 l = sumL (wrap64 (sm + rd l j)) (l.drop (j + 1).toNat) := by rw [← HL.out, drop_rd hj0 hj1]; rfl
        have w1 : wrap64 (j + 1) = j + 1 := w64 (by omega) (by omega)
        go_wp2
        go_roundg k1
        case measure => omega
        case rel => exact ⟨_, _, rfl, rfl, ⟨by omega, by have := HK.out.2; omega⟩, ⟨hL.symm⟩, BK⟩
  · have hx0 := (BK.out.1.cell (World.block_lt_of_cell? w _ HX0.out)).trans HX0.out
    refine plan0_ (id := 15) (S := fun w' => w' = _) [(0, true), (1, true), (2, true), (3, true)] (by kernel_rfl) rfl ?_; intro w_ hS; subst hS; (repeat (first | (refine plan_or (b := ?_) (z := ?_) (a1 := ?_) (by simp only [List.getElem?_toArray, List.getElem?_cons_zero, List.getElem?_cons_succ]; rfl) rfl (by first | exact wanted_none rfl | exact ow_wt rfl rfl | exact ow_wf rfl rfl | exact ow_wnt rfl rfl | exact ow_wnf rfl rfl) ?_ ?_ ?_ ?_ ?_; rotate_left 3; (· intro hg; (try simp only [Bool.and_eq_true, Bool.not_eq_true', Bool.not_eq_eq_eq_not, Bool.not_true] at hg); (first | rfl | ((show (guarded _ (Value.bool _)) = _); (simp only [hg, guarded_true, Bool.not_false, Bool.not_true, Bool.or_false, Bool.and_self, Bool.and_true, Bool.true_and, Bool.false_eq_true]; with_reducible rfl)))); (· intro hg hz; (try simp only [Bool.and_eq_true, Bool.not_eq_true', Bool.not_eq_eq_eq_not, Bool.not_true] at hg); (show (guarded _ (Value.bool _)) = _); (simp only [hg, hz, guarded_true, Bool.not_false, Bool.not_true, Bool.or_false, Bool.and_self, Bool.and_true, Bool.true_and, Bool.false_eq_true]; with_reducible rfl)); (· simp only [Act.put, List.setIfInBounds_toArray, List.set_cons_zero, List.set_cons_succ, guarded_true, i64_w, i32_w]; with_reducible rfl); (· exact fun _ _ _ h => h)) | (refine plan_and (b := ?_) (z := ?_) (a1 := ?_) (by simp only [List.getElem?_toArray, List.getElem?_cons_zero, List.getElem?_cons_succ]; rfl) rfl (by first | exact wanted_none rfl | exact ow_wt rfl rfl | exact ow_wf rfl rfl | exact ow_wnt rfl rfl | exact ow_wnf rfl rfl) ?_ ?_ ?_ ?_ ?_; rotate_left 3; (· intro hg; (try simp only [Bool.and_eq_true, Bool.not_eq_true', Bool.not_eq_eq_eq_not, Bool.not_true] at hg); (first | rfl | ((show (guarded _ (Value.bool _)) = _); (simp only [hg, guarded_true, Bool.not_false, Bool.not_true, Bool.or_false, Bool.and_self, Bool.and_true, Bool.true_and, Bool.false_eq_true]; with_reducible rfl)))); (· intro hg hz; (try simp only [Bool.and_eq_true, Bool.not_eq_true', Bool.not_eq_eq_eq_not, Bool.not_true] at hg); (show (guarded _ (Value.bool _)) = _); (simp only [hg, hz, guarded_true, Bool.not_false, Bool.not_true, Bool.or_false, Bool.and_self, Bool.and_true, Bool.true_and, Bool.false_eq_true]; with_reducible rfl)); (· simp only [Act.put, List.setIfInBounds_toArray, List.set_cons_zero, List.set_cons_succ, guarded_true, i64_w, i32_w]; with_reducible rfl); (· exact fun _ _ _ h => h)) | (refine plan_p (v := ?_) (a1 := ?_) (by simp only [List.getElem?_toArray, List.getElem?_cons_zero, List.getElem?_cons_succ]; rfl) rfl ?_ ?_ ?_ ?_; rotate_left 2; (· intro w_ hS_; subst hS_; go_simp; with_reducible rfl); (· simp only [Act.put, List.setIfInBounds_toArray, List.set_cons_zero, List.set_cons_succ, guarded_true, i64_w, i32_w]; with_reducible rfl); (· exact fun _ _ _ h => h)) | (refine plan_g (v := ?_) (a1 := ?_) (by simp only [List.getElem?_toArray, List.getElem?_cons_zero, List.getElem?_cons_succ]; rfl) (by first | exact wanted_none rfl | exact ow_wt rfl rfl | exact ow_wf rfl rfl | exact ow_wnt rfl rfl | exact ow_wnf rfl rfl) ?_ ?_ ?_ ?_; rotate_left 2; (· intro hg w_ hS_; subst hS_; (try simp only [Bool.and_eq_true, Bool.not_eq_true', Bool.not_eq_eq_eq_not, Bool.not_true] at hg); (try simp only [hg, guarded_true, Bool.not_false, Bool.not_true, Bool.or_false, Bool.and_self, Bool.and_true, Bool.true_and, Bool.false_eq_true]); go_simp; with_reducible rfl); (· simp only [Act.put, List.setIfInBounds_toArray, List.set_cons_zero, List.set_cons_succ, guarded_true, i64_w, i32_w]; with_reducible rfl); (· exact fun _ _ _ h => h)))); refine plan_n ?_
    go_wp2
    go_ret
    exact ⟨by (try clear hcz); unfold Nd.wide; (first | rfl | (simp only [*]; done) | (simp only [*]; rfl) | ((repeat (first | rw [if_pos (by assumption)] | rw [if_neg (by assumption)] | rw [if_neg (Int.not_le.mpr (by assumption))] | rw [if_neg (Int.not_lt.mpr (by assumption))])); rfl) | ((repeat' (first | rfl | split)) <;> first | rfl | (exfalso; simp_all; done) | (exfalso; simp_all; omega) | (exfalso; omega))), BK.out.1⟩
end Go.Proofs.YtohhaonjckfkaaaDoor.Hand
