/- Contracts of Go functions that the laws of this seat reach, by hand: each call returns what the Lean function of its name tells. Conditions: those that each theorem names, none else. -/
import Derived.Test.YtohhaonjckfkaaaDoorHandH3
import Derived.Test.YtohhaonjckfkaaaDoorHandLeaf
namespace Go.Proofs.YtohhaonjckfkaaaDoor.Hand
open Go.RowKit Go.Proofs.YtohhaonjckfkaaaDoorW.PrintWords Go.Proofs.YtohhaonjckfkaaaDoorW.PrintLast Go.Proofs.YtohhaonjckfkaaaDoorW.PrintMore
attribute [local go_sem] max2_int min2_int max_two min_two max_three min_three max_four min_four
set_option linter.unusedVariables false
set_option linter.unusedSimpArgs false

attribute [local go_sem] guarded_true
theorem w64 {x : Int} (h0 : -9223372036854775808 ≤ x) (h1 : x ≤ 9223372036854775807) : wrap64 x = x := by unfold wrap64; omega
theorem rd_get {xs : List Int} {i : Nat} (h : i < xs.length) : rd xs (i : Int) = xs[i] := by unfold rd; simp [h]

theorem in_c (x lo hi : Int) (w : World) :
    Calls Tryd.prog 57 #[.int .i64 x, .int .i64 lo, .int .i64 hi] w fun e w' => e = .returned (.bool (inB x lo hi)) ∧ Below w.heap.size w w' :=
  (kind_in.calls x lo hi _ w rfl).mono (fun e w' h => ⟨h.1, h.2.below⟩)
theorem every_l (l : List Int) (lo hi : Int) (hl : l.length ≤ 4096) : ∀ d i k, i + d = l.length → d < k → kind_every.l0 k lo hi l (l.length : Int) ((i : Nat) : Int) = some ((l.drop i).all (inB · lo hi)) := by
  intro d
  induction d with
  | zero =>
    intro i k hd hk
    obtain ⟨k, rfl⟩ : ∃ m, k = m + 1 := ⟨k - 1, by omega⟩
    simp only [kind_every.l0]
    rw [if_neg (by omega), List.drop_eq_nil_of_le (by omega)]
    rfl
  | succ d ih =>
    intro i k hd hk
    obtain ⟨k, rfl⟩ : ∃ m, k = m + 1 := ⟨k - 1, by omega⟩
    have hi_ : i < l.length := by omega
    simp only [kind_every.l0]
    rw [if_pos (by omega), if_pos (by omega), if_pos (by omega), rd_get hi_]
    rw [w64 (by omega) (by omega), show ((i : Nat) : Int) + 1 = ((i + 1 : Nat) : Int) by omega, ih (i + 1) k (by omega) (by omega), List.drop_eq_getElem_cons hi_, List.all_cons]
    unfold kind_in.f
    rw [Option.bind_some]
    show (if inB l[i] lo hi = true then _ else _) = _
    cases h : inB l[i] lo hi with
    | true => rw [if_pos rfl, Bool.true_and]
    | false => rw [if_neg (by decide), Bool.false_and]
theorem every_c (A : Option Addr) (c : Nat) (l : List Int) (lo hi : Int) (w : World) (hr : Kd.C (Kd.int .i64) w A l.length l) (hc : l.length ≤ c) (hl : l.length ≤ 4096) :
    Calls Tryd.prog 56 #[.slice A l.length c, .int .i64 lo, .int .i64 hi] w fun e w' => e = .returned (.bool (l.all (inB · lo hi))) ∧ Below w.heap.size w w' :=
  (kind_every.calls (l.length + 1) A c l lo hi _ w hr hc (by unfold kind_every.f; exact every_l l lo hi hl l.length 0 _ (by omega) (by omega))).mono (fun e w' h => ⟨h.1, h.2.below⟩)

def fewestV : List Int → Int
  | [] => 0
  | x :: l => mx ((x :: l).foldl mn x) 0
theorem fewest_l (l : List Int) (hl : l.length ≤ 4096) : ∀ d i k t, i + d = l.length → d < k → kind_fewest.l0 k t l (l.length : Int) ((i : Nat) : Int) = some (mx ((l.drop i).foldl mn t) 0) := by
  intro d
  induction d with
  | zero =>
    intro i k t hd hk
    obtain ⟨k, rfl⟩ : ∃ m, k = m + 1 := ⟨k - 1, by omega⟩
    simp only [kind_fewest.l0]
    rw [if_neg (by omega), List.drop_eq_nil_of_le (by omega)]
    rfl
  | succ d ih =>
    intro i k t hd hk
    obtain ⟨k, rfl⟩ : ∃ m, k = m + 1 := ⟨k - 1, by omega⟩
    have hi : i < l.length := by omega
    simp only [kind_fewest.l0]
    rw [if_pos (by omega), if_pos (by omega), if_pos (by omega), rd_get hi]
    rw [w64 (by omega) (by omega), show ((i : Nat) : Int) + 1 = ((i + 1 : Nat) : Int) by omega, ih (i + 1) k _ (by omega) (by omega), List.drop_eq_getElem_cons hi, List.foldl_cons]
theorem fewest_c (A : Option Addr) (c : Nat) (l : List Int) (w : World) (hr : Kd.C (Kd.int .i64) w A l.length l) (hc : l.length ≤ c) (hl : l.length ≤ 4096) :
    Calls Tryd.prog 43 #[.slice A l.length c] w fun e w' => e = .returned (.int .i64 (fewestV l)) ∧ Below w.heap.size w w' := by
  refine (kind_fewest.calls (l.length + 1) A c l (fewestV l) w hr hc ?_).mono (fun e w' h => h)
  unfold kind_fewest.f
  cases l with
  | nil => rfl
  | cons x l =>
    rw [if_neg (by rw [List.length_cons]; omega), if_pos (by rw [List.length_cons]; omega)]
    have h0 : rd (x :: l) 0 = x := rfl
    rw [h0]
    exact fewest_l (x :: l) hl (x :: l).length 0 _ x (by omega) (by omega)

def Nd.ready (n : Nd) (l : List Int) : Int := if (n.k == 5) = true then 0 else if (decide (0 < fewestV l) && n.has 17) = true then n.ends (fewestV l) else fewestV l
def Nd.count (n : Nd) (l : List Int) : Int := if (fewestV l == 0) = true then 0 else if n.has 17 = true then n.ends (wrap64 (fewestV l + n.padR)) else if (n.k == 5) = true then 1 else fewestV l

set_option maxHeartbeats 800000 in
set_option maxRecDepth 100000 in
theorem Ready_c (n : Nd) (s : Ns) (A : Option Addr) (c : Nat) (l : List Int) (w : World) (hG : Tab w) (hr : Kd.C (Kd.int .i64) w A l.length l) (hc : l.length ≤ c) (hl : l.length ≤ 4096) (h0 : n.stp ≠ 0) :
    Calls Tryd.prog 20 #[n.val s, .slice A l.length c] w fun e w' => e = .returned (.int .i64 (n.ready l)) ∧ Below w.heap.size w w' := by
  have huN := Tryd.underlying29
  have BK := Aside0.mk (keep0 w (n.box s))
  have HG := Aside0.mk hG
  clear hG
  have HR := Aside0.mk hr
  clear hr
  go_enter Tryd.func20, Tryd.ntmps20
  go_upto_region 4 with (first | (refine wl_box (a1 := ?_) rfl rfl rfl BK.out.2 ?_ ?_; rotate_left 1; (· simp only [Act.put, List.setIfInBounds_toArray, List.set_cons_zero, List.set_cons_succ, guarded_true, i64_w, i32_w]; with_reducible rfl)) | (go_at_call 43; (with_reducible refine (fewest_c A c l _ (Kd.C_below HR.out BK.out.1) hc hl).mono ?_); rintro e w2 ⟨rfl, hb⟩; have BK' := Aside0.mk (keepB BK.out hb); clear BK hb; have BK := BK'; clear BK'; (try clear hcz); have hcz := bcs15 BK.out.2))
  all_goals try (refine plan0_ (id := 4) (S := fun w' => Below w.heap.size w w' ∧ w'.heap[w.heap.size]? = some (n.box s)) [(0, true), (1, true), (2, true), (3, true), (4, false), (5, true), (6, true)] (by kernel_rfl) BK.out ?_; intro w3 hS; (repeat (first | (refine plan_p (v := ?_) (a1 := ?_) (by simp only [List.getElem?_toArray, List.getElem?_cons_zero, List.getElem?_cons_succ]; rfl) rfl ?_ ?_ ?_ ?_; rotate_left 2; (· intro w_ hS_; refine (run_box _ _ rfl rfl hS_.2).trans ?_; with_reducible rfl); (· simp only [Act.put, List.setIfInBounds_toArray, List.set_cons_zero, List.set_cons_succ, guarded_true, i64_w, i32_w]; with_reducible rfl); (· exact fun _ _ _ h => h)) | (refine plan_or (b := ?_) (z := ?_) (a1 := ?_) (by simp only [List.getElem?_toArray, List.getElem?_cons_zero, List.getElem?_cons_succ]; rfl) rfl (by first | exact wanted_none rfl | exact ow_wt rfl rfl | exact ow_wf rfl rfl | exact ow_wnt rfl rfl | exact ow_wnf rfl rfl) ?_ ?_ ?_ ?_ ?_; rotate_left 3; (· intro hg; (try simp only [Bool.and_eq_true, Bool.not_eq_true', Bool.not_eq_eq_eq_not, Bool.not_true] at hg); (first | rfl | ((show (guarded _ (Value.bool _)) = _); (simp only [hg, guarded_true, Bool.not_false, Bool.not_true, Bool.or_false, Bool.and_self, Bool.and_true, Bool.true_and, Bool.false_eq_true]; with_reducible rfl)))); (· intro hg hz; (try simp only [Bool.and_eq_true, Bool.not_eq_true', Bool.not_eq_eq_eq_not, Bool.not_true] at hg); (show (guarded _ (Value.bool _)) = _); (simp only [hg, hz, guarded_true, Bool.not_false, Bool.not_true, Bool.or_false, Bool.and_self, Bool.and_true, Bool.true_and, Bool.false_eq_true]; with_reducible rfl)); (· simp only [Act.put, List.setIfInBounds_toArray, List.set_cons_zero, List.set_cons_succ, guarded_true, i64_w, i32_w]; with_reducible rfl); (· exact fun _ _ _ h => h)) | (refine plan_and (b := ?_) (z := ?_) (a1 := ?_) (by simp only [List.getElem?_toArray, List.getElem?_cons_zero, List.getElem?_cons_succ]; rfl) rfl (by first | exact wanted_none rfl | exact ow_wt rfl rfl | exact ow_wf rfl rfl | exact ow_wnt rfl rfl | exact ow_wnf rfl rfl) ?_ ?_ ?_ ?_ ?_; rotate_left 3; (· intro hg; (try simp only [Bool.and_eq_true, Bool.not_eq_true', Bool.not_eq_eq_eq_not, Bool.not_true] at hg); (first | rfl | ((show (guarded _ (Value.bool _)) = _); (simp only [hg, guarded_true, Bool.not_false, Bool.not_true, Bool.or_false, Bool.and_self, Bool.and_true, Bool.true_and, Bool.false_eq_true]; with_reducible rfl)))); (· intro hg hz; (try simp only [Bool.and_eq_true, Bool.not_eq_true', Bool.not_eq_eq_eq_not, Bool.not_true] at hg); (show (guarded _ (Value.bool _)) = _); (simp only [hg, hz, guarded_true, Bool.not_false, Bool.not_true, Bool.or_false, Bool.and_self, Bool.and_true, Bool.true_and, Bool.false_eq_true]; with_reducible rfl)); (· simp only [Act.put, List.setIfInBounds_toArray, List.set_cons_zero, List.set_cons_succ, guarded_true, i64_w, i32_w]; with_reducible rfl); (· exact fun _ _ _ h => h)) | (refine plan_p (v := ?_) (a1 := ?_) (by simp only [List.getElem?_toArray, List.getElem?_cons_zero, List.getElem?_cons_succ]; rfl) rfl ?_ ?_ ?_ ?_; rotate_left 2; (· intro w_ hS_; (try have hcz := bcs15 hS_.2); go_simp; with_reducible rfl); (· simp only [Act.put, List.setIfInBounds_toArray, List.set_cons_zero, List.set_cons_succ, guarded_true, i64_w, i32_w]; with_reducible rfl); (· exact fun _ _ _ h => h)) | (refine plan_g (v := ?_) (a1 := ?_) (by simp only [List.getElem?_toArray, List.getElem?_cons_zero, List.getElem?_cons_succ]; rfl) (by first | exact wanted_none rfl | exact ow_wt rfl rfl | exact ow_wf rfl rfl | exact ow_wnt rfl rfl | exact ow_wnf rfl rfl) ?_ ?_ ?_ ?_; rotate_left 2; (· intro hg w_ hS_; refine (run_box _ _ rfl rfl hS_.2).trans ?_; with_reducible rfl); (· simp only [Act.put, List.setIfInBounds_toArray, List.set_cons_zero, List.set_cons_succ, guarded_true, i64_w, i32_w]; with_reducible rfl); (· exact fun _ _ _ h => h)) | (refine plan_g (v := ?_) (a1 := ?_) (by simp only [List.getElem?_toArray, List.getElem?_cons_zero, List.getElem?_cons_succ]; rfl) (by first | exact wanted_none rfl | exact ow_wt rfl rfl | exact ow_wf rfl rfl | exact ow_wnt rfl rfl | exact ow_wnf rfl rfl) ?_ ?_ ?_ ?_; rotate_left 2; (· intro hg w_ hS_; (try simp only [Bool.and_eq_true, Bool.not_eq_true', Bool.not_eq_eq_eq_not, Bool.not_true] at hg); (try simp only [hg, guarded_true, Bool.not_false, Bool.not_true, Bool.or_false, Bool.and_self, Bool.and_true, Bool.true_and, Bool.false_eq_true]); (try have hcz := bcs15 hS_.2); go_simp; with_reducible rfl); (· simp only [Act.put, List.setIfInBounds_toArray, List.set_cons_zero, List.set_cons_succ, guarded_true, i64_w, i32_w]; with_reducible rfl); (· exact fun _ _ _ h => h)) | (refine plan_c (v := ?_) (a1 := ?_) (args := ?_) 42 (by simp only [List.getElem?_toArray, List.getElem?_cons_zero, List.getElem?_cons_succ]; rfl) rfl rfl Tryd.func42 (by rfl) rfl (by first | exact wanted_none rfl | exact ow_wt rfl rfl | exact ow_wf rfl rfl | exact ow_wnt rfl rfl | exact ow_wnf rfl rfl) ?_ ?_ hS (fun _ _ h hb => keepB h hb) ?_ ?_; rotate_left 3; (· intro hg; (try simp only [Bool.and_eq_true, Bool.not_eq_true', Bool.not_eq_eq_eq_not, Bool.not_true] at hg); (try simp only [hg, guarded_true, Bool.not_false, Bool.not_true, Bool.or_false, Bool.and_self, Bool.and_true, Bool.true_and, Bool.false_eq_true]); go_simp; with_reducible rfl); (· intro hg; with_reducible refine (has_c n s _ _ (Tab.below HG.out hS.1)).mono ?_; rintro e w_ ⟨he, hb⟩; refine ⟨he.trans ?_, hb⟩; with_reducible rfl); (· simp only [Act.put, List.setIfInBounds_toArray, List.set_cons_zero, List.set_cons_succ, guarded_true, i64_w, i32_w]; with_reducible rfl); intro w3 hS_; clear hS; have hS := hS_; clear hS_))); refine plan_n ?_; clear BK; have BK := Aside0.mk hS; clear hS; (try clear hcz); have hcz := bcs15 BK.out.2; go_wp2_with (first | (refine wl_box (a1 := ?_) rfl rfl rfl BK.out.2 ?_ ?_; rotate_left 1; (· simp only [Act.put, List.setIfInBounds_toArray, List.set_cons_zero, List.set_cons_succ, guarded_true, i64_w, i32_w]; with_reducible rfl)) | (go_at_call 44; (with_reducible refine (ends_c n s _ _ (Tab.below HG.out BK.out.1) h0).mono ?_); rintro e w2 ⟨rfl, hb⟩; have BK' := Aside0.mk (keepB BK.out hb); clear BK hb; have BK := BK'; clear BK'; (try clear hcz); have hcz := bcs15 BK.out.2)))
  all_goals (go_ret; exact ⟨by (try clear hcz); unfold Nd.ready; (first | rfl | (simp only [*]; done) | (simp only [*]; rfl) | ((repeat (first | rw [if_pos (by assumption)] | rw [if_neg (by assumption)] | rw [if_neg (Int.not_le.mpr (by assumption))] | rw [if_neg (Int.not_lt.mpr (by assumption))])); rfl) | ((repeat' (first | rfl | split)) <;> first | rfl | (exfalso; simp_all; done) | (exfalso; simp_all; omega) | (exfalso; omega))), BK.out.1⟩)

set_option maxHeartbeats 800000 in
set_option maxRecDepth 100000 in
theorem Count_c (n : Nd) (s : Ns) (A : Option Addr) (c : Nat) (l : List Int) (w : World) (hG : Tab w) (hr : Kd.C (Kd.int .i64) w A l.length l) (hc : l.length ≤ c) (hl : l.length ≤ 4096) (h0 : n.stp ≠ 0) :
    Calls Tryd.prog 21 #[n.val s, .slice A l.length c] w fun e w' => e = .returned (.int .i64 (n.count l)) ∧ Below w.heap.size w w' := by
  have huN := Tryd.underlying29
  have BK := Aside0.mk (keep0 w (n.box s))
  have HG := Aside0.mk hG
  clear hG
  have HR := Aside0.mk hr
  clear hr
  go_enter Tryd.func21, Tryd.ntmps21
  go_wp2_with (first | (refine wl_box (a1 := ?_) rfl rfl rfl BK.out.2 ?_ ?_; rotate_left 1; (· simp only [Act.put, List.setIfInBounds_toArray, List.set_cons_zero, List.set_cons_succ, guarded_true, i64_w, i32_w]; with_reducible rfl)) | (go_at_call 42; (with_reducible refine (has_c n s _ _ (Tab.below HG.out BK.out.1)).mono ?_); rintro e w2 ⟨rfl, hb⟩; have BK' := Aside0.mk (keepB BK.out hb); clear BK hb; have BK := BK'; clear BK'; (try clear hcz); have hcz := bcs15 BK.out.2) | (go_at_call 18; (with_reducible refine (Pads_c n s _ (Tab.below HG.out BK.out.1)).mono ?_); rintro e w2 ⟨rfl, hb⟩; have BK' := Aside0.mk (keepB BK.out hb); clear BK hb; have BK := BK'; clear BK'; (try clear hcz); have hcz := bcs15 BK.out.2) | (go_at_call 43; (with_reducible refine (fewest_c A c l _ (Kd.C_below HR.out BK.out.1) hc hl).mono ?_); rintro e w2 ⟨rfl, hb⟩; have BK' := Aside0.mk (keepB BK.out hb); clear BK hb; have BK := BK'; clear BK'; (try clear hcz); have hcz := bcs15 BK.out.2) | (go_at_call 44; (with_reducible refine (ends_c n s _ _ (Tab.below HG.out BK.out.1) h0).mono ?_); rintro e w2 ⟨rfl, hb⟩; have BK' := Aside0.mk (keepB BK.out hb); clear BK hb; have BK := BK'; clear BK'; (try clear hcz); have hcz := bcs15 BK.out.2))
  all_goals (go_ret; exact ⟨by (try clear hcz); unfold Nd.count; (first | rfl | (simp only [*]; done) | (simp only [*]; rfl) | ((repeat (first | rw [if_pos (by assumption)] | rw [if_neg (by assumption)] | rw [if_neg (Int.not_le.mpr (by assumption))] | rw [if_neg (Int.not_lt.mpr (by assumption))])); rfl) | ((repeat' (first | rfl | split)) <;> first | rfl | (exfalso; simp_all; done) | (exfalso; simp_all; omega) | (exfalso; omega))), BK.out.1⟩)
end Go.Proofs.YtohhaonjckfkaaaDoor.Hand
