/- Contracts of Go functions that the laws of this seat reach, by hand: each call returns what the Lean function of its name tells. Conditions: those that each theorem names, none else. -/
import Derived.Test.YtohhaonjckfkaaaDoorHandH23
import Derived.Test.YtohhaonjckfkaaaDoorHandH13
namespace Go.Proofs.YtohhaonjckfkaaaDoor.Hand
open Go.RowKit Go.Proofs.YtohhaonjckfkaaaDoorW.PrintWords Go.Proofs.YtohhaonjckfkaaaDoorW.PrintLast Go.Proofs.YtohhaonjckfkaaaDoorW.PrintMore
attribute [local go_sem] max2_int min2_int max_two min_two max_three min_three max_four min_four
set_option linter.unusedVariables false
set_option linter.unusedSimpArgs false

attribute [local go_sem] guarded_true
theorem bcs4 {w : World} {g : Nat} {t : TypeId} {c0 c1 c2 c3 : Value} (h : w.heap[g]? = some (.cells #[c0, c1, c2, c3] t (0, 0))) : (w.cell? ⟨g, 0, none⟩ = some c0 ∧ w.cell? ⟨g, 1, none⟩ = some c1 ∧ w.cell? ⟨g, 2, none⟩ = some c2 ∧ w.cell? ⟨g, 3, none⟩ = some c3) ∧ w.frozen? ⟨g, 0, none⟩ = false ∧ w.frozen? ⟨g, 1, none⟩ = false ∧ w.frozen? ⟨g, 2, none⟩ = false ∧ w.frozen? ⟨g, 3, none⟩ = false := ⟨⟨(blk_cell h 0).trans rfl, (blk_cell h 1).trans rfl, (blk_cell h 2).trans rfl, (blk_cell h 3).trans rfl⟩, blk_frozen h 0, blk_frozen h 1, blk_frozen h 2, blk_frozen h 3⟩
theorem checks_t (n : Nd) (s : Ns) (A : Option Addr) (c : Nat) (l : List Int) (m : Nat) (hm : m = l.length) (w : World) (hG : Tab w) (hA : n.At s w) (hn : n.Short) (hr : Kd.C (Kd.int .i64) w A l.length l) (hc : l.length ≤ c) (hl : l.length ≤ 4096) :
    Calls Tryd.prog 23 #[n.val s, .slice A m c] w fun e w' => e = .returned (.bool true) ∧ Below w.heap.size w w' := by
  subst hm
  refine (checks_c n s A c l w hG hA hn hr hc hl).mono ?_
  rintro e w' ⟨rfl, hb⟩
  exact ⟨by rw [both_eq], hb⟩
structure Chs (n : Nd) (s : Ns) (n2 : Nd) (s2 : Ns) (n3 : Nd) (s3 : Ns) (A : Option Addr) (xs : List Int) (Am : Option Addr) (ys : List Int) (W : World) : Prop where
  h1 : n.At s W
  h2 : n2.At s2 W
  h3 : n3.At s3 W
  h4 : Kd.C (Kd.int .i64) W A xs.length xs
  h5 : Kd.C (Kd.int .i64) W Am ys.length ys
theorem Chs.step {n : Nd} {s : Ns} {n2 : Nd} {s2 : Ns} {n3 : Nd} {s3 : Ns} {A : Option Addr} {xs : List Int} {Am : Option Addr} {ys : List Int} {W W' : World} (h : Chs n s n2 s2 n3 s3 A xs Am ys W) (hb : Below W.heap.size W W') : Chs n s n2 s2 n3 s3 A xs Am ys W' :=
  ⟨h.h1.below hb, h.h2.below hb, h.h3.below hb, Kd.C_below h.h4 hb, Kd.C_below h.h5 hb⟩
set_option maxHeartbeats 8000000 in
set_option maxRecDepth 100000 in
theorem KindChecks_c (l : List Int) (A0 : Option Addr) (c0 : Nat) (wd : Int) (two : Bool) (how0 nn0 how1 nn1 : Int) (l1 : List Int) (A1 : Option Addr) (c1 : Nat) (w : World) (hG : Tab w) (hr : Kd.C (Kd.int .i64) w A0 l.length l) (hc : l.length ≤ c0) (hr1 : Kd.C (Kd.int .i64) w A1 l1.length l1) (hc1 : l1.length ≤ c1) :
    Calls Tryd.prog 6 #[.agg #[.slice A0 l.length c0, .int .i64 wd, .bool two], .agg #[.int .i64 how0, .int .i64 nn0, .int .i64 how1, .int .i64 nn1], .slice A1 l1.length c1] w fun e w' => e = .returned (.bool true) ∧ Below w.heap.size w w' := by
  have HR := Aside0.mk hr
  have HR1 := Aside0.mk hr1
  have HG := Aside0.mk hG
  clear hr hG hr1
  have huN := Tryd.underlying29
  go_enter Tryd.func6, Tryd.ntmps6
  go_upto_region 1 with (fail)
  have KS_ := Aside0.mk (((KS.nil w).alloc (.cells #[.slice A0 l.length c0, .int .i64 wd, .bool two] 24)).alloc (.cells #[.int .i64 how0, .int .i64 nn0, .int .i64 how1, .int .i64 nn1] 43))
  rw [size_alloc] at KS_
  generalize (w.alloc (.cells #[.slice A0 l.length c0, .int .i64 wd, .bool two] 24)).alloc (.cells #[.int .i64 how0, .int .i64 nn0, .int .i64 how1, .int .i64 nn1] 43) = W0 at KS_ ⊢
  have hcq := bcs3 KS_.out.a1
  go_upto_region 3 with (first | (go_at_call 14; refine (awake_c _ (Tab.below HG.out KS_.out.bel)).mono ?_; rintro e w2 ⟨rfl, hb⟩; (try clear hcq); have KS' := Aside0.mk (KS_.out.step hb); clear KS_ hb; have KS_ := KS'; clear KS'; have hcq := bcs3 KS_.out.a1) | (go_at_call 15; refine (made_c A0 c0 l wd two _ (Kd.C_below HR.out KS_.out.bel) hc).mono ?_; rintro e w2 ⟨n, s, A, c, xs, rfl, hF, hA, hC, hxc, hx1, hx2, hb, hfar⟩; have hF1 := hfar _ (blk_lt KS_.out.a0); clear hfar; have KS' := Aside0.mk (KS_.out.step hb); clear KS_ hb; have KS_ := KS'; clear KS'; have HA := Aside0.mk hA; have HC := Aside0.mk hC; clear hA hC) | (refine wl_stbox (n := n) (s := s) (a1 := ?_) rfl rfl rfl rfl (blk_new w2 _) rfl ?_ ?_; rotate_left 1; (· simp only [Act.put, List.setIfInBounds_toArray, List.set_cons_zero, List.set_cons_succ]; with_reducible rfl)))
  clear hcq hF1
  rw [zbox]
  have KS' := Aside0.mk (KS_.out.var n s)
  have HA' := Aside0.mk (HA.out.below (belowVar w2 n s))
  have HC' := Aside0.mk (Kd.C_below HC.out (belowVar w2 n s))
  clear KS_ HA HC
  generalize (w2.alloc (zN.box zS)).setRow w2.heap.size (n.cells s) = W1 at KS' HA' HC' ⊢
  generalize w2.heap.size = d at KS' ⊢
  have KS_ := KS'
  have HA := HA'
  have HC := HC'
  clear KS' HA' HC'
  have hcq := bcs4 KS_.out.a1
  have hi2 := hF.i
  have hw2 := hF.w
  have hb2 := hF.b
  have hs1 : n.Short := ⟨by omega, by omega, by omega⟩
  go_upto_region 4 with (first | (refine wl_boxg (a1 := ?_) rfl (by first | exact wanted_none rfl | exact (ow_wt rfl rfl).trans rfl) rfl KS_.out.a0 ?_ ?_; rotate_left 1; (· simp only [Act.put, List.setIfInBounds_toArray, List.set_cons_zero, List.set_cons_succ, guarded_true, i64_w, i32_w]; with_reducible rfl)) | (go_at_call 16; refine (spoilt_c n s how0 nn0 _ HA.out (by omega) (by omega) (by omega)).mono ?_; rintro e w2 ⟨n2, s2, rfl, hA2, hM2, hb⟩; have HA' := Aside0.mk (HA.out.below hb); have HC' := Aside0.mk (Kd.C_below HC.out hb); have KS' := Aside0.mk (KS_.out.step hb); clear KS_ hb; have KS_ := KS'; clear KS'; have HA2 := Aside0.mk hA2; clear hA2 HA HC; have HA := HA'; have HC := HC'; clear HA' HC') | (refine wl_stbox (n := n2) (s := s2) (a1 := ?_) rfl rfl rfl rfl (blk_new w2 _) rfl ?_ ?_; rotate_left 1; (· simp only [Act.put, List.setIfInBounds_toArray, List.set_cons_zero, List.set_cons_succ]; with_reducible rfl)))
  clear hcq
  rw [zbox]
  have KS' := Aside0.mk (KS_.out.var n2 s2)
  have HA' := Aside0.mk (HA.out.below (belowVar w2 n2 s2))
  have HC' := Aside0.mk (Kd.C_below HC.out (belowVar w2 n2 s2))
  have HA2' := Aside0.mk (HA2.out.below (belowVar w2 n2 s2))
  clear KS_ HA HC HA2
  generalize (w2.alloc (zN.box zS)).setRow w2.heap.size (n2.cells s2) = W2 at KS' HA' HC' HA2' ⊢
  generalize w2.heap.size = d2 at KS' ⊢
  have KS_ := KS'
  have HA := HA'
  have HC := HC'
  have HA2 := HA2'
  clear KS' HA' HC' HA2'
  have hcq := bcs4 KS_.out.a2
  have hi3 := hM2.1
  have hw3 := hM2.2.1
  have hb3 := hM2.2.2
  have hs2 : n2.Short := ⟨by omega, by omega, by omega⟩
  go_upto_region 5 with (first | (refine wl_boxg (a1 := ?_) rfl (by first | exact wanted_none rfl | exact (ow_wt rfl rfl).trans rfl) rfl KS_.out.a0 ?_ ?_; rotate_left 1; (· simp only [Act.put, List.setIfInBounds_toArray, List.set_cons_zero, List.set_cons_succ, guarded_true, i64_w, i32_w]; with_reducible rfl)) | (go_at_call 16; refine (spoilt_c n2 s2 how1 nn1 _ HA2.out (by omega) (by omega) (by omega)).mono ?_; rintro e w2 ⟨n3, s3, rfl, hA3, hM3, hb⟩; have HA' := Aside0.mk (HA.out.below hb); have HA2' := Aside0.mk (HA2.out.below hb); have HC' := Aside0.mk (Kd.C_below HC.out hb); have KS' := Aside0.mk (KS_.out.step hb); clear KS_ hb; have KS_ := KS'; clear KS'; have HA3 := Aside0.mk hA3; clear hA3 HA HA2 HC; have HA := HA'; have HA2 := HA2'; have HC := HC'; clear HA' HA2' HC') | (refine wl_stbox (n := n3) (s := s3) (a1 := ?_) rfl rfl rfl rfl (blk_new w2 _) rfl ?_ ?_; rotate_left 1; (· simp only [Act.put, List.setIfInBounds_toArray, List.set_cons_zero, List.set_cons_succ]; with_reducible rfl)))
  clear hcq
  rw [zbox]
  have KS' := Aside0.mk (KS_.out.var n3 s3)
  have HA' := Aside0.mk (HA.out.below (belowVar w2 n3 s3))
  have HC' := Aside0.mk (Kd.C_below HC.out (belowVar w2 n3 s3))
  have HA2' := Aside0.mk (HA2.out.below (belowVar w2 n3 s3))
  have HA3' := Aside0.mk (HA3.out.below (belowVar w2 n3 s3))
  clear KS_ HA HC HA2 HA3
  generalize (w2.alloc (zN.box zS)).setRow w2.heap.size (n3.cells s3) = W3 at KS' HA' HC' HA2' HA3' ⊢
  generalize w2.heap.size = d3 at KS' ⊢
  have KS_ := KS'
  have HA := HA'
  have HC := HC'
  have HA2 := HA2'
  have HA3 := HA3'
  clear KS' HA' HC' HA2' HA3'
  have hi4 := hM3.1
  have hw4 := hM3.2.1
  have hb4 := hM3.2.2
  have hs3 : n3.Short := ⟨by omega, by omega, by omega⟩
  clear hi2 hw2 hb2 hi3 hw3 hb3 hi4 hw4 hb4 hM2 hM3 hF
  by_cases h5 : 5 < l1.length
  · have c5 : decide (5 < l1.length) = true := decide_eq_true h5
    have e5 : decide (5 < (l1.length : Int)) = true := decide_eq_true (by omega)
    have p5 : (5 ≤ c1) = True := eq_true (by omega)
    have HW := Aside0.mk (Kd.C_take HR1.out (m := 5) (by omega))
    have HM1 : Aside0 (5 = (l1.take 5).length) := ⟨by rw [List.length_take]; omega⟩
    have hc51 : (l1.take 5).length ≤ c1 := by rw [List.length_take]; omega
    have hl4 : (l1.take 5).length ≤ 4096 := by rw [List.length_take]; omega
    go_upto_region 7 with (fail)
    go_upto_region 8 with (first | ((with_reducible refine gate_builtin (b := .append) (xs := #[.tmp 32, .tmp 33]) rfl ?_); at_builtin; refine Kd.R_append_row (Value.int .i64) (0 : Int) (w0 := W3) W3.heap.size rfl (.tmp 32) (.tmp 33) 22 3 (.int .i64 0) 8 rfl Tryd.underlying22 info3 rfl (by decide) (.slice (some ⟨W3.heap.size, 0, none⟩) 0 0) [] xs A xs.length c (fun _ => True) rfl rfl (fun _ _ => trivial) (R0 W3 W3.heap.size (Nat.le_refl _)) (Kd.C_alloc HC.out _) (below_alloc (Below.refl _ _) _) (Below.alloc_size _ _) (by show (0 + xs.length) * 8 ≤ 140737488355328; omega) ?_; intro v1 w4 hR4 hB4 hg4 hat4) | ((with_reducible refine gate_builtin (b := .append) (xs := #[.tmp 34, .tmp 35]) rfl ?_); at_builtin; refine Kd.R_append (Kd.int .i64) (w0 := W3) W3.heap.size rfl (.tmp 34) (.tmp 35) 22 3 (.int .i64 0) 8 rfl Tryd.underlying22 info3 rfl (by decide) (by decide) v1 ([] ++ xs) 1 [.int .i64 1] (fun _ => True) (fun _ => False) rfl rfl rfl (fun _ hk => hk.elim) (fun _ _ => trivial) hR4 hB4 hB4.size (by show (xs.length + 1) * 8 ≤ 140737488355328; omega) ?_; intro v2 w5 hR5 hB5 hg5 hat5))
    have hlen : (([] ++ xs) ++ [(1 : Int)]).length ≤ xs.length + 1 := by simp
    obtain ⟨Am, cm, rfl, hcm, hCm, _⟩ := rowfar hR5
    clear hR5 hR4 hB4 hg4 hat4 hg5 hat5
    generalize ([] ++ xs) ++ [(1 : Int)] = ys at hlen hcm hCm ⊢
    have KS' := Aside0.mk (KS_.out.step hB5)
    have CH : Aside0 (Chs n s n2 s2 n3 s3 A xs Am ys w5) := ⟨⟨HA.out.below hB5, HA2.out.below hB5, HA3.out.below hB5, Kd.C_below HC.out hB5, hCm⟩⟩
    clear KS_ HA HA2 HA3 HC hB5 hCm
    have KS_ := KS'
    clear KS'
    go_wp2_with (first | (refine wl_boxg (a1 := ?_) rfl (by first | exact wanted_none rfl | exact (ow_wt rfl rfl).trans rfl) rfl KS_.out.a2 ?_ ?_; rotate_left 1; (· simp only [Act.put, List.setIfInBounds_toArray, List.set_cons_zero, List.set_cons_succ, guarded_true, i64_w, i32_w]; with_reducible rfl)) | (refine wl_boxg (a1 := ?_) rfl (by first | exact wanted_none rfl | exact (ow_wt rfl rfl).trans rfl) rfl KS_.out.a1 ?_ ?_; rotate_left 1; (· simp only [Act.put, List.setIfInBounds_toArray, List.set_cons_zero, List.set_cons_succ, guarded_true, i64_w, i32_w]; with_reducible rfl)) | (refine wl_boxg (a1 := ?_) rfl (by first | exact wanted_none rfl | exact (ow_wt rfl rfl).trans rfl) rfl KS_.out.a0 ?_ ?_; rotate_left 1; (· simp only [Act.put, List.setIfInBounds_toArray, List.set_cons_zero, List.set_cons_succ, guarded_true, i64_w, i32_w]; with_reducible rfl)) | (go_at_call 23; with_reducible refine (checks_t n s A c xs xs.length rfl _ (Tab.below HG.out KS_.out.bel) CH.out.h1 hs1 CH.out.h4 hxc (by omega)).mono ?_; rintro e w2 ⟨rfl, hb⟩; have CH' := Aside0.mk (CH.out.step hb); clear CH; have CH := CH'; clear CH'; have KS' := Aside0.mk (KS_.out.step hb); clear KS_ hb; have KS_ := KS'; clear KS') | (go_at_call 23; with_reducible refine (checks_t n2 s2 A c xs xs.length rfl _ (Tab.below HG.out KS_.out.bel) CH.out.h2 hs2 CH.out.h4 hxc (by omega)).mono ?_; rintro e w2 ⟨rfl, hb⟩; have CH' := Aside0.mk (CH.out.step hb); clear CH; have CH := CH'; clear CH'; have KS' := Aside0.mk (KS_.out.step hb); clear KS_ hb; have KS_ := KS'; clear KS') | (go_at_call 23; with_reducible refine (checks_t n3 s3 A c xs xs.length rfl _ (Tab.below HG.out KS_.out.bel) CH.out.h3 hs3 CH.out.h4 hxc (by omega)).mono ?_; rintro e w2 ⟨rfl, hb⟩; have CH' := Aside0.mk (CH.out.step hb); clear CH; have CH := CH'; clear CH'; have KS' := Aside0.mk (KS_.out.step hb); clear KS_ hb; have KS_ := KS'; clear KS') | (go_at_call 23; with_reducible refine (checks_t n2 s2 Am cm ys ys.length rfl _ (Tab.below HG.out KS_.out.bel) CH.out.h2 hs2 CH.out.h5 hcm (by omega)).mono ?_; rintro e w2 ⟨rfl, hb⟩; have CH' := Aside0.mk (CH.out.step hb); clear CH; have CH := CH'; clear CH'; have KS' := Aside0.mk (KS_.out.step hb); clear KS_ hb; have KS_ := KS'; clear KS') | (go_at_call 23; with_reducible refine (checks_t n3 s3 Am cm ys ys.length rfl _ (Tab.below HG.out KS_.out.bel) CH.out.h3 hs3 CH.out.h5 hcm (by omega)).mono ?_; rintro e w2 ⟨rfl, hb⟩; have CH' := Aside0.mk (CH.out.step hb); clear CH; have CH := CH'; clear CH'; have KS' := Aside0.mk (KS_.out.step hb); clear KS_ hb; have KS_ := KS'; clear KS') | (go_at_call 23; with_reducible refine (checks_t n s A1 c1 (l1.take 5) 5 HM1.out _ (Tab.below HG.out KS_.out.bel) CH.out.h1 hs1 (Kd.C_below HW.out KS_.out.bel) hc51 hl4).mono ?_; rintro e w2 ⟨rfl, hb⟩; have CH' := Aside0.mk (CH.out.step hb); clear CH; have CH := CH'; clear CH'; have KS' := Aside0.mk (KS_.out.step hb); clear KS_ hb; have KS_ := KS'; clear KS') | (go_at_call 23; with_reducible refine (checks_t n3 s3 A1 c1 (l1.take 5) 5 HM1.out _ (Tab.below HG.out KS_.out.bel) CH.out.h3 hs3 (Kd.C_below HW.out KS_.out.bel) hc51 hl4).mono ?_; rintro e w2 ⟨rfl, hb⟩; have CH' := Aside0.mk (CH.out.step hb); clear CH; have CH := CH'; clear CH'; have KS' := Aside0.mk (KS_.out.step hb); clear KS_ hb; have KS_ := KS'; clear KS'))
    go_ret
    exact ⟨rfl, KS_.out.bel⟩
  · have c5 : decide (5 < l1.length) = false := decide_eq_false h5
    have HW := HR1
    have hc51 := hc1
    have hl4 : l1.length ≤ 4096 := by omega
    go_upto_region 7 with (fail)
    go_upto_region 8 with (first | ((with_reducible refine gate_builtin (b := .append) (xs := #[.tmp 32, .tmp 33]) rfl ?_); at_builtin; refine Kd.R_append_row (Value.int .i64) (0 : Int) (w0 := W3) W3.heap.size rfl (.tmp 32) (.tmp 33) 22 3 (.int .i64 0) 8 rfl Tryd.underlying22 info3 rfl (by decide) (.slice (some ⟨W3.heap.size, 0, none⟩) 0 0) [] xs A xs.length c (fun _ => True) rfl rfl (fun _ _ => trivial) (R0 W3 W3.heap.size (Nat.le_refl _)) (Kd.C_alloc HC.out _) (below_alloc (Below.refl _ _) _) (Below.alloc_size _ _) (by show (0 + xs.length) * 8 ≤ 140737488355328; omega) ?_; intro v1 w4 hR4 hB4 hg4 hat4) | ((with_reducible refine gate_builtin (b := .append) (xs := #[.tmp 34, .tmp 35]) rfl ?_); at_builtin; refine Kd.R_append (Kd.int .i64) (w0 := W3) W3.heap.size rfl (.tmp 34) (.tmp 35) 22 3 (.int .i64 0) 8 rfl Tryd.underlying22 info3 rfl (by decide) (by decide) v1 ([] ++ xs) 1 [.int .i64 1] (fun _ => True) (fun _ => False) rfl rfl rfl (fun _ hk => hk.elim) (fun _ _ => trivial) hR4 hB4 hB4.size (by show (xs.length + 1) * 8 ≤ 140737488355328; omega) ?_; intro v2 w5 hR5 hB5 hg5 hat5))
    have hlen : (([] ++ xs) ++ [(1 : Int)]).length ≤ xs.length + 1 := by simp
    obtain ⟨Am, cm, rfl, hcm, hCm, _⟩ := rowfar hR5
    clear hR5 hR4 hB4 hg4 hat4 hg5 hat5
    generalize ([] ++ xs) ++ [(1 : Int)] = ys at hlen hcm hCm ⊢
    have KS' := Aside0.mk (KS_.out.step hB5)
    have CH : Aside0 (Chs n s n2 s2 n3 s3 A xs Am ys w5) := ⟨⟨HA.out.below hB5, HA2.out.below hB5, HA3.out.below hB5, Kd.C_below HC.out hB5, hCm⟩⟩
    clear KS_ HA HA2 HA3 HC hB5 hCm
    have KS_ := KS'
    clear KS'
    go_wp2_with (first | (refine wl_boxg (a1 := ?_) rfl (by first | exact wanted_none rfl | exact (ow_wt rfl rfl).trans rfl) rfl KS_.out.a2 ?_ ?_; rotate_left 1; (· simp only [Act.put, List.setIfInBounds_toArray, List.set_cons_zero, List.set_cons_succ, guarded_true, i64_w, i32_w]; with_reducible rfl)) | (refine wl_boxg (a1 := ?_) rfl (by first | exact wanted_none rfl | exact (ow_wt rfl rfl).trans rfl) rfl KS_.out.a1 ?_ ?_; rotate_left 1; (· simp only [Act.put, List.setIfInBounds_toArray, List.set_cons_zero, List.set_cons_succ, guarded_true, i64_w, i32_w]; with_reducible rfl)) | (refine wl_boxg (a1 := ?_) rfl (by first | exact wanted_none rfl | exact (ow_wt rfl rfl).trans rfl) rfl KS_.out.a0 ?_ ?_; rotate_left 1; (· simp only [Act.put, List.setIfInBounds_toArray, List.set_cons_zero, List.set_cons_succ, guarded_true, i64_w, i32_w]; with_reducible rfl)) | (go_at_call 23; with_reducible refine (checks_t n s A c xs xs.length rfl _ (Tab.below HG.out KS_.out.bel) CH.out.h1 hs1 CH.out.h4 hxc (by omega)).mono ?_; rintro e w2 ⟨rfl, hb⟩; have CH' := Aside0.mk (CH.out.step hb); clear CH; have CH := CH'; clear CH'; have KS' := Aside0.mk (KS_.out.step hb); clear KS_ hb; have KS_ := KS'; clear KS') | (go_at_call 23; with_reducible refine (checks_t n2 s2 A c xs xs.length rfl _ (Tab.below HG.out KS_.out.bel) CH.out.h2 hs2 CH.out.h4 hxc (by omega)).mono ?_; rintro e w2 ⟨rfl, hb⟩; have CH' := Aside0.mk (CH.out.step hb); clear CH; have CH := CH'; clear CH'; have KS' := Aside0.mk (KS_.out.step hb); clear KS_ hb; have KS_ := KS'; clear KS') | (go_at_call 23; with_reducible refine (checks_t n3 s3 A c xs xs.length rfl _ (Tab.below HG.out KS_.out.bel) CH.out.h3 hs3 CH.out.h4 hxc (by omega)).mono ?_; rintro e w2 ⟨rfl, hb⟩; have CH' := Aside0.mk (CH.out.step hb); clear CH; have CH := CH'; clear CH'; have KS' := Aside0.mk (KS_.out.step hb); clear KS_ hb; have KS_ := KS'; clear KS') | (go_at_call 23; with_reducible refine (checks_t n2 s2 Am cm ys ys.length rfl _ (Tab.below HG.out KS_.out.bel) CH.out.h2 hs2 CH.out.h5 hcm (by omega)).mono ?_; rintro e w2 ⟨rfl, hb⟩; have CH' := Aside0.mk (CH.out.step hb); clear CH; have CH := CH'; clear CH'; have KS' := Aside0.mk (KS_.out.step hb); clear KS_ hb; have KS_ := KS'; clear KS') | (go_at_call 23; with_reducible refine (checks_t n3 s3 Am cm ys ys.length rfl _ (Tab.below HG.out KS_.out.bel) CH.out.h3 hs3 CH.out.h5 hcm (by omega)).mono ?_; rintro e w2 ⟨rfl, hb⟩; have CH' := Aside0.mk (CH.out.step hb); clear CH; have CH := CH'; clear CH'; have KS' := Aside0.mk (KS_.out.step hb); clear KS_ hb; have KS_ := KS'; clear KS') | (go_at_call 23; with_reducible refine (checks_t n s A1 c1 (l1) l1.length rfl _ (Tab.below HG.out KS_.out.bel) CH.out.h1 hs1 (Kd.C_below HW.out KS_.out.bel) hc51 hl4).mono ?_; rintro e w2 ⟨rfl, hb⟩; have CH' := Aside0.mk (CH.out.step hb); clear CH; have CH := CH'; clear CH'; have KS' := Aside0.mk (KS_.out.step hb); clear KS_ hb; have KS_ := KS'; clear KS') | (go_at_call 23; with_reducible refine (checks_t n3 s3 A1 c1 (l1) l1.length rfl _ (Tab.below HG.out KS_.out.bel) CH.out.h3 hs3 (Kd.C_below HW.out KS_.out.bel) hc51 hl4).mono ?_; rintro e w2 ⟨rfl, hb⟩; have CH' := Aside0.mk (CH.out.step hb); clear CH; have CH := CH'; clear CH'; have KS' := Aside0.mk (KS_.out.step hb); clear KS_ hb; have KS_ := KS'; clear KS'))
    go_ret
    exact ⟨rfl, KS_.out.bel⟩
end Go.Proofs.YtohhaonjckfkaaaDoor.Hand
