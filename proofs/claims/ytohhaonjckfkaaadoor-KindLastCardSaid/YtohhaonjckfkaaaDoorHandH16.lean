/- Contracts of Go functions that the laws of this seat reach, by hand: each call returns what the Lean function of its name tells. Conditions: those that each theorem names, none else. -/
import Derived.Test.YtohhaonjckfkaaaDoorHandH15
import Derived.Test.YtohhaonjckfkaaaDoorHandQ2
namespace Go.Proofs.YtohhaonjckfkaaaDoor.Hand
open Go.RowKit Go.Proofs.YtohhaonjckfkaaaDoorW.PrintWords Go.Proofs.YtohhaonjckfkaaaDoorW.PrintLast Go.Proofs.YtohhaonjckfkaaaDoorW.PrintMore
attribute [local go_sem] max2_int min2_int max_two min_two max_three min_three max_four min_four
set_option linter.unusedVariables false
set_option linter.unusedSimpArgs false

attribute [local go_sem] guarded_true
abbrev zN : Nd := { k := 0, inn := [], wid := 0, size := 0, step := 0, gap := 0, left := 0, right := 0, ws := [], bs := [], mult := 0, shift := 0, low := 0, high := 0, post := 0 }
abbrev zS : Ns := { ia := none, ic := 0, wa := none, wc := 0, ba := none, bc := 0 }
theorem zbox : (Obj.cells #[.int .i64 0, .slice none 0 0, .int .i64 0, .int .i64 0, .int .i64 0, .int .i64 0, .int .i64 0, .int .i64 0, .slice none 0 0, .slice none 0 0, .int .i64 0, .int .i64 0, .int .i64 0, .int .i64 0, .int .i64 0] 29 (0, 0)) = zN.box zS := rfl
theorem size_alloc (w : World) (o : Obj) : (w.alloc o).heap.size = w.heap.size + 1 := by simp
theorem wst0 {w0 w : World} {g : Nat} {L : List Int} (n : Nd) (s : Ns) (hI : RowAt w0 w g L) (hB : Below w0.heap.size w0 w) (hg : g < w.heap.size) : Wst w0 w ((w.alloc (n.box s)).alloc (zN.box zS)) g L w.heap.size n s := by
  obtain ⟨at_, hI, ha⟩ := hI
  exact ⟨⟨at_, (hI.alloc _).alloc _, ha⟩, below_alloc (below_alloc hB _) _, keep_alloc (keep_alloc (KeepBut.refl w g none) _) _, blk_alloc (blk_new w _) _, ⟨zN.cells zS, by have h := blk_new (w.alloc (n.box s)) (zN.box zS); rwa [size_alloc] at h, rfl⟩, hg, Nat.le_refl _⟩
theorem Wst.bel {w0 w W W' : World} {g : Nat} {L : List Int} {b : Nat} {n : Nd} {s : Ns} (h : Wst w0 w W g L b n s) (hb : Below W.heap.size W W') : Wst w0 w W' g L b n s := by
  obtain ⟨cs, h1, h2⟩ := h.res
  obtain ⟨at_, hI, ha⟩ := h.row
  exact ⟨⟨at_, hI.below hb, ha⟩, below_step h.below hb, ⟨Nat.le_trans h.keep.1 hb.size, fun i hi h0 hn => (hb.block i (Nat.lt_of_lt_of_le hi h.keep.1)).trans (h.keep.2 i hi h0 hn)⟩, blk_below h.box hb, ⟨cs, blk_below h1 hb, h2⟩, h.gb, h.wb⟩
theorem RowAt.row_ {w0 W : World} {g k : Nat} {L : List Int} {cs : Array Value} (h : RowAt w0 W g L) (hne : g ≠ k) : RowAt w0 (W.setRow k cs) g L := by
  obtain ⟨at_, ⟨A0, c0, h1, h2, h3⟩, ha⟩ := h
  exact ⟨at_, ⟨A0, c0, setRow_far h1 hne, h2, h3⟩, ha⟩
/-- a window's numbers -/
def Win (n n' : Nd) : Prop := ∃ a b c d e : Int, n' = { n with size := a, step := b, gap := c, left := d, right := e } ∧ 1 ≤ a ∧ a ≤ 4 ∧ 1 ≤ b ∧ b ≤ 3 ∧ 1 ≤ c ∧ c ≤ 3 ∧ 0 ≤ d ∧ d < (a - 1) * c + 1 ∧ 0 ≤ e ∧ e < (a - 1) * c + 1

set_option maxHeartbeats 4000000 in
set_option maxRecDepth 100000 in
theorem window_c (n : Nd) (s : Ns) (g : Nat) (L : List Int) (w0 w : World) (hI : RowAt w0 w g L) (hB : Below w0.heap.size w0 w) (hL : L.length ≤ 4096) (hw : w0.heap.size ≤ w.heap.size) (hg : g < w.heap.size) (hk : rFour n.k = true) :
    Calls Tryd.prog 61 #[.pointer (some ⟨g, 0, none⟩), n.val s] w fun e w' => ∃ n', e = .returned (n'.val s) ∧ Win n n' ∧ RowAt w0 w' g L ∧ Below w0.heap.size w0 w' ∧ KeepBut w w' g none := by
  have huN := Tryd.underlying29
  have ST := Aside0.mk (wst0 n s hI hB hg)
  clear hI hB
  go_enter Tryd.func61, Tryd.ntmps61
  go_upto_region 1 with (fail)
  rw [zbox]
  generalize (w.alloc (n.box s)).alloc (zN.box zS) = W0 at ST ⊢
  go_upto_region 2 with (first | (go_at_call 60; refine (Next_c g L _ w0 _ ST.out.row ST.out.below hL (by omega) (by omega)).mono ?_; rintro e w2 ⟨r1, rfl, ha1, hb1, hI, hB', hK⟩; have ST' := Aside0.mk (ST.out.next hI hB' hK); clear ST hI hB' hK; have ST := ST'; clear ST'; (try clear hcz); have hcz := bcs15 ST.out.box))
  obtain ⟨n1, hn1⟩ : ∃ n_ : Nd, n_ = { n with size := 1 + r1 } := ⟨_, rfl⟩
  have ST' : Aside0 (Wst w0 w (w2.setCell ⟨w.heap.size, 3, none⟩ (.int .i64 (1 + r1))) g L w.heap.size n1 s) := by rw [hn1]; exact ⟨ST.out.put hw 3 _ _ s rfl⟩
  have Hn1 := Aside0.mk hn1
  clear ST hcz hn1
  generalize w2.setCell ⟨w.heap.size, 3, none⟩ (.int .i64 (1 + r1)) = W0 at ST' ⊢
  have ST := ST'
  clear ST'
  have hcz := bcs15 ST.out.box
  go_upto_region 3 with (first | (go_at_call 60; refine (Next_c g L _ w0 _ ST.out.row ST.out.below hL (by omega) (by omega)).mono ?_; rintro e w2 ⟨r2, rfl, ha2, hb2, hI, hB', hK⟩; have ST' := Aside0.mk (ST.out.next hI hB' hK); clear ST hI hB' hK; have ST := ST'; clear ST'; (try clear hcz); have hcz := bcs15 ST.out.box))
  obtain ⟨n2, hn2⟩ : ∃ n_ : Nd, n_ = { n1 with step := 1 + r2 } := ⟨_, rfl⟩
  have ST' : Aside0 (Wst w0 w (w2.setCell ⟨w.heap.size, 4, none⟩ (.int .i64 (1 + r2))) g L w.heap.size n2 s) := by rw [hn2]; exact ⟨ST.out.put hw 4 _ _ s rfl⟩
  have Hn2 := Aside0.mk hn2
  clear ST hcz hn2
  generalize w2.setCell ⟨w.heap.size, 4, none⟩ (.int .i64 (1 + r2)) = W0 at ST' ⊢
  have ST := ST'
  clear ST'
  have hcz := bcs15 ST.out.box
  go_upto_region 4 with (first | (go_at_call 60; refine (Next_c g L _ w0 _ ST.out.row ST.out.below hL (by omega) (by omega)).mono ?_; rintro e w2 ⟨r3, rfl, ha3, hb3, hI, hB', hK⟩; have ST' := Aside0.mk (ST.out.next hI hB' hK); clear ST hI hB' hK; have ST := ST'; clear ST'; (try clear hcz); have hcz := bcs15 ST.out.box))
  obtain ⟨n3, hn3⟩ : ∃ n_ : Nd, n_ = { n2 with gap := 1 + r3 } := ⟨_, rfl⟩
  have ST' : Aside0 (Wst w0 w (w2.setCell ⟨w.heap.size, 5, none⟩ (.int .i64 (1 + r3))) g L w.heap.size n3 s) := by rw [hn3]; exact ⟨ST.out.put hw 5 _ _ s rfl⟩
  have Hn3 := Aside0.mk hn3
  clear ST hcz hn3
  generalize w2.setCell ⟨w.heap.size, 5, none⟩ (.int .i64 (1 + r3)) = W0 at ST' ⊢
  have ST := ST'
  clear ST'
  have hcz := bcs15 ST.out.box
  have hm := mul_le r1 3 (1 + r3) 3 ha1 (by omega) (by omega) (by omega)
  have hsp : Aside0 (n3.rSpan = r1 * (1 + r3) + 1) := by
    have hk3 : n3.k = n.k := by rw [Hn3.out, Hn2.out, Hn1.out]
    have hs3 : n3.size = 1 + r1 := by rw [Hn3.out, Hn2.out, Hn1.out]
    have hg3 : n3.gap = 1 + r3 := by rw [Hn3.out]
    unfold Nd.rSpan
    unfold rFour at hk
    simp only [Bool.or_eq_true, beq_iff_eq] at hk
    rw [if_neg (by rw [hk3]; simp; omega), if_neg (by rw [hk3]; simp [rWin]; omega), hs3, hg3, w64 (x := 1 + r1 - 1) (by omega) (by omega), show 1 + r1 - 1 = r1 by omega, w64 (x := r1 * (1 + r3)) (by omega) (by omega), w64 (by omega) (by omega)]
    exact ⟨rfl⟩
  have hs1 : 0 < n3.rSpan ∧ n3.rSpan ≤ 10 := by rw [hsp.out]; omega
  go_upto_region 5 with (first | (refine wl_box (a1 := ?_) rfl rfl rfl ST.out.box ?_ ?_; rotate_left 1; (· simp only [Act.put, List.setIfInBounds_toArray, List.set_cons_zero, List.set_cons_succ, guarded_true, i64_w, i32_w]; with_reducible rfl)) | (go_at_call 37; (with_reducible refine (rSpan_c n3 s _).mono ?_); rintro e w2 ⟨rfl, hb⟩; have ST' := Aside0.mk (ST.out.bel hb); clear ST hb; have ST := ST'; clear ST'; (try clear hcz); have hcz := bcs15 ST.out.box) | (go_at_call 60; refine (Next_c g L _ w0 _ ST.out.row ST.out.below hL (by omega) (by omega)).mono ?_; rintro e w2 ⟨r4, rfl, ha4, hb4, hI, hB', hK⟩; have ST' := Aside0.mk (ST.out.next hI hB' hK); clear ST hI hB' hK; have ST := ST'; clear ST'; (try clear hcz); have hcz := bcs15 ST.out.box))
  obtain ⟨n4, hn4⟩ : ∃ n_ : Nd, n_ = { n3 with left := r4 } := ⟨_, rfl⟩
  have ST' : Aside0 (Wst w0 w (w2.setCell ⟨w.heap.size, 6, none⟩ (.int .i64 (r4))) g L w.heap.size n4 s) := by rw [hn4]; exact ⟨ST.out.put hw 6 _ _ s rfl⟩
  have Hn4 := Aside0.mk hn4
  clear ST hcz hn4
  generalize w2.setCell ⟨w.heap.size, 6, none⟩ (.int .i64 (r4)) = W0 at ST' ⊢
  have ST := ST'
  clear ST'
  have hcz := bcs15 ST.out.box
  have hsp4 : Aside0 (n4.rSpan = n3.rSpan) := by rw [Hn4.out]; exact ⟨rfl⟩
  have hs2 : 0 < n4.rSpan ∧ n4.rSpan ≤ 10 := by rw [hsp4.out]; exact hs1
  go_upto_region 6 with (first | (refine wl_box (a1 := ?_) rfl rfl rfl ST.out.box ?_ ?_; rotate_left 1; (· simp only [Act.put, List.setIfInBounds_toArray, List.set_cons_zero, List.set_cons_succ, guarded_true, i64_w, i32_w]; with_reducible rfl)) | (go_at_call 37; (with_reducible refine (rSpan_c n4 s _).mono ?_); rintro e w2 ⟨rfl, hb⟩; have ST' := Aside0.mk (ST.out.bel hb); clear ST hb; have ST := ST'; clear ST'; (try clear hcz); have hcz := bcs15 ST.out.box) | (go_at_call 60; refine (Next_c g L _ w0 _ ST.out.row ST.out.below hL (by omega) (by omega)).mono ?_; rintro e w2 ⟨r5, rfl, ha5, hb5, hI, hB', hK⟩; have ST' := Aside0.mk (ST.out.next hI hB' hK); clear ST hI hB' hK; have ST := ST'; clear ST'; (try clear hcz); have hcz := bcs15 ST.out.box))
  obtain ⟨n5, hn5⟩ : ∃ n_ : Nd, n_ = { n4 with right := r5 } := ⟨_, rfl⟩
  have ST' : Aside0 (Wst w0 w (w2.setCell ⟨w.heap.size, 7, none⟩ (.int .i64 (r5))) g L w.heap.size n5 s) := by rw [hn5]; exact ⟨ST.out.put hw 7 _ _ s rfl⟩
  have Hn5 := Aside0.mk hn5
  clear ST hcz hn5
  generalize w2.setCell ⟨w.heap.size, 7, none⟩ (.int .i64 (r5)) = W0 at ST' ⊢
  have ST := ST'
  clear ST'
  have hcz := bcs15 ST.out.box
  obtain ⟨cs, hr1, hr2⟩ := ST.out.res
  go_wp2_with (first | (refine wl_box (a1 := ?_) rfl rfl rfl ST.out.box ?_ ?_; rotate_left 1; (· simp only [Act.put, List.setIfInBounds_toArray, List.set_cons_zero, List.set_cons_succ, guarded_true, i64_w, i32_w]; with_reducible rfl)) | (refine wl_stbox (n := n5) (s := s) (a1 := ?_) rfl rfl rfl rfl hr1 hr2 ?_ ?_; rotate_left 1; (· simp only [Act.put, List.setIfInBounds_toArray, List.set_cons_zero, List.set_cons_succ]; with_reducible rfl)))
  have hgb := ST.out.gb
  have hi : (Tryd.prog.info? 29).map (·.size) = some (n5.cells s).size := (show (Tryd.prog.info? 29).map (·.size) = some 15 by kernel_rfl)
  (try simp only [Exit.inBlock, Exit.then])
  refine bodyPost_ret (results_cell_row rfl _ _ (w.heap.size + 1) 29 (n5.cells s) (0, 0) _ rfl (setRow_box hr1) huN rfl hi) rfl ?_
  refine ⟨n5, rfl, ⟨1 + r1, 1 + r2, 1 + r3, r4, r5, by rw [Hn5.out, Hn4.out, Hn3.out, Hn2.out, Hn1.out], by omega, by omega, by omega, by omega, by omega, by omega, ha4, ?_, ha5, ?_⟩, ST.out.row.row_ (by omega), below_setRow ST.out.below (by omega) _, setRow_keep ST.out.keep (by omega)⟩
  · rw [show 1 + r1 - 1 = r1 by omega, ← hsp.out]; exact hb4
  · rw [show 1 + r1 - 1 = r1 by omega, ← hsp.out, ← hsp4.out]; exact hb5
end Go.Proofs.YtohhaonjckfkaaaDoor.Hand
