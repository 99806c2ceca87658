/- Contracts of Go functions that the laws of this seat reach, by hand: each call returns what the Lean function of its name tells. Conditions: those that each theorem names, none else. -/
import Derived.Test.YtohhaonjckfkaaaDoorHandH18
namespace Go.Proofs.YtohhaonjckfkaaaDoor.Hand
open Go.RowKit Go.Proofs.YtohhaonjckfkaaaDoorW.PrintWords Go.Proofs.YtohhaonjckfkaaaDoorW.PrintLast Go.Proofs.YtohhaonjckfkaaaDoorW.PrintMore
attribute [local go_sem] max2_int min2_int max_two min_two max_three min_three max_four min_four
set_option linter.unusedVariables false
set_option linter.unusedSimpArgs false

attribute [local go_sem] guarded_true
/-- where a walk stops -/
def Halt (p : Prop) : Prop := p
theorem halt_ {p : Prop} (h : Halt p) : p := h
set_option maxHeartbeats 8000000 in
set_option maxRecDepth 100000 in
theorem Made2_c (A1 : Option Addr) (c1 : Nat) (inn : List Int) (A2 : Option Addr) (c2 : Nat) (x y : Int) (g : Nat) (L : List Int) (w0 w : World) (hI : RowAt w0 w g L) (hB : Below w0.heap.size w0 w) (hL : L.length ≤ 4096) (hw : w0.heap.size ≤ w.heap.size) (hg : g < w.heap.size)
    (hr1 : Kd.C (Kd.int .i64) w A1 inn.length inn) (hc1 : inn.length ≤ c1) (hf1 : ∀ ad, A1 = some ad → 0 < inn.length → ad.block ≠ g ∧ ad.block < w.heap.size) (hr2 : Kd.C (Kd.int .i64) w A2 2 [x, y]) (hl1 : inn.length = 2) (hx : 1 ≤ x ∧ x ≤ 16) (hy : 1 ≤ y ∧ y ≤ 16) (hxy : x + y ≤ 16) :
    Calls Tryd.prog 36 #[.pointer (some ⟨g, 0, none⟩), .slice A1 inn.length c1, .slice A2 2 c2, .bool false] w fun e w' => ∃ n' s', e = .returned (n'.val s') ∧ Fine n' ∧ n'.At s' w' ∧ RowAt w0 w' g L ∧ Below w0.heap.size w0 w' ∧ KeepBut w w' g none ∧ (∀ k, Old w A1 inn.length k → Far n' s' k) := by
  have huN := Tryd.underlying29
  have HR1 := Aside0.mk hr1
  have HF1 := Aside0.mk hf1
  have HI := Aside0.mk hI
  have HB := Aside0.mk hB
  clear hr1 hf1 hI hB
  have HL1 := Aside0.mk hl1
  have hl1a : 1 < inn.length := by omega
  have hl1b : decide (1 < (inn.length : Int)) = true := decide_eq_true (by omega)
  clear hl1
  obtain ⟨ad, e0, hx0⟩ := Kd.at_int hr2 0 (by omega) (by decide)
  cases e0
  obtain ⟨ad1, e1, hx1⟩ := Kd.at_int hr2 1 (by omega) (by decide)
  cases e1
  rw [show ((0 : Int)).toNat = 0 from rfl, Addr.add_zero', show rd [x, y] 0 = x from rfl] at hx0
  rw [show ((1 : Int)).toNat = 1 from rfl, show rd [x, y] 1 = y from rfl] at hx1
  have HX0 := Aside0.mk hx0
  have HX1 := Aside0.mk hx1
  clear hx0 hx1 hr2
  go_enter Tryd.func36, Tryd.ntmps36
  go_upto_region 2 with (fail)
  obtain ⟨n0, hn0⟩ : ∃ n_ : Nd, n_ = { zN with inn := inn } := ⟨_, rfl⟩
  obtain ⟨s0, hs0⟩ : ∃ s_ : Ns, s_ = { zS with ia := A1, ic := c1 } := ⟨_, rfl⟩
  have hb0 : (Obj.cells #[.int .i64 0, .slice A1 inn.length c1, .int .i64 0, .int .i64 0, .int .i64 0, .int .i64 0, .int .i64 0, .int .i64 0, .slice none 0 0, .slice none 0 0, .int .i64 0, .int .i64 0, .int .i64 0, .int .i64 0, .int .i64 0] 29 (0, 0)) = n0.box s0 := by rw [hn0, hs0]; rfl
  rw [zbox, hb0]
  have MS : Aside0 (Mst (Old w A1 inn.length) w0 w ((w.alloc (zN.box zS)).alloc (n0.box s0)) g L (w.heap.size + 1) w.heap.size n0 s0) := by
    obtain ⟨a_, hI, ha⟩ := HI.out
    have hF : ∀ k, w.heap.size ≤ k ∨ k = g → Far n0 s0 k := fun k hk => by
      rw [hn0, hs0]
      exact ⟨fun ad e h0 => by have := HF1.out ad e h0; omega, fun ad e => (by cases e), fun ad e => (by cases e)⟩
    have hO : ∀ k, Old w A1 inn.length k → Far n0 s0 k := fun k hk => by
      rw [hn0, hs0]
      exact ⟨fun ad e h0 => hk.2 ad e h0, fun ad e => (by cases e), fun ad e => (by cases e)⟩
    refine ⟨⟨⟨a_, (hI.alloc _).alloc _, ha⟩, below_alloc (below_alloc HB.out _) _, keep_alloc (keep_alloc (KeepBut.refl w g none) _) _, ?_, ⟨zN.cells zS, blk_alloc (blk_new w _) _, rfl⟩, hg, Nat.le_succ _, Nat.le_refl _, Nat.succ_ne_self _, ?_, hF _ (.inr rfl), hF _ (.inl (Nat.le_succ _)), hF _ (.inl (Nat.le_refl _)), hO⟩⟩
    · have h := blk_new (w.alloc (zN.box zS)) (n0.box s0); rwa [size_alloc] at h
    · rw [hn0, hs0]
      exact ⟨Kd.C_alloc (Kd.C_alloc HR1.out _) _, hc1, Kd.C_nil _ _, Nat.le_refl _, Kd.C_nil _ _, Nat.le_refl _⟩
  have hb2 := below_alloc (below_alloc (Below.refl w.heap.size w) (zN.box zS)) (n0.box s0)
  have hx0 : ((w.alloc (zN.box zS)).alloc (n0.box s0)).cell? ad = some (.int .i64 x) := (hb2.cell (World.block_lt_of_cell? w _ HX0.out)).trans HX0.out
  have HB2 := Aside0.mk hb2
  have Hn0 := Aside0.mk hn0
  have Hs0 := Aside0.mk hs0
  clear hb0 hn0 hs0 hb2
  generalize (w.alloc (zN.box zS)).alloc (n0.box s0) = W0 at MS hx0 HB2 ⊢
  have hcz := bcs15 MS.out.box
  go_upto_region 5 with (fail)
  obtain ⟨n1, hn1⟩ : ∃ n_ : Nd, n_ = { n0 with k := 8 } := ⟨_, rfl⟩
  have MS' : Aside0 (Mst (Old w A1 inn.length) w0 w (W0.setCell ⟨w.heap.size + 1, 0, none⟩ (.int .i64 8)) g L (w.heap.size + 1) w.heap.size n1 s0) := by rw [hn1]; exact ⟨MS.out.num hw 0 _ _ rfl rfl rfl rfl⟩
  have HB3 : Aside0 (Below w.heap.size w (W0.setCell ⟨w.heap.size + 1, 0, none⟩ (.int .i64 8))) := ⟨below_set HB2.out (Nat.le_succ _)⟩
  have Hn1 := Aside0.mk hn1
  clear MS hcz hn1 HB2 hx0
  generalize W0.setCell ⟨w.heap.size + 1, 0, none⟩ (.int .i64 8) = W1 at MS' HB3 ⊢
  have MS := MS'
  clear MS'
  have hx0 : W1.cell? ad = some (.int .i64 x) := (HB3.out.cell (World.block_lt_of_cell? w _ HX0.out)).trans HX0.out
  have hx1 : W1.cell? (ad.add 1) = some (.int .i64 y) := (HB3.out.cell (World.block_lt_of_cell? w _ HX1.out)).trans HX1.out
  have hcz := bcs15 MS.out.box
  rw [Addr.add, if_neg (by decide)] at hx1
  by_cases h : y = x
  · subst h
    go_upto_region 8 with (fail)
    refine wp_loop_rounds 3 ?_
    rw [rounds_succ]
    go_upto_region 12 with (fail)
    rw [rounds_succ]
    go_upto_region 12 with (fail)
    rw [rounds_succ]
    go_upto_region 12 with (fail)
    have hs : ¬ (16 < y + y) := by omega
    have hsb : decide (16 < y + y) = false := decide_eq_false hs
    go_wp2_with (first | (go_at_call 60; refine (Next_c g L _ w0 _ MS.out.row MS.out.below hL (by omega) (by omega)).mono ?_; rintro e w2 ⟨r1, rfl, ha1, hb1, hI, hB', hK⟩; have MS' := Aside0.mk (MS.out.next hI hB' hK); clear MS hI hB' hK; have MS := MS'; clear MS'; (try clear hcz); have hcz := bcs15 MS.out.box; refine halt_ ?_))
    by_cases hr0 : r1 = 0
    · subst hr0
      unfold Halt
      go_upto_region 14 with (fail)
      obtain ⟨n2, hn2⟩ : ∃ n_ : Nd, n_ = { n1 with k := 7 } := ⟨_, rfl⟩
      have MS' : Aside0 (Mst (Old w A1 inn.length) w0 w (w2.setCell ⟨w.heap.size + 1, 0, none⟩ (.int .i64 7)) g L (w.heap.size + 1) w.heap.size n2 s0) := by rw [hn2]; exact ⟨MS.out.num hw 0 _ _ rfl rfl rfl rfl⟩
      have Hn2 := Aside0.mk hn2
      clear MS hcz hn2
      generalize w2.setCell ⟨w.heap.size + 1, 0, none⟩ (.int .i64 7) = W2 at MS' ⊢
      have MS := MS'
      clear MS'
      have hcz := bcs15 MS.out.box
      obtain ⟨cs, hr1, hr2⟩ := MS.out.res
      go_wp2_with (first | (refine wl_box (a1 := ?_) rfl rfl rfl MS.out.box ?_ ?_; rotate_left 1; (· simp only [Act.put, List.setIfInBounds_toArray, List.set_cons_zero, List.set_cons_succ, guarded_true, i64_w, i32_w]; with_reducible rfl)) | (refine wl_stbox (n := n2) (s := s0) (a1 := ?_) rfl rfl rfl rfl hr1 hr2 ?_ ?_; rotate_left 1; (· simp only [Act.put, List.setIfInBounds_toArray, List.set_cons_zero, List.set_cons_succ]; with_reducible rfl)))
      have hi : (Tryd.prog.info? 29).map (·.size) = some (n2.cells s0).size := (show (Tryd.prog.info? 29).map (·.size) = some 15 by kernel_rfl)
      (try simp only [Exit.inBlock, Exit.then])
      refine bodyPost_ret (results_cell_row rfl _ _ w.heap.size 29 (n2.cells s0) (0, 0) _ rfl (setRow_box hr1) huN rfl hi) rfl ?_
      refine ⟨n2, s0, rfl, ?_, MS.out.at_.keep (keepRow _ _ _) MS.out.fc, MS.out.row.row_ (by omega), below_setRow MS.out.below (by omega) _, setRow_keep MS.out.keep (Nat.le_refl _), MS.out.fo⟩
      have hil := HL1.out
      rw [Hn2.out, Hn1.out, Hn0.out]
      refine ⟨?_, ?_, ?_, ?_, ?_, ?_, ?_, ?_⟩
      · show 1 ≤ inn.length; omega
      · show inn.length ≤ 2; omega
      · exact Nat.zero_le _
      · exact Nat.zero_le _
      · show inB 7 1 12 = true; decide
      · rfl
      · intro h; exact absurd h (by show ¬ (rFour 7 = true); decide)
      · intro h; exact absurd h (by show ¬ ((7 : Int) = 12); decide)
    · have hrb : decide (r1 = 0) = false := decide_eq_false hr0
      unfold Halt
      go_upto_region 16 with (fail)
      obtain ⟨cs, hr1, hr2⟩ := MS.out.res
      go_wp2_with (first | (refine wl_box (a1 := ?_) rfl rfl rfl MS.out.box ?_ ?_; rotate_left 1; (· simp only [Act.put, List.setIfInBounds_toArray, List.set_cons_zero, List.set_cons_succ, guarded_true, i64_w, i32_w]; with_reducible rfl)) | (refine wl_stbox (n := n1) (s := s0) (a1 := ?_) rfl rfl rfl rfl hr1 hr2 ?_ ?_; rotate_left 1; (· simp only [Act.put, List.setIfInBounds_toArray, List.set_cons_zero, List.set_cons_succ]; with_reducible rfl)))
      have hi : (Tryd.prog.info? 29).map (·.size) = some (n1.cells s0).size := (show (Tryd.prog.info? 29).map (·.size) = some 15 by kernel_rfl)
      (try simp only [Exit.inBlock, Exit.then])
      refine bodyPost_ret (results_cell_row rfl _ _ w.heap.size 29 (n1.cells s0) (0, 0) _ rfl (setRow_box hr1) huN rfl hi) rfl ?_
      refine ⟨n1, s0, rfl, ?_, MS.out.at_.keep (keepRow _ _ _) MS.out.fc, MS.out.row.row_ (by omega), below_setRow MS.out.below (by omega) _, setRow_keep MS.out.keep (Nat.le_refl _), MS.out.fo⟩
      have hil := HL1.out
      rw [Hn1.out, Hn0.out]
      refine ⟨?_, ?_, ?_, ?_, ?_, ?_, ?_, ?_⟩
      · show 1 ≤ inn.length; omega
      · show inn.length ≤ 2; omega
      · exact Nat.zero_le _
      · exact Nat.zero_le _
      · show inB 8 1 12 = true; decide
      · rfl
      · intro h; exact absurd h (by show ¬ (rFour 8 = true); decide)
      · intro h; exact absurd h (by show ¬ ((8 : Int) = 12); decide)
  · have hb : decide (y = x) = false := decide_eq_false h
    go_upto_region 8 with (fail)
    refine wp_loop_rounds 3 ?_
    rw [rounds_succ]
    go_upto_region 12 with (fail)
    rw [rounds_succ]
    go_upto_region 12 with (fail)
    rw [rounds_succ]
    go_upto_region 16 with (fail)
    obtain ⟨cs, hr1, hr2⟩ := MS.out.res
    go_wp2_with (first | (refine wl_box (a1 := ?_) rfl rfl rfl MS.out.box ?_ ?_; rotate_left 1; (· simp only [Act.put, List.setIfInBounds_toArray, List.set_cons_zero, List.set_cons_succ, guarded_true, i64_w, i32_w]; with_reducible rfl)) | (refine wl_stbox (n := n1) (s := s0) (a1 := ?_) rfl rfl rfl rfl hr1 hr2 ?_ ?_; rotate_left 1; (· simp only [Act.put, List.setIfInBounds_toArray, List.set_cons_zero, List.set_cons_succ]; with_reducible rfl)))
    have hi : (Tryd.prog.info? 29).map (·.size) = some (n1.cells s0).size := (show (Tryd.prog.info? 29).map (·.size) = some 15 by kernel_rfl)
    (try simp only [Exit.inBlock, Exit.then])
    refine bodyPost_ret (results_cell_row rfl _ _ w.heap.size 29 (n1.cells s0) (0, 0) _ rfl (setRow_box hr1) huN rfl hi) rfl ?_
    refine ⟨n1, s0, rfl, ?_, MS.out.at_.keep (keepRow _ _ _) MS.out.fc, MS.out.row.row_ (by omega), below_setRow MS.out.below (by omega) _, setRow_keep MS.out.keep (Nat.le_refl _), MS.out.fo⟩
    have hil := HL1.out
    rw [Hn1.out, Hn0.out]
    refine ⟨?_, ?_, ?_, ?_, ?_, ?_, ?_, ?_⟩
    · show 1 ≤ inn.length; omega
    · show inn.length ≤ 2; omega
    · exact Nat.zero_le _
    · exact Nat.zero_le _
    · show inB 8 1 12 = true; decide
    · rfl
    · intro h; exact absurd h (by show ¬ (rFour 8 = true); decide)
    · intro h; exact absurd h (by show ¬ ((8 : Int) = 12); decide)
end Go.Proofs.YtohhaonjckfkaaaDoor.Hand
