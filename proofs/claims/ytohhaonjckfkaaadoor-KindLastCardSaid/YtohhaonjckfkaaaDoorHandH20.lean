/- Contracts of Go functions that the laws of this seat reach, by hand: each call returns what the Lean function of its name tells. Conditions: those that each theorem names, none else. -/
import Derived.Test.YtohhaonjckfkaaaDoorHandH18
namespace Go.Proofs.YtohhaonjckfkaaaDoor.Hand
open Go.RowKit Go.Proofs.YtohhaonjckfkaaaDoorW.PrintWords Go.Proofs.YtohhaonjckfkaaaDoorW.PrintLast Go.Proofs.YtohhaonjckfkaaaDoorW.PrintMore
attribute [local go_sem] max2_int min2_int max_two min_two max_three min_three max_four min_four
set_option linter.unusedVariables false
set_option linter.unusedSimpArgs false

attribute [local go_sem] guarded_true
set_option maxHeartbeats 8000000 in
set_option maxRecDepth 100000 in
theorem Made1_c (A1 : Option Addr) (c1 : Nat) (inn : List Int) (A2 : Option Addr) (c2 : Nat) (wl : List Int) (g : Nat) (L : List Int) (w0 w : World) (hI : RowAt w0 w g L) (hB : Below w0.heap.size w0 w) (hL : L.length ≤ 4096) (hw : w0.heap.size ≤ w.heap.size) (hg : g < w.heap.size)
    (hr1 : Kd.C (Kd.int .i64) w A1 inn.length inn) (hc1 : inn.length ≤ c1) (hf1 : ∀ ad, A1 = some ad → 0 < inn.length → ad.block ≠ g ∧ ad.block < w.heap.size) (hr2 : Kd.C (Kd.int .i64) w A2 wl.length wl) (hl1 : inn.length = 1) (hl2 : wl.length = 1) (hv : 1 ≤ rd wl 0 ∧ rd wl 0 ≤ 6) :
    Calls Tryd.prog 36 #[.pointer (some ⟨g, 0, none⟩), .slice A1 inn.length c1, .slice A2 wl.length c2, .bool false] w fun e w' => ∃ n' s', e = .returned (n'.val s') ∧ Fine n' ∧ n'.At s' w' ∧ RowAt w0 w' g L ∧ Below w0.heap.size w0 w' ∧ KeepBut w w' g none ∧ (∀ k, Old w A1 inn.length k → Far n' s' k) := by
  have huN := Tryd.underlying29
  have HR2 := Aside0.mk hr2
  have HR1 := Aside0.mk hr1
  have HF1 := Aside0.mk hf1
  have HI := Aside0.mk hI
  have HB := Aside0.mk hB
  clear hr1 hr2 hf1 hI hB
  have HL1 := Aside0.mk hl1
  have HL2 := Aside0.mk hl2
  have hl1a : ¬ (1 < inn.length) := by omega
  have hl1b : decide (1 < (inn.length : Int)) = false := decide_eq_false (by omega)
  have p0 : 0 ≤ (0 : Int) := by omega
  have q0 : 0 < (wl.length : Int) := by omega
  have qi0 : (0 < wl.length) = True := eq_true (by omega)
  clear hl1 hl2
  obtain ⟨ad, e0, hx0⟩ := Kd.at_int HR2.out 0 p0 q0
  cases e0
  rw [show ((0 : Int)).toNat = 0 from rfl, Addr.add_zero'] at hx0
  have HX0 := Aside0.mk hx0
  clear hx0
  go_enter Tryd.func36, Tryd.ntmps36
  go_upto_region 2 with (fail)
  obtain ⟨n0, hn0⟩ : ∃ n_ : Nd, n_ = { zN with inn := inn } := ⟨_, rfl⟩
  obtain ⟨s0, hs0⟩ : ∃ s_ : Ns, s_ = { zS with ia := A1, ic := c1 } := ⟨_, rfl⟩
  have hb0 : (Obj.cells #[.int .i64 0, .slice A1 inn.length c1, .int .i64 0, .int .i64 0, .int .i64 0, .int .i64 0, .int .i64 0, .int .i64 0, .slice none 0 0, .slice none 0 0, .int .i64 0, .int .i64 0, .int .i64 0, .int .i64 0, .int .i64 0] 29 (0, 0)) = n0.box s0 := by rw [hn0, hs0]; rfl
  rw [zbox, hb0]
  have MS : Aside0 (Mst (Old w A1 inn.length) w0 w ((w.alloc (zN.box zS)).alloc (n0.box s0)) g L (w.heap.size + 1) w.heap.size n0 s0) := by
    obtain ⟨a_, hI, ha⟩ := HI.out
    have hF : ∀ k, w.heap.size ≤ k ∨ k = g → Far n0 s0 k := fun k hk => by
      rw [hn0, hs0]
      exact ⟨fun ad e h0 => by have := HF1.out ad e h0; omega, fun ad e => (by cases e), fun ad e => (by cases e)⟩
    have hO : ∀ k, Old w A1 inn.length k → Far n0 s0 k := fun k hk => by
      rw [hn0, hs0]
      exact ⟨fun ad e h0 => hk.2 ad e h0, fun ad e => (by cases e), fun ad e => (by cases e)⟩
    refine ⟨⟨⟨a_, (hI.alloc _).alloc _, ha⟩, below_alloc (below_alloc HB.out _) _, keep_alloc (keep_alloc (KeepBut.refl w g none) _) _, ?_, ⟨zN.cells zS, blk_alloc (blk_new w _) _, rfl⟩, hg, Nat.le_succ _, Nat.le_refl _, Nat.succ_ne_self _, ?_, hF _ (.inr rfl), hF _ (.inl (Nat.le_succ _)), hF _ (.inl (Nat.le_refl _)), hO⟩⟩
    · have h := blk_new (w.alloc (zN.box zS)) (n0.box s0); rwa [size_alloc] at h
    · rw [hn0, hs0]
      exact ⟨Kd.C_alloc (Kd.C_alloc HR1.out _) _, hc1, Kd.C_nil _ _, Nat.le_refl _, Kd.C_nil _ _, Nat.le_refl _⟩
  have hx0 : ((w.alloc (zN.box zS)).alloc (n0.box s0)).cell? ad = some (.int .i64 (rd wl 0)) := by
    have hb := below_alloc (below_alloc (Below.refl w.heap.size w) (zN.box zS)) (n0.box s0)
    exact (hb.cell (World.block_lt_of_cell? w _ HX0.out)).trans HX0.out
  have Hn0 := Aside0.mk hn0
  have Hs0 := Aside0.mk hs0
  clear hb0 hn0 hs0
  replace p0 := eq_true p0
  replace q0 := eq_true q0
  generalize (w.alloc (zN.box zS)).alloc (n0.box s0) = W0 at MS hx0 ⊢
  go_upto_region 19 with (fail)
  have hW0 : w.heap.size + 1 < W0.heap.size := blk_lt MS.out.box
  have MS' := Aside0.mk (MS.out.bel (below_alloc (Below.refl W0.heap.size W0) (.cells kinds12 94)))
  have KD : Aside0 ((W0.alloc (.cells kinds12 94)).heap[W0.heap.size]? = some (.cells kinds12 94 (0, 0))) := ⟨blk_new W0 _⟩
  clear MS hx0
  generalize W0.alloc (.cells kinds12 94) = W1 at MS' KD ⊢
  generalize W0.heap.size = d at KD hW0 ⊢
  have MS := MS'
  clear MS'
  have hil := HL1.out
  have HIL := Aside0.mk hil
  clear hil
  go_upto_region 22 with (first | (go_at_call 60; refine (Next_c g L _ w0 _ MS.out.row MS.out.below hL (by omega) (by omega)).mono ?_; rintro e w2 ⟨r1, rfl, ha1, hb1, hI, hB', hK⟩; have MS' := Aside0.mk (MS.out.next hI hB' hK); have KD' := Aside0.mk ((hK.2 _ (blk_lt KD.out) (by omega) (by simp)).trans KD.out); clear MS KD hI hB' hK; have MS := MS'; have KD := KD'; clear MS' KD'; (try clear hcz); have hcz := bcs15 MS.out.box; (try clear hcd); have hcd := bcs12 KD.out))
  have hr : r1 = 0 ∨ r1 = 1 ∨ r1 = 2 ∨ r1 = 3 ∨ r1 = 4 ∨ r1 = 5 ∨ r1 = 6 ∨ r1 = 7 ∨ r1 = 8 ∨ r1 = 9 ∨ r1 = 10 ∨ r1 = 11 := by omega
  clear ha1 hb1
  rcases hr with rfl | rfl | rfl | rfl | rfl | rfl | rfl | rfl | rfl | rfl | rfl | rfl
  · go_upto_region 23 with (fail)
    obtain ⟨n1, hn1⟩ : ∃ n_ : Nd, n_ = { n0 with k := 1 } := ⟨_, rfl⟩
    have MS' : Aside0 (Mst (Old w A1 inn.length) w0 w (w2.setCell ⟨w.heap.size + 1, 0, none⟩ (.int .i64 (1))) g L (w.heap.size + 1) w.heap.size n1 s0) := by rw [hn1]; exact ⟨MS.out.num hw 0 _ _ rfl rfl rfl rfl⟩
    have KD' : Aside0 ((w2.setCell ⟨w.heap.size + 1, 0, none⟩ (.int .i64 (1))).heap[d]? = some (.cells kinds12 94 (0, 0))) := ⟨blk_far KD.out (p := ⟨w.heap.size + 1, 0, none⟩) (by show d ≠ w.heap.size + 1; omega) _⟩
    have Hn1 := Aside0.mk hn1
    clear MS KD hcz hcd hn1
    generalize w2.setCell ⟨w.heap.size + 1, 0, none⟩ (.int .i64 (1)) = W0 at MS' KD' ⊢
    have MS := MS'
    have KD := KD'
    clear MS' KD'
    have hcz := bcs15 MS.out.box
    have hcd := bcs12 KD.out
    have hk1 : n1.k = 1 := by rw [Hn1.out]
    have hfour : rFour n1.k = true := by rw [hk1]; decide
    go_upto_region 26 with (first | (refine wl_box (a1 := ?_) rfl rfl rfl MS.out.box ?_ ?_; rotate_left 1; (· simp only [Act.put, List.setIfInBounds_toArray, List.set_cons_zero, List.set_cons_succ, guarded_true, i64_w, i32_w]; with_reducible rfl)) | (go_at_call 61; refine (window_c n1 s0 g L w0 _ MS.out.row MS.out.below hL (Nat.le_trans hw MS.out.keep.1) (Nat.lt_of_lt_of_le hg MS.out.keep.1) hfour).mono ?_; rintro e w2 ⟨n2, rfl, hwin, hI, hB', hK⟩; have MS' := Aside0.mk (MS.out.next hI hB' hK); have KD' := Aside0.mk ((hK.2 _ (blk_lt KD.out) (by omega) (by simp)).trans KD.out); clear MS KD hI hB' hK; have MS := MS'; have KD := KD'; clear MS' KD'; have HW := Aside0.mk hwin; clear hwin) | (refine wl_stbox (n := n2) (s := s0) (a1 := ?_) rfl rfl rfl rfl MS.out.box rfl ?_ ?_; rotate_left 1; (· simp only [Act.put, List.setIfInBounds_toArray, List.set_cons_zero, List.set_cons_succ]; with_reducible rfl)))
    have hrows : n2.inn = n1.inn ∧ n2.ws = n1.ws ∧ n2.bs = n1.bs ∧ n2.k = n1.k ∧ n2.post = n1.post := by obtain ⟨_, _, _, _, _, e, _⟩ := HW.out; rw [e]; exact ⟨rfl, rfl, rfl, rfl, rfl⟩
    obtain ⟨e1, e2, e3, e4, e5⟩ := hrows
    have MS' : Aside0 (Mst (Old w A1 inn.length) w0 w (w2.setRow (w.heap.size + 1) (n2.cells s0)) g L (w.heap.size + 1) w.heap.size n2 s0) :=
      ⟨MS.out.whole hw n2 s0 ⟨e1 ▸ MS.out.at_.hi, e1 ▸ MS.out.at_.ic, e2 ▸ MS.out.at_.hw, e2 ▸ MS.out.at_.wc, e3 ▸ MS.out.at_.hb, e3 ▸ MS.out.at_.bc⟩ ⟨e1 ▸ MS.out.fg.i, e2 ▸ MS.out.fg.w, e3 ▸ MS.out.fg.b⟩ ⟨e1 ▸ MS.out.fb.i, e2 ▸ MS.out.fb.w, e3 ▸ MS.out.fb.b⟩ ⟨e1 ▸ MS.out.fc.i, e2 ▸ MS.out.fc.w, e3 ▸ MS.out.fc.b⟩ (fun k hk => ⟨e1 ▸ (MS.out.fo k hk).i, e2 ▸ (MS.out.fo k hk).w, e3 ▸ (MS.out.fo k hk).b⟩)⟩
    have KD' : Aside0 ((w2.setRow (w.heap.size + 1) (n2.cells s0)).heap[d]? = some (.cells kinds12 94 (0, 0))) := ⟨setRow_far KD.out (by omega)⟩
    have E_n2 := Aside0.mk (And.intro e1 (And.intro e2 (And.intro e3 (And.intro e4 e5))))
    clear MS KD e1 e2 e3 e4 e5
    (try clear hcz hcd)
    generalize w2.setRow (w.heap.size + 1) (n2.cells s0) = W0 at MS' KD' ⊢
    have MS := MS'
    have KD := KD'
    clear MS' KD'
    have hcz := bcs15 MS.out.box
    have hcd := bcs12 KD.out
    have hsz : 1 ≤ n2.size ∧ n2.size ≤ 4 := by obtain ⟨a, b, c, d, e, h, h1, h2, _⟩ := HW.out; rw [h]; exact ⟨h1, h2⟩
    go_upto_region 27 with (first | (go_at_call 60; refine (Next_c g L _ w0 _ MS.out.row MS.out.below hL (by omega) (by omega)).mono ?_; rintro e w2 ⟨r3, rfl, ha3, hb3, hI, hB', hK⟩; have MS' := Aside0.mk (MS.out.next hI hB' hK); have KD' := Aside0.mk ((hK.2 _ (blk_lt KD.out) (by omega) (by simp)).trans KD.out); clear MS KD hI hB' hK; have MS := MS'; have KD := KD'; clear MS' KD'; (try clear hcz); have hcz := bcs15 MS.out.box; (try clear hcd); have hcd := bcs12 KD.out))
    obtain ⟨n3, hn3⟩ : ∃ n_ : Nd, n_ = { n2 with wid := 1 + r3 } := ⟨_, rfl⟩
    have MS' : Aside0 (Mst (Old w A1 inn.length) w0 w (w2.setCell ⟨w.heap.size + 1, 2, none⟩ (.int .i64 (1 + r3))) g L (w.heap.size + 1) w.heap.size n3 s0) := by rw [hn3]; exact ⟨MS.out.num hw 2 _ _ rfl rfl rfl rfl⟩
    have KD' : Aside0 ((w2.setCell ⟨w.heap.size + 1, 2, none⟩ (.int .i64 (1 + r3))).heap[d]? = some (.cells kinds12 94 (0, 0))) := ⟨blk_far KD.out (p := ⟨w.heap.size + 1, 2, none⟩) (by show d ≠ w.heap.size + 1; omega) _⟩
    have Hn3 := Aside0.mk hn3
    clear MS KD hcz hcd hn3
    generalize w2.setCell ⟨w.heap.size + 1, 2, none⟩ (.int .i64 (1 + r3)) = W0 at MS' KD' ⊢
    have MS := MS'
    have KD := KD'
    clear MS' KD'
    have hcz := bcs15 MS.out.box
    have hcd := bcs12 KD.out
    have hwd : 1 ≤ n3.wid ∧ n3.wid ≤ 3 := by rw [Hn3.out]; exact ⟨by show 1 ≤ 1 + r3; omega, by show 1 + r3 ≤ 3; omega⟩
    have hsz3 : 1 ≤ n3.size ∧ n3.size ≤ 4 := by rw [Hn3.out]; exact hsz
    have hm1 := mul_le n3.wid 3 n3.size 4 (by omega) hwd.2 (by omega) hsz3.2
    have hm2 := mul_le (n3.wid * n3.size) 12 (rd wl 0) 6 hm1.1 (by omega) (by omega) hv.2
    go_upto_region 28 with (first | (go_at_call 62; refine (row_c g L _ _ _ w0 _ MS.out.row MS.out.below hL (by omega) (by omega) (by omega) (by omega) (by omega)).mono ?_; rintro e w2 ⟨v, x4, rfl, hR, hx4, _, hI, hB', hK⟩; obtain ⟨A4, c4, rfl, hcc4, hC, hfar⟩ := rowfar hR; have hlt := blk_lt MS.out.box; have HC4 := Aside0.mk hC; have HF4 : Aside0 (∀ ad, A4 = some ad → 0 < x4.length → w.heap.size + 1 < ad.block) := ⟨fun ad e h => Nat.lt_of_lt_of_le hlt (hfar ad e h)⟩; clear hR hC hfar hlt; have MS' := Aside0.mk (MS.out.next hI hB' hK); have KD' := Aside0.mk ((hK.2 _ (blk_lt KD.out) (by omega) (by simp)).trans KD.out); clear MS KD hI hB' hK; have MS := MS'; have KD := KD'; clear MS' KD'; (try clear hcz); have hcz := bcs15 MS.out.box; (try clear hcd); have hcd := bcs12 KD.out))
    obtain ⟨n4, hn4⟩ : ∃ n_ : Nd, n_ = { n3 with ws := x4 } := ⟨_, rfl⟩
    obtain ⟨s1, hs1⟩ : ∃ s_ : Ns, s_ = { s0 with wa := A4, wc := c4 } := ⟨_, rfl⟩
    have MS' : Aside0 (Mst (Old w A1 inn.length) w0 w (w2.setCell ⟨w.heap.size + 1, 8, none⟩ (.slice A4 x4.length c4)) g L (w.heap.size + 1) w.heap.size n4 s1) := by
      rw [hn4, hs1]
      exact ⟨MS.out.put hw 8 _ _ _ rfl ⟨MS.out.at_.hi, MS.out.at_.ic, HC4.out, hcc4, MS.out.at_.hb, MS.out.at_.bc⟩ ⟨MS.out.fg.i, fun ad e h => by have := HF4.out ad e h; omega, MS.out.fg.b⟩ ⟨MS.out.fb.i, fun ad e h => by have := HF4.out ad e h; omega, MS.out.fb.b⟩ ⟨MS.out.fc.i, fun ad e h => by have := HF4.out ad e h; omega, MS.out.fc.b⟩ (fun k hk => ⟨(MS.out.fo k hk).i, fun ad e h => by have h1 := HF4.out ad e h; have h2 := hk.1; omega, (MS.out.fo k hk).b⟩)⟩
    have KD' : Aside0 ((w2.setCell ⟨w.heap.size + 1, 8, none⟩ (.slice A4 x4.length c4)).heap[d]? = some (.cells kinds12 94 (0, 0))) := ⟨blk_far KD.out (p := ⟨w.heap.size + 1, 8, none⟩) (by show d ≠ w.heap.size + 1; omega) _⟩
    have Hn4 := Aside0.mk hn4
    have Hs1 := Aside0.mk hs1
    have HX4 := Aside0.mk hx4
    clear MS KD hcz hcd hn4 hs1 hx4
    generalize w2.setCell ⟨w.heap.size + 1, 8, none⟩ (.slice A4 x4.length c4) = W0 at MS' KD' ⊢
    have MS := MS'
    have KD := KD'
    clear MS' KD'
    have hcz := bcs15 MS.out.box
    have hcd := bcs12 KD.out
    have hwd4 : 1 ≤ n4.wid ∧ n4.wid ≤ 3 := by rw [Hn4.out]; exact hwd
    go_upto_region 48 with (first | (go_at_call 62; refine (row_c g L _ _ _ w0 _ MS.out.row MS.out.below hL (by omega) (by omega) (by omega) (by omega) (by omega)).mono ?_; rintro e w2 ⟨v, x5, rfl, hR, hx5, _, hI, hB', hK⟩; obtain ⟨A5, c5, rfl, hcc5, hC, hfar⟩ := rowfar hR; have hlt := blk_lt MS.out.box; have HC5 := Aside0.mk hC; have HF5 : Aside0 (∀ ad, A5 = some ad → 0 < x5.length → w.heap.size + 1 < ad.block) := ⟨fun ad e h => Nat.lt_of_lt_of_le hlt (hfar ad e h)⟩; clear hR hC hfar hlt; have MS' := Aside0.mk (MS.out.next hI hB' hK); have KD' := Aside0.mk ((hK.2 _ (blk_lt KD.out) (by omega) (by simp)).trans KD.out); clear MS KD hI hB' hK; have MS := MS'; have KD := KD'; clear MS' KD'; (try clear hcz); have hcz := bcs15 MS.out.box; (try clear hcd); have hcd := bcs12 KD.out))
    obtain ⟨n5, hn5⟩ : ∃ n_ : Nd, n_ = { n4 with bs := x5 } := ⟨_, rfl⟩
    obtain ⟨s2, hs2⟩ : ∃ s_ : Ns, s_ = { s1 with ba := A5, bc := c5 } := ⟨_, rfl⟩
    have MS' : Aside0 (Mst (Old w A1 inn.length) w0 w (w2.setCell ⟨w.heap.size + 1, 9, none⟩ (.slice A5 x5.length c5)) g L (w.heap.size + 1) w.heap.size n5 s2) := by
      rw [hn5, hs2]
      exact ⟨MS.out.put hw 9 _ _ _ rfl ⟨MS.out.at_.hi, MS.out.at_.ic, MS.out.at_.hw, MS.out.at_.wc, HC5.out, hcc5⟩ ⟨MS.out.fg.i, MS.out.fg.w, fun ad e h => by have := HF5.out ad e h; omega⟩ ⟨MS.out.fb.i, MS.out.fb.w, fun ad e h => by have := HF5.out ad e h; omega⟩ ⟨MS.out.fc.i, MS.out.fc.w, fun ad e h => by have := HF5.out ad e h; omega⟩ (fun k hk => ⟨(MS.out.fo k hk).i, (MS.out.fo k hk).w, fun ad e h => by have h1 := HF5.out ad e h; have h2 := hk.1; omega⟩)⟩
    have KD' : Aside0 ((w2.setCell ⟨w.heap.size + 1, 9, none⟩ (.slice A5 x5.length c5)).heap[d]? = some (.cells kinds12 94 (0, 0))) := ⟨blk_far KD.out (p := ⟨w.heap.size + 1, 9, none⟩) (by show d ≠ w.heap.size + 1; omega) _⟩
    have Hn5 := Aside0.mk hn5
    have Hs2 := Aside0.mk hs2
    have HX5 := Aside0.mk hx5
    clear MS KD hcz hcd hn5 hs2 hx5
    generalize w2.setCell ⟨w.heap.size + 1, 9, none⟩ (.slice A5 x5.length c5) = W0 at MS' KD' ⊢
    have MS := MS'
    have KD := KD'
    clear MS' KD'
    have hcz := bcs15 MS.out.box
    have hcd := bcs12 KD.out
    obtain ⟨cs, hr1, hr2⟩ := MS.out.res
    go_wp2_with (first | (refine wl_box (a1 := ?_) rfl rfl rfl MS.out.box ?_ ?_; rotate_left 1; (· simp only [Act.put, List.setIfInBounds_toArray, List.set_cons_zero, List.set_cons_succ, guarded_true, i64_w, i32_w]; with_reducible rfl)) | (refine wl_stbox (n := n5) (s := s2) (a1 := ?_) rfl rfl rfl rfl hr1 hr2 ?_ ?_; rotate_left 1; (· simp only [Act.put, List.setIfInBounds_toArray, List.set_cons_zero, List.set_cons_succ]; with_reducible rfl)))
    have hi : (Tryd.prog.info? 29).map (·.size) = some (n5.cells s2).size := (show (Tryd.prog.info? 29).map (·.size) = some 15 by kernel_rfl)
    (try simp only [Exit.inBlock, Exit.then])
    refine bodyPost_ret (results_cell_row rfl _ _ w.heap.size 29 (n5.cells s2) (0, 0) _ rfl (setRow_box hr1) huN rfl hi) rfl ?_
    refine ⟨n5, s2, rfl, ?_, MS.out.at_.keep (keepRow _ _ _) MS.out.fc, MS.out.row.row_ (by omega), below_setRow MS.out.below (by omega) _, setRow_keep MS.out.keep (Nat.le_refl _), MS.out.fo⟩
    have hil := HIL.out
    have hx3 := HX4.out
    have hx4 := HX5.out
    have hw2 := HW.out
    obtain ⟨e1, e2, e3, e4, e5⟩ := E_n2.out
    refine ⟨?_, ?_, ?_, ?_, ?_, ?_, fun _ => ⟨n5, hw2.same ?_ ?_ ?_ ?_ ?_⟩, fun h => ?_⟩
    · rw [Hn5.out, Hn4.out, Hn3.out]; show 1 ≤ n2.inn.length; rw [e1, Hn1.out, Hn0.out]; show 1 ≤ inn.length; omega
    · rw [Hn5.out, Hn4.out, Hn3.out]; show n2.inn.length ≤ 2; rw [e1, Hn1.out, Hn0.out]; show inn.length ≤ 2; omega
    · rw [Hn5.out, Hn4.out, Hn3.out]; show x4.length ≤ 4000; omega
    · rw [Hn5.out, Hn4.out, Hn3.out]; show x5.length ≤ 4000; omega
    · rw [Hn5.out, Hn4.out, Hn3.out]; show inB n2.k 1 12 = true; rw [e4, hk1]; decide
    · rw [Hn5.out, Hn4.out, Hn3.out]; show n2.post = 0; rw [e5, Hn1.out, Hn0.out]
    · rw [Hn5.out, Hn4.out, Hn3.out]
    · rw [Hn5.out, Hn4.out, Hn3.out]
    · rw [Hn5.out, Hn4.out, Hn3.out]
    · rw [Hn5.out, Hn4.out, Hn3.out]
    · rw [Hn5.out, Hn4.out, Hn3.out]
    · rw [Hn5.out, Hn4.out, Hn3.out] at h; replace h : n2.k = 12 := h; rw [e4, hk1] at h; exact absurd h (by decide)
  · go_upto_region 23 with (fail)
    obtain ⟨n1, hn1⟩ : ∃ n_ : Nd, n_ = { n0 with k := 2 } := ⟨_, rfl⟩
    have MS' : Aside0 (Mst (Old w A1 inn.length) w0 w (w2.setCell ⟨w.heap.size + 1, 0, none⟩ (.int .i64 (2))) g L (w.heap.size + 1) w.heap.size n1 s0) := by rw [hn1]; exact ⟨MS.out.num hw 0 _ _ rfl rfl rfl rfl⟩
    have KD' : Aside0 ((w2.setCell ⟨w.heap.size + 1, 0, none⟩ (.int .i64 (2))).heap[d]? = some (.cells kinds12 94 (0, 0))) := ⟨blk_far KD.out (p := ⟨w.heap.size + 1, 0, none⟩) (by show d ≠ w.heap.size + 1; omega) _⟩
    have Hn1 := Aside0.mk hn1
    clear MS KD hcz hcd hn1
    generalize w2.setCell ⟨w.heap.size + 1, 0, none⟩ (.int .i64 (2)) = W0 at MS' KD' ⊢
    have MS := MS'
    have KD := KD'
    clear MS' KD'
    have hcz := bcs15 MS.out.box
    have hcd := bcs12 KD.out
    have hk1 : n1.k = 2 := by rw [Hn1.out]
    have hfour : rFour n1.k = true := by rw [hk1]; decide
    go_upto_region 31 with (first | (refine wl_box (a1 := ?_) rfl rfl rfl MS.out.box ?_ ?_; rotate_left 1; (· simp only [Act.put, List.setIfInBounds_toArray, List.set_cons_zero, List.set_cons_succ, guarded_true, i64_w, i32_w]; with_reducible rfl)) | (go_at_call 61; refine (window_c n1 s0 g L w0 _ MS.out.row MS.out.below hL (Nat.le_trans hw MS.out.keep.1) (Nat.lt_of_lt_of_le hg MS.out.keep.1) hfour).mono ?_; rintro e w2 ⟨n2, rfl, hwin, hI, hB', hK⟩; have MS' := Aside0.mk (MS.out.next hI hB' hK); have KD' := Aside0.mk ((hK.2 _ (blk_lt KD.out) (by omega) (by simp)).trans KD.out); clear MS KD hI hB' hK; have MS := MS'; have KD := KD'; clear MS' KD'; have HW := Aside0.mk hwin; clear hwin) | (refine wl_stbox (n := n2) (s := s0) (a1 := ?_) rfl rfl rfl rfl MS.out.box rfl ?_ ?_; rotate_left 1; (· simp only [Act.put, List.setIfInBounds_toArray, List.set_cons_zero, List.set_cons_succ]; with_reducible rfl)))
    have hrows : n2.inn = n1.inn ∧ n2.ws = n1.ws ∧ n2.bs = n1.bs ∧ n2.k = n1.k ∧ n2.post = n1.post := by obtain ⟨_, _, _, _, _, e, _⟩ := HW.out; rw [e]; exact ⟨rfl, rfl, rfl, rfl, rfl⟩
    obtain ⟨e1, e2, e3, e4, e5⟩ := hrows
    have MS' : Aside0 (Mst (Old w A1 inn.length) w0 w (w2.setRow (w.heap.size + 1) (n2.cells s0)) g L (w.heap.size + 1) w.heap.size n2 s0) :=
      ⟨MS.out.whole hw n2 s0 ⟨e1 ▸ MS.out.at_.hi, e1 ▸ MS.out.at_.ic, e2 ▸ MS.out.at_.hw, e2 ▸ MS.out.at_.wc, e3 ▸ MS.out.at_.hb, e3 ▸ MS.out.at_.bc⟩ ⟨e1 ▸ MS.out.fg.i, e2 ▸ MS.out.fg.w, e3 ▸ MS.out.fg.b⟩ ⟨e1 ▸ MS.out.fb.i, e2 ▸ MS.out.fb.w, e3 ▸ MS.out.fb.b⟩ ⟨e1 ▸ MS.out.fc.i, e2 ▸ MS.out.fc.w, e3 ▸ MS.out.fc.b⟩ (fun k hk => ⟨e1 ▸ (MS.out.fo k hk).i, e2 ▸ (MS.out.fo k hk).w, e3 ▸ (MS.out.fo k hk).b⟩)⟩
    have KD' : Aside0 ((w2.setRow (w.heap.size + 1) (n2.cells s0)).heap[d]? = some (.cells kinds12 94 (0, 0))) := ⟨setRow_far KD.out (by omega)⟩
    have E_n2 := Aside0.mk (And.intro e1 (And.intro e2 (And.intro e3 (And.intro e4 e5))))
    clear MS KD e1 e2 e3 e4 e5
    (try clear hcz hcd)
    generalize w2.setRow (w.heap.size + 1) (n2.cells s0) = W0 at MS' KD' ⊢
    have MS := MS'
    have KD := KD'
    clear MS' KD'
    have hcz := bcs15 MS.out.box
    have hcd := bcs12 KD.out
    have hsz : 1 ≤ n2.size ∧ n2.size ≤ 4 := by obtain ⟨a, b, c, d, e, h, h1, h2, _⟩ := HW.out; rw [h]; exact ⟨h1, h2⟩
    have hm1 := mul_le n2.size 4 (rd wl 0) 6 (by omega) hsz.2 (by omega) hv.2
    go_upto_region 32 with (first | (go_at_call 62; refine (row_c g L _ _ _ w0 _ MS.out.row MS.out.below hL (by omega) (by omega) (by omega) (by omega) (by omega)).mono ?_; rintro e w2 ⟨v, x4, rfl, hR, hx4, _, hI, hB', hK⟩; obtain ⟨A4, c4, rfl, hcc4, hC, hfar⟩ := rowfar hR; have hlt := blk_lt MS.out.box; have HC4 := Aside0.mk hC; have HF4 : Aside0 (∀ ad, A4 = some ad → 0 < x4.length → w.heap.size + 1 < ad.block) := ⟨fun ad e h => Nat.lt_of_lt_of_le hlt (hfar ad e h)⟩; clear hR hC hfar hlt; have MS' := Aside0.mk (MS.out.next hI hB' hK); have KD' := Aside0.mk ((hK.2 _ (blk_lt KD.out) (by omega) (by simp)).trans KD.out); clear MS KD hI hB' hK; have MS := MS'; have KD := KD'; clear MS' KD'; (try clear hcz); have hcz := bcs15 MS.out.box; (try clear hcd); have hcd := bcs12 KD.out))
    obtain ⟨n4, hn4⟩ : ∃ n_ : Nd, n_ = { n2 with ws := x4 } := ⟨_, rfl⟩
    obtain ⟨s1, hs1⟩ : ∃ s_ : Ns, s_ = { s0 with wa := A4, wc := c4 } := ⟨_, rfl⟩
    have MS' : Aside0 (Mst (Old w A1 inn.length) w0 w (w2.setCell ⟨w.heap.size + 1, 8, none⟩ (.slice A4 x4.length c4)) g L (w.heap.size + 1) w.heap.size n4 s1) := by
      rw [hn4, hs1]
      exact ⟨MS.out.put hw 8 _ _ _ rfl ⟨MS.out.at_.hi, MS.out.at_.ic, HC4.out, hcc4, MS.out.at_.hb, MS.out.at_.bc⟩ ⟨MS.out.fg.i, fun ad e h => by have := HF4.out ad e h; omega, MS.out.fg.b⟩ ⟨MS.out.fb.i, fun ad e h => by have := HF4.out ad e h; omega, MS.out.fb.b⟩ ⟨MS.out.fc.i, fun ad e h => by have := HF4.out ad e h; omega, MS.out.fc.b⟩ (fun k hk => ⟨(MS.out.fo k hk).i, fun ad e h => by have h1 := HF4.out ad e h; have h2 := hk.1; omega, (MS.out.fo k hk).b⟩)⟩
    have KD' : Aside0 ((w2.setCell ⟨w.heap.size + 1, 8, none⟩ (.slice A4 x4.length c4)).heap[d]? = some (.cells kinds12 94 (0, 0))) := ⟨blk_far KD.out (p := ⟨w.heap.size + 1, 8, none⟩) (by show d ≠ w.heap.size + 1; omega) _⟩
    have Hn4 := Aside0.mk hn4
    have Hs1 := Aside0.mk hs1
    have HX4 := Aside0.mk hx4
    clear MS KD hcz hcd hn4 hs1 hx4
    generalize w2.setCell ⟨w.heap.size + 1, 8, none⟩ (.slice A4 x4.length c4) = W0 at MS' KD' ⊢
    have MS := MS'
    have KD := KD'
    clear MS' KD'
    have hcz := bcs15 MS.out.box
    have hcd := bcs12 KD.out
    go_upto_region 48 with (first | (go_at_call 62; refine (row_c g L _ _ _ w0 _ MS.out.row MS.out.below hL (by omega) (by omega) (by omega) (by omega) (by omega)).mono ?_; rintro e w2 ⟨v, x5, rfl, hR, hx5, _, hI, hB', hK⟩; obtain ⟨A5, c5, rfl, hcc5, hC, hfar⟩ := rowfar hR; have hlt := blk_lt MS.out.box; have HC5 := Aside0.mk hC; have HF5 : Aside0 (∀ ad, A5 = some ad → 0 < x5.length → w.heap.size + 1 < ad.block) := ⟨fun ad e h => Nat.lt_of_lt_of_le hlt (hfar ad e h)⟩; clear hR hC hfar hlt; have MS' := Aside0.mk (MS.out.next hI hB' hK); have KD' := Aside0.mk ((hK.2 _ (blk_lt KD.out) (by omega) (by simp)).trans KD.out); clear MS KD hI hB' hK; have MS := MS'; have KD := KD'; clear MS' KD'; (try clear hcz); have hcz := bcs15 MS.out.box; (try clear hcd); have hcd := bcs12 KD.out))
    obtain ⟨n5, hn5⟩ : ∃ n_ : Nd, n_ = { n4 with bs := x5 } := ⟨_, rfl⟩
    obtain ⟨s2, hs2⟩ : ∃ s_ : Ns, s_ = { s1 with ba := A5, bc := c5 } := ⟨_, rfl⟩
    have MS' : Aside0 (Mst (Old w A1 inn.length) w0 w (w2.setCell ⟨w.heap.size + 1, 9, none⟩ (.slice A5 x5.length c5)) g L (w.heap.size + 1) w.heap.size n5 s2) := by
      rw [hn5, hs2]
      exact ⟨MS.out.put hw 9 _ _ _ rfl ⟨MS.out.at_.hi, MS.out.at_.ic, MS.out.at_.hw, MS.out.at_.wc, HC5.out, hcc5⟩ ⟨MS.out.fg.i, MS.out.fg.w, fun ad e h => by have := HF5.out ad e h; omega⟩ ⟨MS.out.fb.i, MS.out.fb.w, fun ad e h => by have := HF5.out ad e h; omega⟩ ⟨MS.out.fc.i, MS.out.fc.w, fun ad e h => by have := HF5.out ad e h; omega⟩ (fun k hk => ⟨(MS.out.fo k hk).i, (MS.out.fo k hk).w, fun ad e h => by have h1 := HF5.out ad e h; have h2 := hk.1; omega⟩)⟩
    have KD' : Aside0 ((w2.setCell ⟨w.heap.size + 1, 9, none⟩ (.slice A5 x5.length c5)).heap[d]? = some (.cells kinds12 94 (0, 0))) := ⟨blk_far KD.out (p := ⟨w.heap.size + 1, 9, none⟩) (by show d ≠ w.heap.size + 1; omega) _⟩
    have Hn5 := Aside0.mk hn5
    have Hs2 := Aside0.mk hs2
    have HX5 := Aside0.mk hx5
    clear MS KD hcz hcd hn5 hs2 hx5
    generalize w2.setCell ⟨w.heap.size + 1, 9, none⟩ (.slice A5 x5.length c5) = W0 at MS' KD' ⊢
    have MS := MS'
    have KD := KD'
    clear MS' KD'
    have hcz := bcs15 MS.out.box
    have hcd := bcs12 KD.out
    obtain ⟨cs, hr1, hr2⟩ := MS.out.res
    go_wp2_with (first | (refine wl_box (a1 := ?_) rfl rfl rfl MS.out.box ?_ ?_; rotate_left 1; (· simp only [Act.put, List.setIfInBounds_toArray, List.set_cons_zero, List.set_cons_succ, guarded_true, i64_w, i32_w]; with_reducible rfl)) | (refine wl_stbox (n := n5) (s := s2) (a1 := ?_) rfl rfl rfl rfl hr1 hr2 ?_ ?_; rotate_left 1; (· simp only [Act.put, List.setIfInBounds_toArray, List.set_cons_zero, List.set_cons_succ]; with_reducible rfl)))
    have hi : (Tryd.prog.info? 29).map (·.size) = some (n5.cells s2).size := (show (Tryd.prog.info? 29).map (·.size) = some 15 by kernel_rfl)
    (try simp only [Exit.inBlock, Exit.then])
    refine bodyPost_ret (results_cell_row rfl _ _ w.heap.size 29 (n5.cells s2) (0, 0) _ rfl (setRow_box hr1) huN rfl hi) rfl ?_
    refine ⟨n5, s2, rfl, ?_, MS.out.at_.keep (keepRow _ _ _) MS.out.fc, MS.out.row.row_ (by omega), below_setRow MS.out.below (by omega) _, setRow_keep MS.out.keep (Nat.le_refl _), MS.out.fo⟩
    have hil := HIL.out
    have hx3 := HX4.out
    have hx4 := HX5.out
    have hw2 := HW.out
    obtain ⟨e1, e2, e3, e4, e5⟩ := E_n2.out
    refine ⟨?_, ?_, ?_, ?_, ?_, ?_, fun _ => ⟨n5, hw2.same ?_ ?_ ?_ ?_ ?_⟩, fun h => ?_⟩
    · rw [Hn5.out, Hn4.out]; show 1 ≤ n2.inn.length; rw [e1, Hn1.out, Hn0.out]; show 1 ≤ inn.length; omega
    · rw [Hn5.out, Hn4.out]; show n2.inn.length ≤ 2; rw [e1, Hn1.out, Hn0.out]; show inn.length ≤ 2; omega
    · rw [Hn5.out, Hn4.out]; show x4.length ≤ 4000; omega
    · rw [Hn5.out, Hn4.out]; show x5.length ≤ 4000; omega
    · rw [Hn5.out, Hn4.out]; show inB n2.k 1 12 = true; rw [e4, hk1]; decide
    · rw [Hn5.out, Hn4.out]; show n2.post = 0; rw [e5, Hn1.out, Hn0.out]
    · rw [Hn5.out, Hn4.out]
    · rw [Hn5.out, Hn4.out]
    · rw [Hn5.out, Hn4.out]
    · rw [Hn5.out, Hn4.out]
    · rw [Hn5.out, Hn4.out]
    · rw [Hn5.out, Hn4.out] at h; replace h : n2.k = 12 := h; rw [e4, hk1] at h; exact absurd h (by decide)
  · go_upto_region 23 with (fail)
    obtain ⟨n1, hn1⟩ : ∃ n_ : Nd, n_ = { n0 with k := 3 } := ⟨_, rfl⟩
    have MS' : Aside0 (Mst (Old w A1 inn.length) w0 w (w2.setCell ⟨w.heap.size + 1, 0, none⟩ (.int .i64 (3))) g L (w.heap.size + 1) w.heap.size n1 s0) := by rw [hn1]; exact ⟨MS.out.num hw 0 _ _ rfl rfl rfl rfl⟩
    have KD' : Aside0 ((w2.setCell ⟨w.heap.size + 1, 0, none⟩ (.int .i64 (3))).heap[d]? = some (.cells kinds12 94 (0, 0))) := ⟨blk_far KD.out (p := ⟨w.heap.size + 1, 0, none⟩) (by show d ≠ w.heap.size + 1; omega) _⟩
    have Hn1 := Aside0.mk hn1
    clear MS KD hcz hcd hn1
    generalize w2.setCell ⟨w.heap.size + 1, 0, none⟩ (.int .i64 (3)) = W0 at MS' KD' ⊢
    have MS := MS'
    have KD := KD'
    clear MS' KD'
    have hcz := bcs15 MS.out.box
    have hcd := bcs12 KD.out
    have hk1 : n1.k = 3 := by rw [Hn1.out]
    have hfour : rFour n1.k = true := by rw [hk1]; decide
    go_upto_region 48 with (first | (refine wl_box (a1 := ?_) rfl rfl rfl MS.out.box ?_ ?_; rotate_left 1; (· simp only [Act.put, List.setIfInBounds_toArray, List.set_cons_zero, List.set_cons_succ, guarded_true, i64_w, i32_w]; with_reducible rfl)) | (go_at_call 61; refine (window_c n1 s0 g L w0 _ MS.out.row MS.out.below hL (Nat.le_trans hw MS.out.keep.1) (Nat.lt_of_lt_of_le hg MS.out.keep.1) hfour).mono ?_; rintro e w2 ⟨n2, rfl, hwin, hI, hB', hK⟩; have MS' := Aside0.mk (MS.out.next hI hB' hK); have KD' := Aside0.mk ((hK.2 _ (blk_lt KD.out) (by omega) (by simp)).trans KD.out); clear MS KD hI hB' hK; have MS := MS'; have KD := KD'; clear MS' KD'; have HW := Aside0.mk hwin; clear hwin) | (refine wl_stbox (n := n2) (s := s0) (a1 := ?_) rfl rfl rfl rfl MS.out.box rfl ?_ ?_; rotate_left 1; (· simp only [Act.put, List.setIfInBounds_toArray, List.set_cons_zero, List.set_cons_succ]; with_reducible rfl)))
    have hrows : n2.inn = n1.inn ∧ n2.ws = n1.ws ∧ n2.bs = n1.bs ∧ n2.k = n1.k ∧ n2.post = n1.post := by obtain ⟨_, _, _, _, _, e, _⟩ := HW.out; rw [e]; exact ⟨rfl, rfl, rfl, rfl, rfl⟩
    obtain ⟨e1, e2, e3, e4, e5⟩ := hrows
    have MS' : Aside0 (Mst (Old w A1 inn.length) w0 w (w2.setRow (w.heap.size + 1) (n2.cells s0)) g L (w.heap.size + 1) w.heap.size n2 s0) :=
      ⟨MS.out.whole hw n2 s0 ⟨e1 ▸ MS.out.at_.hi, e1 ▸ MS.out.at_.ic, e2 ▸ MS.out.at_.hw, e2 ▸ MS.out.at_.wc, e3 ▸ MS.out.at_.hb, e3 ▸ MS.out.at_.bc⟩ ⟨e1 ▸ MS.out.fg.i, e2 ▸ MS.out.fg.w, e3 ▸ MS.out.fg.b⟩ ⟨e1 ▸ MS.out.fb.i, e2 ▸ MS.out.fb.w, e3 ▸ MS.out.fb.b⟩ ⟨e1 ▸ MS.out.fc.i, e2 ▸ MS.out.fc.w, e3 ▸ MS.out.fc.b⟩ (fun k hk => ⟨e1 ▸ (MS.out.fo k hk).i, e2 ▸ (MS.out.fo k hk).w, e3 ▸ (MS.out.fo k hk).b⟩)⟩
    have KD' : Aside0 ((w2.setRow (w.heap.size + 1) (n2.cells s0)).heap[d]? = some (.cells kinds12 94 (0, 0))) := ⟨setRow_far KD.out (by omega)⟩
    have E_n2 := Aside0.mk (And.intro e1 (And.intro e2 (And.intro e3 (And.intro e4 e5))))
    clear MS KD e1 e2 e3 e4 e5
    (try clear hcz hcd)
    generalize w2.setRow (w.heap.size + 1) (n2.cells s0) = W0 at MS' KD' ⊢
    have MS := MS'
    have KD := KD'
    clear MS' KD'
    have hcz := bcs15 MS.out.box
    have hcd := bcs12 KD.out
    obtain ⟨cs, hr1, hr2⟩ := MS.out.res
    go_wp2_with (first | (refine wl_box (a1 := ?_) rfl rfl rfl MS.out.box ?_ ?_; rotate_left 1; (· simp only [Act.put, List.setIfInBounds_toArray, List.set_cons_zero, List.set_cons_succ, guarded_true, i64_w, i32_w]; with_reducible rfl)) | (refine wl_stbox (n := n2) (s := s0) (a1 := ?_) rfl rfl rfl rfl hr1 hr2 ?_ ?_; rotate_left 1; (· simp only [Act.put, List.setIfInBounds_toArray, List.set_cons_zero, List.set_cons_succ]; with_reducible rfl)))
    have hi : (Tryd.prog.info? 29).map (·.size) = some (n2.cells s0).size := (show (Tryd.prog.info? 29).map (·.size) = some 15 by kernel_rfl)
    (try simp only [Exit.inBlock, Exit.then])
    refine bodyPost_ret (results_cell_row rfl _ _ w.heap.size 29 (n2.cells s0) (0, 0) _ rfl (setRow_box hr1) huN rfl hi) rfl ?_
    refine ⟨n2, s0, rfl, ?_, MS.out.at_.keep (keepRow _ _ _) MS.out.fc, MS.out.row.row_ (by omega), below_setRow MS.out.below (by omega) _, setRow_keep MS.out.keep (Nat.le_refl _), MS.out.fo⟩
    have hil := HIL.out
    obtain ⟨e1, e2, e3, e4, e5⟩ := E_n2.out
    have hw2 := HW.out
    refine ⟨?_, ?_, ?_, ?_, ?_, ?_, fun _ => ⟨n1, hw2⟩, fun h => ?_⟩
    · rw [e1, Hn1.out, Hn0.out]; show 1 ≤ inn.length; omega
    · rw [e1, Hn1.out, Hn0.out]; show inn.length ≤ 2; omega
    · rw [e2, Hn1.out, Hn0.out]; exact Nat.zero_le _
    · rw [e3, Hn1.out, Hn0.out]; exact Nat.zero_le _
    · rw [e4, hk1]; decide
    · rw [e5, Hn1.out, Hn0.out]
    · rw [e4, hk1] at h; cases h
  · go_upto_region 23 with (fail)
    obtain ⟨n1, hn1⟩ : ∃ n_ : Nd, n_ = { n0 with k := 4 } := ⟨_, rfl⟩
    have MS' : Aside0 (Mst (Old w A1 inn.length) w0 w (w2.setCell ⟨w.heap.size + 1, 0, none⟩ (.int .i64 (4))) g L (w.heap.size + 1) w.heap.size n1 s0) := by rw [hn1]; exact ⟨MS.out.num hw 0 _ _ rfl rfl rfl rfl⟩
    have KD' : Aside0 ((w2.setCell ⟨w.heap.size + 1, 0, none⟩ (.int .i64 (4))).heap[d]? = some (.cells kinds12 94 (0, 0))) := ⟨blk_far KD.out (p := ⟨w.heap.size + 1, 0, none⟩) (by show d ≠ w.heap.size + 1; omega) _⟩
    have Hn1 := Aside0.mk hn1
    clear MS KD hcz hcd hn1
    generalize w2.setCell ⟨w.heap.size + 1, 0, none⟩ (.int .i64 (4)) = W0 at MS' KD' ⊢
    have MS := MS'
    have KD := KD'
    clear MS' KD'
    have hcz := bcs15 MS.out.box
    have hcd := bcs12 KD.out
    have hk1 : n1.k = 4 := by rw [Hn1.out]
    have hfour : rFour n1.k = true := by rw [hk1]; decide
    go_upto_region 48 with (first | (refine wl_box (a1 := ?_) rfl rfl rfl MS.out.box ?_ ?_; rotate_left 1; (· simp only [Act.put, List.setIfInBounds_toArray, List.set_cons_zero, List.set_cons_succ, guarded_true, i64_w, i32_w]; with_reducible rfl)) | (go_at_call 61; refine (window_c n1 s0 g L w0 _ MS.out.row MS.out.below hL (Nat.le_trans hw MS.out.keep.1) (Nat.lt_of_lt_of_le hg MS.out.keep.1) hfour).mono ?_; rintro e w2 ⟨n2, rfl, hwin, hI, hB', hK⟩; have MS' := Aside0.mk (MS.out.next hI hB' hK); have KD' := Aside0.mk ((hK.2 _ (blk_lt KD.out) (by omega) (by simp)).trans KD.out); clear MS KD hI hB' hK; have MS := MS'; have KD := KD'; clear MS' KD'; have HW := Aside0.mk hwin; clear hwin) | (refine wl_stbox (n := n2) (s := s0) (a1 := ?_) rfl rfl rfl rfl MS.out.box rfl ?_ ?_; rotate_left 1; (· simp only [Act.put, List.setIfInBounds_toArray, List.set_cons_zero, List.set_cons_succ]; with_reducible rfl)))
    have hrows : n2.inn = n1.inn ∧ n2.ws = n1.ws ∧ n2.bs = n1.bs ∧ n2.k = n1.k ∧ n2.post = n1.post := by obtain ⟨_, _, _, _, _, e, _⟩ := HW.out; rw [e]; exact ⟨rfl, rfl, rfl, rfl, rfl⟩
    obtain ⟨e1, e2, e3, e4, e5⟩ := hrows
    have MS' : Aside0 (Mst (Old w A1 inn.length) w0 w (w2.setRow (w.heap.size + 1) (n2.cells s0)) g L (w.heap.size + 1) w.heap.size n2 s0) :=
      ⟨MS.out.whole hw n2 s0 ⟨e1 ▸ MS.out.at_.hi, e1 ▸ MS.out.at_.ic, e2 ▸ MS.out.at_.hw, e2 ▸ MS.out.at_.wc, e3 ▸ MS.out.at_.hb, e3 ▸ MS.out.at_.bc⟩ ⟨e1 ▸ MS.out.fg.i, e2 ▸ MS.out.fg.w, e3 ▸ MS.out.fg.b⟩ ⟨e1 ▸ MS.out.fb.i, e2 ▸ MS.out.fb.w, e3 ▸ MS.out.fb.b⟩ ⟨e1 ▸ MS.out.fc.i, e2 ▸ MS.out.fc.w, e3 ▸ MS.out.fc.b⟩ (fun k hk => ⟨e1 ▸ (MS.out.fo k hk).i, e2 ▸ (MS.out.fo k hk).w, e3 ▸ (MS.out.fo k hk).b⟩)⟩
    have KD' : Aside0 ((w2.setRow (w.heap.size + 1) (n2.cells s0)).heap[d]? = some (.cells kinds12 94 (0, 0))) := ⟨setRow_far KD.out (by omega)⟩
    have E_n2 := Aside0.mk (And.intro e1 (And.intro e2 (And.intro e3 (And.intro e4 e5))))
    clear MS KD e1 e2 e3 e4 e5
    (try clear hcz hcd)
    generalize w2.setRow (w.heap.size + 1) (n2.cells s0) = W0 at MS' KD' ⊢
    have MS := MS'
    have KD := KD'
    clear MS' KD'
    have hcz := bcs15 MS.out.box
    have hcd := bcs12 KD.out
    obtain ⟨cs, hr1, hr2⟩ := MS.out.res
    go_wp2_with (first | (refine wl_box (a1 := ?_) rfl rfl rfl MS.out.box ?_ ?_; rotate_left 1; (· simp only [Act.put, List.setIfInBounds_toArray, List.set_cons_zero, List.set_cons_succ, guarded_true, i64_w, i32_w]; with_reducible rfl)) | (refine wl_stbox (n := n2) (s := s0) (a1 := ?_) rfl rfl rfl rfl hr1 hr2 ?_ ?_; rotate_left 1; (· simp only [Act.put, List.setIfInBounds_toArray, List.set_cons_zero, List.set_cons_succ]; with_reducible rfl)))
    have hi : (Tryd.prog.info? 29).map (·.size) = some (n2.cells s0).size := (show (Tryd.prog.info? 29).map (·.size) = some 15 by kernel_rfl)
    (try simp only [Exit.inBlock, Exit.then])
    refine bodyPost_ret (results_cell_row rfl _ _ w.heap.size 29 (n2.cells s0) (0, 0) _ rfl (setRow_box hr1) huN rfl hi) rfl ?_
    refine ⟨n2, s0, rfl, ?_, MS.out.at_.keep (keepRow _ _ _) MS.out.fc, MS.out.row.row_ (by omega), below_setRow MS.out.below (by omega) _, setRow_keep MS.out.keep (Nat.le_refl _), MS.out.fo⟩
    have hil := HIL.out
    obtain ⟨e1, e2, e3, e4, e5⟩ := E_n2.out
    have hw2 := HW.out
    refine ⟨?_, ?_, ?_, ?_, ?_, ?_, fun _ => ⟨n1, hw2⟩, fun h => ?_⟩
    · rw [e1, Hn1.out, Hn0.out]; show 1 ≤ inn.length; omega
    · rw [e1, Hn1.out, Hn0.out]; show inn.length ≤ 2; omega
    · rw [e2, Hn1.out, Hn0.out]; exact Nat.zero_le _
    · rw [e3, Hn1.out, Hn0.out]; exact Nat.zero_le _
    · rw [e4, hk1]; decide
    · rw [e5, Hn1.out, Hn0.out]
    · rw [e4, hk1] at h; cases h
  · go_upto_region 23 with (fail)
    obtain ⟨n1, hn1⟩ : ∃ n_ : Nd, n_ = { n0 with k := 12 } := ⟨_, rfl⟩
    have MS' : Aside0 (Mst (Old w A1 inn.length) w0 w (w2.setCell ⟨w.heap.size + 1, 0, none⟩ (.int .i64 (12))) g L (w.heap.size + 1) w.heap.size n1 s0) := by rw [hn1]; exact ⟨MS.out.num hw 0 _ _ rfl rfl rfl rfl⟩
    have KD' : Aside0 ((w2.setCell ⟨w.heap.size + 1, 0, none⟩ (.int .i64 (12))).heap[d]? = some (.cells kinds12 94 (0, 0))) := ⟨blk_far KD.out (p := ⟨w.heap.size + 1, 0, none⟩) (by show d ≠ w.heap.size + 1; omega) _⟩
    have Hn1 := Aside0.mk hn1
    clear MS KD hcz hcd hn1
    generalize w2.setCell ⟨w.heap.size + 1, 0, none⟩ (.int .i64 (12)) = W0 at MS' KD' ⊢
    have MS := MS'
    have KD := KD'
    clear MS' KD'
    have hcz := bcs15 MS.out.box
    have hcd := bcs12 KD.out
    have hk1 : n1.k = 12 := by rw [Hn1.out]
    go_upto_region 48 with (first | (go_at_call 60; refine (Next_c g L _ w0 _ MS.out.row MS.out.below hL (by omega) (by omega)).mono ?_; rintro e w2 ⟨r2, rfl, ha2, hb2, hI, hB', hK⟩; have MS' := Aside0.mk (MS.out.next hI hB' hK); have KD' := Aside0.mk ((hK.2 _ (blk_lt KD.out) (by omega) (by simp)).trans KD.out); clear MS KD hI hB' hK; have MS := MS'; have KD := KD'; clear MS' KD'; (try clear hcz); have hcz := bcs15 MS.out.box; (try clear hcd); have hcd := bcs12 KD.out))
    obtain ⟨n2, hn2⟩ : ∃ n_ : Nd, n_ = { n1 with size := 1 + r2 } := ⟨_, rfl⟩
    have MS' : Aside0 (Mst (Old w A1 inn.length) w0 w (w2.setCell ⟨w.heap.size + 1, 3, none⟩ (.int .i64 (1 + r2))) g L (w.heap.size + 1) w.heap.size n2 s0) := by rw [hn2]; exact ⟨MS.out.num hw 3 _ _ rfl rfl rfl rfl⟩
    have KD' : Aside0 ((w2.setCell ⟨w.heap.size + 1, 3, none⟩ (.int .i64 (1 + r2))).heap[d]? = some (.cells kinds12 94 (0, 0))) := ⟨blk_far KD.out (p := ⟨w.heap.size + 1, 3, none⟩) (by show d ≠ w.heap.size + 1; omega) _⟩
    have Hn2 := Aside0.mk hn2
    clear MS KD hcz hcd hn2
    generalize w2.setCell ⟨w.heap.size + 1, 3, none⟩ (.int .i64 (1 + r2)) = W0 at MS' KD' ⊢
    have MS := MS'
    have KD := KD'
    clear MS' KD'
    have hcz := bcs15 MS.out.box
    have hcd := bcs12 KD.out
    obtain ⟨cs, hr1, hr2⟩ := MS.out.res
    go_wp2_with (first | (refine wl_box (a1 := ?_) rfl rfl rfl MS.out.box ?_ ?_; rotate_left 1; (· simp only [Act.put, List.setIfInBounds_toArray, List.set_cons_zero, List.set_cons_succ, guarded_true, i64_w, i32_w]; with_reducible rfl)) | (refine wl_stbox (n := n2) (s := s0) (a1 := ?_) rfl rfl rfl rfl hr1 hr2 ?_ ?_; rotate_left 1; (· simp only [Act.put, List.setIfInBounds_toArray, List.set_cons_zero, List.set_cons_succ]; with_reducible rfl)))
    have hi : (Tryd.prog.info? 29).map (·.size) = some (n2.cells s0).size := (show (Tryd.prog.info? 29).map (·.size) = some 15 by kernel_rfl)
    (try simp only [Exit.inBlock, Exit.then])
    refine bodyPost_ret (results_cell_row rfl _ _ w.heap.size 29 (n2.cells s0) (0, 0) _ rfl (setRow_box hr1) huN rfl hi) rfl ?_
    refine ⟨n2, s0, rfl, ?_, MS.out.at_.keep (keepRow _ _ _) MS.out.fc, MS.out.row.row_ (by omega), below_setRow MS.out.below (by omega) _, setRow_keep MS.out.keep (Nat.le_refl _), MS.out.fo⟩
    have hil := HIL.out
    rw [Hn2.out, Hn1.out, Hn0.out]
    refine ⟨?_, ?_, ?_, ?_, ?_, ?_, ?_, ?_⟩
    · show 1 ≤ inn.length; omega
    · show inn.length ≤ 2; omega
    · exact Nat.zero_le _
    · exact Nat.zero_le _
    · show inB 12 1 12 = true; decide
    · rfl
    · intro h; exact absurd h (by show ¬ (rFour 12 = true); decide)
    · intro _; exact ⟨by show 1 ≤ 1 + r2; omega, by show 1 + r2 ≤ 5; omega⟩
  · go_upto_region 23 with (fail)
    obtain ⟨n1, hn1⟩ : ∃ n_ : Nd, n_ = { n0 with k := 1 } := ⟨_, rfl⟩
    have MS' : Aside0 (Mst (Old w A1 inn.length) w0 w (w2.setCell ⟨w.heap.size + 1, 0, none⟩ (.int .i64 (1))) g L (w.heap.size + 1) w.heap.size n1 s0) := by rw [hn1]; exact ⟨MS.out.num hw 0 _ _ rfl rfl rfl rfl⟩
    have KD' : Aside0 ((w2.setCell ⟨w.heap.size + 1, 0, none⟩ (.int .i64 (1))).heap[d]? = some (.cells kinds12 94 (0, 0))) := ⟨blk_far KD.out (p := ⟨w.heap.size + 1, 0, none⟩) (by show d ≠ w.heap.size + 1; omega) _⟩
    have Hn1 := Aside0.mk hn1
    clear MS KD hcz hcd hn1
    generalize w2.setCell ⟨w.heap.size + 1, 0, none⟩ (.int .i64 (1)) = W0 at MS' KD' ⊢
    have MS := MS'
    have KD := KD'
    clear MS' KD'
    have hcz := bcs15 MS.out.box
    have hcd := bcs12 KD.out
    have hk1 : n1.k = 1 := by rw [Hn1.out]
    have hfour : rFour n1.k = true := by rw [hk1]; decide
    go_upto_region 26 with (first | (refine wl_box (a1 := ?_) rfl rfl rfl MS.out.box ?_ ?_; rotate_left 1; (· simp only [Act.put, List.setIfInBounds_toArray, List.set_cons_zero, List.set_cons_succ, guarded_true, i64_w, i32_w]; with_reducible rfl)) | (go_at_call 61; refine (window_c n1 s0 g L w0 _ MS.out.row MS.out.below hL (Nat.le_trans hw MS.out.keep.1) (Nat.lt_of_lt_of_le hg MS.out.keep.1) hfour).mono ?_; rintro e w2 ⟨n2, rfl, hwin, hI, hB', hK⟩; have MS' := Aside0.mk (MS.out.next hI hB' hK); have KD' := Aside0.mk ((hK.2 _ (blk_lt KD.out) (by omega) (by simp)).trans KD.out); clear MS KD hI hB' hK; have MS := MS'; have KD := KD'; clear MS' KD'; have HW := Aside0.mk hwin; clear hwin) | (refine wl_stbox (n := n2) (s := s0) (a1 := ?_) rfl rfl rfl rfl MS.out.box rfl ?_ ?_; rotate_left 1; (· simp only [Act.put, List.setIfInBounds_toArray, List.set_cons_zero, List.set_cons_succ]; with_reducible rfl)))
    have hrows : n2.inn = n1.inn ∧ n2.ws = n1.ws ∧ n2.bs = n1.bs ∧ n2.k = n1.k ∧ n2.post = n1.post := by obtain ⟨_, _, _, _, _, e, _⟩ := HW.out; rw [e]; exact ⟨rfl, rfl, rfl, rfl, rfl⟩
    obtain ⟨e1, e2, e3, e4, e5⟩ := hrows
    have MS' : Aside0 (Mst (Old w A1 inn.length) w0 w (w2.setRow (w.heap.size + 1) (n2.cells s0)) g L (w.heap.size + 1) w.heap.size n2 s0) :=
      ⟨MS.out.whole hw n2 s0 ⟨e1 ▸ MS.out.at_.hi, e1 ▸ MS.out.at_.ic, e2 ▸ MS.out.at_.hw, e2 ▸ MS.out.at_.wc, e3 ▸ MS.out.at_.hb, e3 ▸ MS.out.at_.bc⟩ ⟨e1 ▸ MS.out.fg.i, e2 ▸ MS.out.fg.w, e3 ▸ MS.out.fg.b⟩ ⟨e1 ▸ MS.out.fb.i, e2 ▸ MS.out.fb.w, e3 ▸ MS.out.fb.b⟩ ⟨e1 ▸ MS.out.fc.i, e2 ▸ MS.out.fc.w, e3 ▸ MS.out.fc.b⟩ (fun k hk => ⟨e1 ▸ (MS.out.fo k hk).i, e2 ▸ (MS.out.fo k hk).w, e3 ▸ (MS.out.fo k hk).b⟩)⟩
    have KD' : Aside0 ((w2.setRow (w.heap.size + 1) (n2.cells s0)).heap[d]? = some (.cells kinds12 94 (0, 0))) := ⟨setRow_far KD.out (by omega)⟩
    have E_n2 := Aside0.mk (And.intro e1 (And.intro e2 (And.intro e3 (And.intro e4 e5))))
    clear MS KD e1 e2 e3 e4 e5
    (try clear hcz hcd)
    generalize w2.setRow (w.heap.size + 1) (n2.cells s0) = W0 at MS' KD' ⊢
    have MS := MS'
    have KD := KD'
    clear MS' KD'
    have hcz := bcs15 MS.out.box
    have hcd := bcs12 KD.out
    have hsz : 1 ≤ n2.size ∧ n2.size ≤ 4 := by obtain ⟨a, b, c, d, e, h, h1, h2, _⟩ := HW.out; rw [h]; exact ⟨h1, h2⟩
    go_upto_region 27 with (first | (go_at_call 60; refine (Next_c g L _ w0 _ MS.out.row MS.out.below hL (by omega) (by omega)).mono ?_; rintro e w2 ⟨r3, rfl, ha3, hb3, hI, hB', hK⟩; have MS' := Aside0.mk (MS.out.next hI hB' hK); have KD' := Aside0.mk ((hK.2 _ (blk_lt KD.out) (by omega) (by simp)).trans KD.out); clear MS KD hI hB' hK; have MS := MS'; have KD := KD'; clear MS' KD'; (try clear hcz); have hcz := bcs15 MS.out.box; (try clear hcd); have hcd := bcs12 KD.out))
    obtain ⟨n3, hn3⟩ : ∃ n_ : Nd, n_ = { n2 with wid := 1 + r3 } := ⟨_, rfl⟩
    have MS' : Aside0 (Mst (Old w A1 inn.length) w0 w (w2.setCell ⟨w.heap.size + 1, 2, none⟩ (.int .i64 (1 + r3))) g L (w.heap.size + 1) w.heap.size n3 s0) := by rw [hn3]; exact ⟨MS.out.num hw 2 _ _ rfl rfl rfl rfl⟩
    have KD' : Aside0 ((w2.setCell ⟨w.heap.size + 1, 2, none⟩ (.int .i64 (1 + r3))).heap[d]? = some (.cells kinds12 94 (0, 0))) := ⟨blk_far KD.out (p := ⟨w.heap.size + 1, 2, none⟩) (by show d ≠ w.heap.size + 1; omega) _⟩
    have Hn3 := Aside0.mk hn3
    clear MS KD hcz hcd hn3
    generalize w2.setCell ⟨w.heap.size + 1, 2, none⟩ (.int .i64 (1 + r3)) = W0 at MS' KD' ⊢
    have MS := MS'
    have KD := KD'
    clear MS' KD'
    have hcz := bcs15 MS.out.box
    have hcd := bcs12 KD.out
    have hwd : 1 ≤ n3.wid ∧ n3.wid ≤ 3 := by rw [Hn3.out]; exact ⟨by show 1 ≤ 1 + r3; omega, by show 1 + r3 ≤ 3; omega⟩
    have hsz3 : 1 ≤ n3.size ∧ n3.size ≤ 4 := by rw [Hn3.out]; exact hsz
    have hm1 := mul_le n3.wid 3 n3.size 4 (by omega) hwd.2 (by omega) hsz3.2
    have hm2 := mul_le (n3.wid * n3.size) 12 (rd wl 0) 6 hm1.1 (by omega) (by omega) hv.2
    go_upto_region 28 with (first | (go_at_call 62; refine (row_c g L _ _ _ w0 _ MS.out.row MS.out.below hL (by omega) (by omega) (by omega) (by omega) (by omega)).mono ?_; rintro e w2 ⟨v, x4, rfl, hR, hx4, _, hI, hB', hK⟩; obtain ⟨A4, c4, rfl, hcc4, hC, hfar⟩ := rowfar hR; have hlt := blk_lt MS.out.box; have HC4 := Aside0.mk hC; have HF4 : Aside0 (∀ ad, A4 = some ad → 0 < x4.length → w.heap.size + 1 < ad.block) := ⟨fun ad e h => Nat.lt_of_lt_of_le hlt (hfar ad e h)⟩; clear hR hC hfar hlt; have MS' := Aside0.mk (MS.out.next hI hB' hK); have KD' := Aside0.mk ((hK.2 _ (blk_lt KD.out) (by omega) (by simp)).trans KD.out); clear MS KD hI hB' hK; have MS := MS'; have KD := KD'; clear MS' KD'; (try clear hcz); have hcz := bcs15 MS.out.box; (try clear hcd); have hcd := bcs12 KD.out))
    obtain ⟨n4, hn4⟩ : ∃ n_ : Nd, n_ = { n3 with ws := x4 } := ⟨_, rfl⟩
    obtain ⟨s1, hs1⟩ : ∃ s_ : Ns, s_ = { s0 with wa := A4, wc := c4 } := ⟨_, rfl⟩
    have MS' : Aside0 (Mst (Old w A1 inn.length) w0 w (w2.setCell ⟨w.heap.size + 1, 8, none⟩ (.slice A4 x4.length c4)) g L (w.heap.size + 1) w.heap.size n4 s1) := by
      rw [hn4, hs1]
      exact ⟨MS.out.put hw 8 _ _ _ rfl ⟨MS.out.at_.hi, MS.out.at_.ic, HC4.out, hcc4, MS.out.at_.hb, MS.out.at_.bc⟩ ⟨MS.out.fg.i, fun ad e h => by have := HF4.out ad e h; omega, MS.out.fg.b⟩ ⟨MS.out.fb.i, fun ad e h => by have := HF4.out ad e h; omega, MS.out.fb.b⟩ ⟨MS.out.fc.i, fun ad e h => by have := HF4.out ad e h; omega, MS.out.fc.b⟩ (fun k hk => ⟨(MS.out.fo k hk).i, fun ad e h => by have h1 := HF4.out ad e h; have h2 := hk.1; omega, (MS.out.fo k hk).b⟩)⟩
    have KD' : Aside0 ((w2.setCell ⟨w.heap.size + 1, 8, none⟩ (.slice A4 x4.length c4)).heap[d]? = some (.cells kinds12 94 (0, 0))) := ⟨blk_far KD.out (p := ⟨w.heap.size + 1, 8, none⟩) (by show d ≠ w.heap.size + 1; omega) _⟩
    have Hn4 := Aside0.mk hn4
    have Hs1 := Aside0.mk hs1
    have HX4 := Aside0.mk hx4
    clear MS KD hcz hcd hn4 hs1 hx4
    generalize w2.setCell ⟨w.heap.size + 1, 8, none⟩ (.slice A4 x4.length c4) = W0 at MS' KD' ⊢
    have MS := MS'
    have KD := KD'
    clear MS' KD'
    have hcz := bcs15 MS.out.box
    have hcd := bcs12 KD.out
    have hwd4 : 1 ≤ n4.wid ∧ n4.wid ≤ 3 := by rw [Hn4.out]; exact hwd
    go_upto_region 48 with (first | (go_at_call 62; refine (row_c g L _ _ _ w0 _ MS.out.row MS.out.below hL (by omega) (by omega) (by omega) (by omega) (by omega)).mono ?_; rintro e w2 ⟨v, x5, rfl, hR, hx5, _, hI, hB', hK⟩; obtain ⟨A5, c5, rfl, hcc5, hC, hfar⟩ := rowfar hR; have hlt := blk_lt MS.out.box; have HC5 := Aside0.mk hC; have HF5 : Aside0 (∀ ad, A5 = some ad → 0 < x5.length → w.heap.size + 1 < ad.block) := ⟨fun ad e h => Nat.lt_of_lt_of_le hlt (hfar ad e h)⟩; clear hR hC hfar hlt; have MS' := Aside0.mk (MS.out.next hI hB' hK); have KD' := Aside0.mk ((hK.2 _ (blk_lt KD.out) (by omega) (by simp)).trans KD.out); clear MS KD hI hB' hK; have MS := MS'; have KD := KD'; clear MS' KD'; (try clear hcz); have hcz := bcs15 MS.out.box; (try clear hcd); have hcd := bcs12 KD.out))
    obtain ⟨n5, hn5⟩ : ∃ n_ : Nd, n_ = { n4 with bs := x5 } := ⟨_, rfl⟩
    obtain ⟨s2, hs2⟩ : ∃ s_ : Ns, s_ = { s1 with ba := A5, bc := c5 } := ⟨_, rfl⟩
    have MS' : Aside0 (Mst (Old w A1 inn.length) w0 w (w2.setCell ⟨w.heap.size + 1, 9, none⟩ (.slice A5 x5.length c5)) g L (w.heap.size + 1) w.heap.size n5 s2) := by
      rw [hn5, hs2]
      exact ⟨MS.out.put hw 9 _ _ _ rfl ⟨MS.out.at_.hi, MS.out.at_.ic, MS.out.at_.hw, MS.out.at_.wc, HC5.out, hcc5⟩ ⟨MS.out.fg.i, MS.out.fg.w, fun ad e h => by have := HF5.out ad e h; omega⟩ ⟨MS.out.fb.i, MS.out.fb.w, fun ad e h => by have := HF5.out ad e h; omega⟩ ⟨MS.out.fc.i, MS.out.fc.w, fun ad e h => by have := HF5.out ad e h; omega⟩ (fun k hk => ⟨(MS.out.fo k hk).i, (MS.out.fo k hk).w, fun ad e h => by have h1 := HF5.out ad e h; have h2 := hk.1; omega⟩)⟩
    have KD' : Aside0 ((w2.setCell ⟨w.heap.size + 1, 9, none⟩ (.slice A5 x5.length c5)).heap[d]? = some (.cells kinds12 94 (0, 0))) := ⟨blk_far KD.out (p := ⟨w.heap.size + 1, 9, none⟩) (by show d ≠ w.heap.size + 1; omega) _⟩
    have Hn5 := Aside0.mk hn5
    have Hs2 := Aside0.mk hs2
    have HX5 := Aside0.mk hx5
    clear MS KD hcz hcd hn5 hs2 hx5
    generalize w2.setCell ⟨w.heap.size + 1, 9, none⟩ (.slice A5 x5.length c5) = W0 at MS' KD' ⊢
    have MS := MS'
    have KD := KD'
    clear MS' KD'
    have hcz := bcs15 MS.out.box
    have hcd := bcs12 KD.out
    obtain ⟨cs, hr1, hr2⟩ := MS.out.res
    go_wp2_with (first | (refine wl_box (a1 := ?_) rfl rfl rfl MS.out.box ?_ ?_; rotate_left 1; (· simp only [Act.put, List.setIfInBounds_toArray, List.set_cons_zero, List.set_cons_succ, guarded_true, i64_w, i32_w]; with_reducible rfl)) | (refine wl_stbox (n := n5) (s := s2) (a1 := ?_) rfl rfl rfl rfl hr1 hr2 ?_ ?_; rotate_left 1; (· simp only [Act.put, List.setIfInBounds_toArray, List.set_cons_zero, List.set_cons_succ]; with_reducible rfl)))
    have hi : (Tryd.prog.info? 29).map (·.size) = some (n5.cells s2).size := (show (Tryd.prog.info? 29).map (·.size) = some 15 by kernel_rfl)
    (try simp only [Exit.inBlock, Exit.then])
    refine bodyPost_ret (results_cell_row rfl _ _ w.heap.size 29 (n5.cells s2) (0, 0) _ rfl (setRow_box hr1) huN rfl hi) rfl ?_
    refine ⟨n5, s2, rfl, ?_, MS.out.at_.keep (keepRow _ _ _) MS.out.fc, MS.out.row.row_ (by omega), below_setRow MS.out.below (by omega) _, setRow_keep MS.out.keep (Nat.le_refl _), MS.out.fo⟩
    have hil := HIL.out
    have hx3 := HX4.out
    have hx4 := HX5.out
    have hw2 := HW.out
    obtain ⟨e1, e2, e3, e4, e5⟩ := E_n2.out
    refine ⟨?_, ?_, ?_, ?_, ?_, ?_, fun _ => ⟨n5, hw2.same ?_ ?_ ?_ ?_ ?_⟩, fun h => ?_⟩
    · rw [Hn5.out, Hn4.out, Hn3.out]; show 1 ≤ n2.inn.length; rw [e1, Hn1.out, Hn0.out]; show 1 ≤ inn.length; omega
    · rw [Hn5.out, Hn4.out, Hn3.out]; show n2.inn.length ≤ 2; rw [e1, Hn1.out, Hn0.out]; show inn.length ≤ 2; omega
    · rw [Hn5.out, Hn4.out, Hn3.out]; show x4.length ≤ 4000; omega
    · rw [Hn5.out, Hn4.out, Hn3.out]; show x5.length ≤ 4000; omega
    · rw [Hn5.out, Hn4.out, Hn3.out]; show inB n2.k 1 12 = true; rw [e4, hk1]; decide
    · rw [Hn5.out, Hn4.out, Hn3.out]; show n2.post = 0; rw [e5, Hn1.out, Hn0.out]
    · rw [Hn5.out, Hn4.out, Hn3.out]
    · rw [Hn5.out, Hn4.out, Hn3.out]
    · rw [Hn5.out, Hn4.out, Hn3.out]
    · rw [Hn5.out, Hn4.out, Hn3.out]
    · rw [Hn5.out, Hn4.out, Hn3.out]
    · rw [Hn5.out, Hn4.out, Hn3.out] at h; replace h : n2.k = 12 := h; rw [e4, hk1] at h; exact absurd h (by decide)
  · go_upto_region 23 with (fail)
    obtain ⟨n1, hn1⟩ : ∃ n_ : Nd, n_ = { n0 with k := 5 } := ⟨_, rfl⟩
    have MS' : Aside0 (Mst (Old w A1 inn.length) w0 w (w2.setCell ⟨w.heap.size + 1, 0, none⟩ (.int .i64 (5))) g L (w.heap.size + 1) w.heap.size n1 s0) := by rw [hn1]; exact ⟨MS.out.num hw 0 _ _ rfl rfl rfl rfl⟩
    have KD' : Aside0 ((w2.setCell ⟨w.heap.size + 1, 0, none⟩ (.int .i64 (5))).heap[d]? = some (.cells kinds12 94 (0, 0))) := ⟨blk_far KD.out (p := ⟨w.heap.size + 1, 0, none⟩) (by show d ≠ w.heap.size + 1; omega) _⟩
    have Hn1 := Aside0.mk hn1
    clear MS KD hcz hcd hn1
    generalize w2.setCell ⟨w.heap.size + 1, 0, none⟩ (.int .i64 (5)) = W0 at MS' KD' ⊢
    have MS := MS'
    have KD := KD'
    clear MS' KD'
    have hcz := bcs15 MS.out.box
    have hcd := bcs12 KD.out
    have hk1 : n1.k = 5 := by rw [Hn1.out]
    obtain ⟨cs, hr1, hr2⟩ := MS.out.res
    go_wp2_with (first | (refine wl_box (a1 := ?_) rfl rfl rfl MS.out.box ?_ ?_; rotate_left 1; (· simp only [Act.put, List.setIfInBounds_toArray, List.set_cons_zero, List.set_cons_succ, guarded_true, i64_w, i32_w]; with_reducible rfl)) | (refine wl_stbox (n := n1) (s := s0) (a1 := ?_) rfl rfl rfl rfl hr1 hr2 ?_ ?_; rotate_left 1; (· simp only [Act.put, List.setIfInBounds_toArray, List.set_cons_zero, List.set_cons_succ]; with_reducible rfl)))
    have hi : (Tryd.prog.info? 29).map (·.size) = some (n1.cells s0).size := (show (Tryd.prog.info? 29).map (·.size) = some 15 by kernel_rfl)
    (try simp only [Exit.inBlock, Exit.then])
    refine bodyPost_ret (results_cell_row rfl _ _ w.heap.size 29 (n1.cells s0) (0, 0) _ rfl (setRow_box hr1) huN rfl hi) rfl ?_
    refine ⟨n1, s0, rfl, ?_, MS.out.at_.keep (keepRow _ _ _) MS.out.fc, MS.out.row.row_ (by omega), below_setRow MS.out.below (by omega) _, setRow_keep MS.out.keep (Nat.le_refl _), MS.out.fo⟩
    have hil := HIL.out
    rw [Hn1.out, Hn0.out]
    refine ⟨?_, ?_, ?_, ?_, ?_, ?_, ?_, ?_⟩
    · show 1 ≤ inn.length; omega
    · show inn.length ≤ 2; omega
    · exact Nat.zero_le _
    · exact Nat.zero_le _
    · show inB 5 1 12 = true; decide
    · rfl
    · intro h; exact absurd h (by show ¬ (rFour 5 = true); decide)
    · intro h; exact absurd h (by show ¬ ((5 : Int) = 12); decide)
  · go_upto_region 23 with (fail)
    obtain ⟨n1, hn1⟩ : ∃ n_ : Nd, n_ = { n0 with k := 6 } := ⟨_, rfl⟩
    have MS' : Aside0 (Mst (Old w A1 inn.length) w0 w (w2.setCell ⟨w.heap.size + 1, 0, none⟩ (.int .i64 (6))) g L (w.heap.size + 1) w.heap.size n1 s0) := by rw [hn1]; exact ⟨MS.out.num hw 0 _ _ rfl rfl rfl rfl⟩
    have KD' : Aside0 ((w2.setCell ⟨w.heap.size + 1, 0, none⟩ (.int .i64 (6))).heap[d]? = some (.cells kinds12 94 (0, 0))) := ⟨blk_far KD.out (p := ⟨w.heap.size + 1, 0, none⟩) (by show d ≠ w.heap.size + 1; omega) _⟩
    have Hn1 := Aside0.mk hn1
    clear MS KD hcz hcd hn1
    generalize w2.setCell ⟨w.heap.size + 1, 0, none⟩ (.int .i64 (6)) = W0 at MS' KD' ⊢
    have MS := MS'
    have KD := KD'
    clear MS' KD'
    have hcz := bcs15 MS.out.box
    have hcd := bcs12 KD.out
    have hk1 : n1.k = 6 := by rw [Hn1.out]
    go_upto_region 35 with (first | (go_at_call 60; refine (Next_c g L _ w0 _ MS.out.row MS.out.below hL (by omega) (by omega)).mono ?_; rintro e w2 ⟨r2, rfl, ha2, hb2, hI, hB', hK⟩; have MS' := Aside0.mk (MS.out.next hI hB' hK); have KD' := Aside0.mk ((hK.2 _ (blk_lt KD.out) (by omega) (by simp)).trans KD.out); clear MS KD hI hB' hK; have MS := MS'; have KD := KD'; clear MS' KD'; (try clear hcz); have hcz := bcs15 MS.out.box; (try clear hcd); have hcd := bcs12 KD.out))
    obtain ⟨n2, hn2⟩ : ∃ n_ : Nd, n_ = { n1 with wid := 1 + r2 } := ⟨_, rfl⟩
    have MS' : Aside0 (Mst (Old w A1 inn.length) w0 w (w2.setCell ⟨w.heap.size + 1, 2, none⟩ (.int .i64 (1 + r2))) g L (w.heap.size + 1) w.heap.size n2 s0) := by rw [hn2]; exact ⟨MS.out.num hw 2 _ _ rfl rfl rfl rfl⟩
    have KD' : Aside0 ((w2.setCell ⟨w.heap.size + 1, 2, none⟩ (.int .i64 (1 + r2))).heap[d]? = some (.cells kinds12 94 (0, 0))) := ⟨blk_far KD.out (p := ⟨w.heap.size + 1, 2, none⟩) (by show d ≠ w.heap.size + 1; omega) _⟩
    have Hn2 := Aside0.mk hn2
    clear MS KD hcz hcd hn2
    generalize w2.setCell ⟨w.heap.size + 1, 2, none⟩ (.int .i64 (1 + r2)) = W0 at MS' KD' ⊢
    have MS := MS'
    have KD := KD'
    clear MS' KD'
    have hcz := bcs15 MS.out.box
    have hcd := bcs12 KD.out
    have hwd : 1 ≤ n2.wid ∧ n2.wid ≤ 3 := by rw [Hn2.out]; exact ⟨by show 1 ≤ 1 + r2; omega, by show 1 + r2 ≤ 3; omega⟩
    have hm1 := mul_le n2.wid 3 (rd wl 0) 6 (by omega) hwd.2 (by omega) hv.2
    go_upto_region 36 with (first | (go_at_call 62; refine (row_c g L _ _ _ w0 _ MS.out.row MS.out.below hL (by omega) (by omega) (by omega) (by omega) (by omega)).mono ?_; rintro e w2 ⟨v, x3, rfl, hR, hx3, _, hI, hB', hK⟩; obtain ⟨A3, c3, rfl, hcc3, hC, hfar⟩ := rowfar hR; have hlt := blk_lt MS.out.box; have HC3 := Aside0.mk hC; have HF3 : Aside0 (∀ ad, A3 = some ad → 0 < x3.length → w.heap.size + 1 < ad.block) := ⟨fun ad e h => Nat.lt_of_lt_of_le hlt (hfar ad e h)⟩; clear hR hC hfar hlt; have MS' := Aside0.mk (MS.out.next hI hB' hK); have KD' := Aside0.mk ((hK.2 _ (blk_lt KD.out) (by omega) (by simp)).trans KD.out); clear MS KD hI hB' hK; have MS := MS'; have KD := KD'; clear MS' KD'; (try clear hcz); have hcz := bcs15 MS.out.box; (try clear hcd); have hcd := bcs12 KD.out))
    obtain ⟨n3, hn3⟩ : ∃ n_ : Nd, n_ = { n2 with ws := x3 } := ⟨_, rfl⟩
    obtain ⟨s1, hs1⟩ : ∃ s_ : Ns, s_ = { s0 with wa := A3, wc := c3 } := ⟨_, rfl⟩
    have MS' : Aside0 (Mst (Old w A1 inn.length) w0 w (w2.setCell ⟨w.heap.size + 1, 8, none⟩ (.slice A3 x3.length c3)) g L (w.heap.size + 1) w.heap.size n3 s1) := by
      rw [hn3, hs1]
      exact ⟨MS.out.put hw 8 _ _ _ rfl ⟨MS.out.at_.hi, MS.out.at_.ic, HC3.out, hcc3, MS.out.at_.hb, MS.out.at_.bc⟩ ⟨MS.out.fg.i, fun ad e h => by have := HF3.out ad e h; omega, MS.out.fg.b⟩ ⟨MS.out.fb.i, fun ad e h => by have := HF3.out ad e h; omega, MS.out.fb.b⟩ ⟨MS.out.fc.i, fun ad e h => by have := HF3.out ad e h; omega, MS.out.fc.b⟩ (fun k hk => ⟨(MS.out.fo k hk).i, fun ad e h => by have h1 := HF3.out ad e h; have h2 := hk.1; omega, (MS.out.fo k hk).b⟩)⟩
    have KD' : Aside0 ((w2.setCell ⟨w.heap.size + 1, 8, none⟩ (.slice A3 x3.length c3)).heap[d]? = some (.cells kinds12 94 (0, 0))) := ⟨blk_far KD.out (p := ⟨w.heap.size + 1, 8, none⟩) (by show d ≠ w.heap.size + 1; omega) _⟩
    have Hn3 := Aside0.mk hn3
    have Hs1 := Aside0.mk hs1
    have HX3 := Aside0.mk hx3
    clear MS KD hcz hcd hn3 hs1 hx3
    generalize w2.setCell ⟨w.heap.size + 1, 8, none⟩ (.slice A3 x3.length c3) = W0 at MS' KD' ⊢
    have MS := MS'
    have KD := KD'
    clear MS' KD'
    have hcz := bcs15 MS.out.box
    have hcd := bcs12 KD.out
    have hwd3 : 1 ≤ n3.wid ∧ n3.wid ≤ 3 := by rw [Hn3.out]; exact hwd
    go_upto_region 48 with (first | (go_at_call 62; refine (row_c g L _ _ _ w0 _ MS.out.row MS.out.below hL (by omega) (by omega) (by omega) (by omega) (by omega)).mono ?_; rintro e w2 ⟨v, x4, rfl, hR, hx4, _, hI, hB', hK⟩; obtain ⟨A4, c4, rfl, hcc4, hC, hfar⟩ := rowfar hR; have hlt := blk_lt MS.out.box; have HC4 := Aside0.mk hC; have HF4 : Aside0 (∀ ad, A4 = some ad → 0 < x4.length → w.heap.size + 1 < ad.block) := ⟨fun ad e h => Nat.lt_of_lt_of_le hlt (hfar ad e h)⟩; clear hR hC hfar hlt; have MS' := Aside0.mk (MS.out.next hI hB' hK); have KD' := Aside0.mk ((hK.2 _ (blk_lt KD.out) (by omega) (by simp)).trans KD.out); clear MS KD hI hB' hK; have MS := MS'; have KD := KD'; clear MS' KD'; (try clear hcz); have hcz := bcs15 MS.out.box; (try clear hcd); have hcd := bcs12 KD.out))
    obtain ⟨n4, hn4⟩ : ∃ n_ : Nd, n_ = { n3 with bs := x4 } := ⟨_, rfl⟩
    obtain ⟨s2, hs2⟩ : ∃ s_ : Ns, s_ = { s1 with ba := A4, bc := c4 } := ⟨_, rfl⟩
    have MS' : Aside0 (Mst (Old w A1 inn.length) w0 w (w2.setCell ⟨w.heap.size + 1, 9, none⟩ (.slice A4 x4.length c4)) g L (w.heap.size + 1) w.heap.size n4 s2) := by
      rw [hn4, hs2]
      exact ⟨MS.out.put hw 9 _ _ _ rfl ⟨MS.out.at_.hi, MS.out.at_.ic, MS.out.at_.hw, MS.out.at_.wc, HC4.out, hcc4⟩ ⟨MS.out.fg.i, MS.out.fg.w, fun ad e h => by have := HF4.out ad e h; omega⟩ ⟨MS.out.fb.i, MS.out.fb.w, fun ad e h => by have := HF4.out ad e h; omega⟩ ⟨MS.out.fc.i, MS.out.fc.w, fun ad e h => by have := HF4.out ad e h; omega⟩ (fun k hk => ⟨(MS.out.fo k hk).i, (MS.out.fo k hk).w, fun ad e h => by have h1 := HF4.out ad e h; have h2 := hk.1; omega⟩)⟩
    have KD' : Aside0 ((w2.setCell ⟨w.heap.size + 1, 9, none⟩ (.slice A4 x4.length c4)).heap[d]? = some (.cells kinds12 94 (0, 0))) := ⟨blk_far KD.out (p := ⟨w.heap.size + 1, 9, none⟩) (by show d ≠ w.heap.size + 1; omega) _⟩
    have Hn4 := Aside0.mk hn4
    have Hs2 := Aside0.mk hs2
    have HX4 := Aside0.mk hx4
    clear MS KD hcz hcd hn4 hs2 hx4
    generalize w2.setCell ⟨w.heap.size + 1, 9, none⟩ (.slice A4 x4.length c4) = W0 at MS' KD' ⊢
    have MS := MS'
    have KD := KD'
    clear MS' KD'
    have hcz := bcs15 MS.out.box
    have hcd := bcs12 KD.out
    obtain ⟨cs, hr1, hr2⟩ := MS.out.res
    go_wp2_with (first | (refine wl_box (a1 := ?_) rfl rfl rfl MS.out.box ?_ ?_; rotate_left 1; (· simp only [Act.put, List.setIfInBounds_toArray, List.set_cons_zero, List.set_cons_succ, guarded_true, i64_w, i32_w]; with_reducible rfl)) | (refine wl_stbox (n := n4) (s := s2) (a1 := ?_) rfl rfl rfl rfl hr1 hr2 ?_ ?_; rotate_left 1; (· simp only [Act.put, List.setIfInBounds_toArray, List.set_cons_zero, List.set_cons_succ]; with_reducible rfl)))
    have hi : (Tryd.prog.info? 29).map (·.size) = some (n4.cells s2).size := (show (Tryd.prog.info? 29).map (·.size) = some 15 by kernel_rfl)
    (try simp only [Exit.inBlock, Exit.then])
    refine bodyPost_ret (results_cell_row rfl _ _ w.heap.size 29 (n4.cells s2) (0, 0) _ rfl (setRow_box hr1) huN rfl hi) rfl ?_
    refine ⟨n4, s2, rfl, ?_, MS.out.at_.keep (keepRow _ _ _) MS.out.fc, MS.out.row.row_ (by omega), below_setRow MS.out.below (by omega) _, setRow_keep MS.out.keep (Nat.le_refl _), MS.out.fo⟩
    have hil := HIL.out
    have hx3 := HX3.out
    have hx4 := HX4.out
    rw [Hn4.out]
    refine ⟨?_, ?_, ?_, ?_, ?_, ?_, ?_, ?_⟩
    · rw [Hn3.out, Hn2.out, Hn1.out, Hn0.out]; show 1 ≤ inn.length; omega
    · rw [Hn3.out, Hn2.out, Hn1.out, Hn0.out]; show inn.length ≤ 2; omega
    · rw [Hn3.out]; show x3.length ≤ 4000; omega
    · show x4.length ≤ 4000; omega
    · rw [Hn3.out, Hn2.out, Hn1.out]; show inB 6 1 12 = true; decide
    · rw [Hn3.out, Hn2.out, Hn1.out, Hn0.out]
    · intro h; rw [Hn3.out, Hn2.out, Hn1.out] at h; exact absurd h (by show ¬ (rFour 6 = true); decide)
    · intro h; rw [Hn3.out, Hn2.out, Hn1.out] at h; exact absurd h (by show ¬ ((6 : Int) = 12); decide)
  · go_upto_region 23 with (fail)
    obtain ⟨n1, hn1⟩ : ∃ n_ : Nd, n_ = { n0 with k := 9 } := ⟨_, rfl⟩
    have MS' : Aside0 (Mst (Old w A1 inn.length) w0 w (w2.setCell ⟨w.heap.size + 1, 0, none⟩ (.int .i64 (9))) g L (w.heap.size + 1) w.heap.size n1 s0) := by rw [hn1]; exact ⟨MS.out.num hw 0 _ _ rfl rfl rfl rfl⟩
    have KD' : Aside0 ((w2.setCell ⟨w.heap.size + 1, 0, none⟩ (.int .i64 (9))).heap[d]? = some (.cells kinds12 94 (0, 0))) := ⟨blk_far KD.out (p := ⟨w.heap.size + 1, 0, none⟩) (by show d ≠ w.heap.size + 1; omega) _⟩
    have Hn1 := Aside0.mk hn1
    clear MS KD hcz hcd hn1
    generalize w2.setCell ⟨w.heap.size + 1, 0, none⟩ (.int .i64 (9)) = W0 at MS' KD' ⊢
    have MS := MS'
    have KD := KD'
    clear MS' KD'
    have hcz := bcs15 MS.out.box
    have hcd := bcs12 KD.out
    have hk1 : n1.k = 9 := by rw [Hn1.out]
    go_upto_region 44 with (first | (go_at_call 60; refine (Next_c g L _ w0 _ MS.out.row MS.out.below hL (by omega) (by omega)).mono ?_; rintro e w2 ⟨r2, rfl, ha2, hb2, hI, hB', hK⟩; have MS' := Aside0.mk (MS.out.next hI hB' hK); have KD' := Aside0.mk ((hK.2 _ (blk_lt KD.out) (by omega) (by simp)).trans KD.out); clear MS KD hI hB' hK; have MS := MS'; have KD := KD'; clear MS' KD'; (try clear hcz); have hcz := bcs15 MS.out.box; (try clear hcd); have hcd := bcs12 KD.out))
    obtain ⟨n2, hn2⟩ : ∃ n_ : Nd, n_ = { n1 with low := r2 - 150 } := ⟨_, rfl⟩
    have MS' : Aside0 (Mst (Old w A1 inn.length) w0 w (w2.setCell ⟨w.heap.size + 1, 12, none⟩ (.int .i64 (r2 - 150))) g L (w.heap.size + 1) w.heap.size n2 s0) := by rw [hn2]; exact ⟨MS.out.num hw 12 _ _ rfl rfl rfl rfl⟩
    have KD' : Aside0 ((w2.setCell ⟨w.heap.size + 1, 12, none⟩ (.int .i64 (r2 - 150))).heap[d]? = some (.cells kinds12 94 (0, 0))) := ⟨blk_far KD.out (p := ⟨w.heap.size + 1, 12, none⟩) (by show d ≠ w.heap.size + 1; omega) _⟩
    have Hn2 := Aside0.mk hn2
    clear MS KD hcz hcd hn2
    generalize w2.setCell ⟨w.heap.size + 1, 12, none⟩ (.int .i64 (r2 - 150)) = W0 at MS' KD' ⊢
    have MS := MS'
    have KD := KD'
    clear MS' KD'
    have hcz := bcs15 MS.out.box
    have hcd := bcs12 KD.out
    have hlo : -150 ≤ n2.low ∧ n2.low ≤ 49 := by rw [Hn2.out]; exact ⟨by show -150 ≤ r2 - 150; omega, by show r2 - 150 ≤ 49; omega⟩
    refine plan_ (id := 44) (S := fun W' => ∃ hi_ : Int, Mst (Old w A1 inn.length) w0 w W' g L (w.heap.size + 1) w.heap.size { n2 with high := hi_ } s0 ∧ W'.heap[d]? = some (.cells kinds12 94 (0, 0))) [(0, true), (1, true), (2, true), (3, false), (4, true), (5, true), (6, false)] (by kernel_rfl) (by kernel_rfl) ⟨n2.high, MS.out.bel (below_drew1 (Below.refl _ _)), blk_drew KD.out⟩ ?_
    intro w3 hS
    clear MS KD hcz hcd
    (refine plan_p (v := ?_) (a1 := ?_) (by simp only [List.getElem?_toArray, List.getElem?_cons_zero, List.getElem?_cons_succ]; rfl) rfl ?_ ?_ ?_ ?_; rotate_left 2; (· intro w_ hS_; (obtain ⟨hi_, hm_, _⟩ := hS_; have hcz := bcs15 hm_.box); go_simp; with_reducible rfl); (· simp only [Act.put, List.setIfInBounds_toArray, List.set_cons_zero, List.set_cons_succ, guarded_true, i64_w, i32_w]; with_reducible rfl); (· exact fun _ _ _ h => h))
    (refine plan_p (v := ?_) (a1 := ?_) (by simp only [List.getElem?_toArray, List.getElem?_cons_zero, List.getElem?_cons_succ]; rfl) rfl ?_ ?_ ?_ ?_; rotate_left 2; (· intro w_ hS_; (obtain ⟨hi_, hm_, _⟩ := hS_; have hcz := bcs15 hm_.box); go_simp; with_reducible rfl); (· simp only [Act.put, List.setIfInBounds_toArray, List.set_cons_zero, List.set_cons_succ, guarded_true, i64_w, i32_w]; with_reducible rfl); (· exact fun _ _ _ h => h))
    (refine plan_p (v := ?_) (a1 := ?_) (by simp only [List.getElem?_toArray, List.getElem?_cons_zero, List.getElem?_cons_succ]; rfl) rfl ?_ ?_ ?_ ?_; rotate_left 2; (· intro w_ hS_; (obtain ⟨hi_, hm_, _⟩ := hS_; have hcz := bcs15 hm_.box); go_simp; with_reducible rfl); (· simp only [Act.put, List.setIfInBounds_toArray, List.set_cons_zero, List.set_cons_succ, guarded_true, i64_w, i32_w]; with_reducible rfl); (· exact fun _ _ _ h => h))
    refine plan_e (args := #[.pointer (some ⟨g, 0, none⟩), .int .i64 300]) 60 (by simp only [List.getElem?_toArray, List.getElem?_cons_zero, List.getElem?_cons_succ]; rfl) rfl rfl Tryd.func60 (by rfl) rfl rfl ?_ ?_
    (· (try go_simp); (try with_reducible rfl))
    obtain ⟨hi1, hm1, hk1_⟩ := hS
    with_reducible refine (Next_c g L 300 w0 _ hm1.row hm1.below hL (by omega) (by omega)).mono ?_
    rintro e w4 ⟨r3, rfl, ha3, hb3, hI, hB', hK⟩
    have hS : ∃ hi_ : Int, Mst (Old w A1 inn.length) w0 w w4 g L (w.heap.size + 1) w.heap.size { n2 with high := hi_ } s0 ∧ w4.heap[d]? = some (.cells kinds12 94 (0, 0)) := ⟨hi1, hm1.next hI hB' hK, (hK.2 _ (blk_lt hk1_) (by omega) (by simp)).trans hk1_⟩
    refine ⟨_, rfl, hS, ?_⟩
    clear hm1 hk1_ hI hB' hK
    refine plan_norm (a1 := ?_) ?_ ?_
    rotate_left 1
    (· simp only [Act.put, List.setIfInBounds_toArray, List.set_cons_zero, List.set_cons_succ, guarded_true, i64_w, i32_w]; with_reducible rfl)
    (refine plan_p (v := ?_) (a1 := ?_) (by simp only [List.getElem?_toArray, List.getElem?_cons_zero, List.getElem?_cons_succ]; rfl) rfl ?_ ?_ ?_ ?_; rotate_left 2; (· intro w_ hS_; (obtain ⟨hi_, hm_, _⟩ := hS_; have hcz := bcs15 hm_.box); go_simp; with_reducible rfl); (· simp only [Act.put, List.setIfInBounds_toArray, List.set_cons_zero, List.set_cons_succ, guarded_true, i64_w, i32_w]; with_reducible rfl); (· exact fun _ _ _ h => h))
    (refine plan_p (v := ?_) (a1 := ?_) (by simp only [List.getElem?_toArray, List.getElem?_cons_zero, List.getElem?_cons_succ]; rfl) rfl ?_ ?_ ?_ ?_; rotate_left 2; (· intro w_ hS_; (obtain ⟨hi_, hm_, _⟩ := hS_; have hcz := bcs15 hm_.box); go_simp; with_reducible rfl); (· simp only [Act.put, List.setIfInBounds_toArray, List.set_cons_zero, List.set_cons_succ, guarded_true, i64_w, i32_w]; with_reducible rfl); (· exact fun _ _ _ h => h))
    obtain ⟨hi2, hm2, hk2_⟩ := hS
    refine plan_s (y := wrap64 (n2.low + r3)) (j := 13) (by simp only [List.getElem?_toArray, List.getElem?_cons_zero, List.getElem?_cons_succ]; rfl) (by rfl) (by rfl) (by rfl) (by rfl) hm2.box (by show (13 : Nat) < 15; decide) ?_
    intro W5 hW5
    have MS : Aside0 (Mst (Old w A1 inn.length) w0 w W5 g L (w.heap.size + 1) w.heap.size { n2 with high := wrap64 (n2.low + r3) } s0) := by rw [hW5]; exact ⟨hm2.num hw 13 _ _ rfl rfl rfl rfl⟩
    have KD : Aside0 (W5.heap[d]? = some (.cells kinds12 94 (0, 0))) := by rw [hW5]; exact ⟨blk_far hk2_ (p := ⟨w.heap.size + 1, 13, none⟩) (by show d ≠ w.heap.size + 1; omega) _⟩
    refine ⟨⟨_, MS.out, KD.out⟩, ?_⟩
    refine plan_n ?_
    clear hm2 hk2_ hW5
    obtain ⟨n3, hn3⟩ : ∃ n_ : Nd, n_ = { n2 with high := wrap64 (n2.low + r3) } := ⟨_, rfl⟩
    rw [← hn3] at MS
    have Hn3 := Aside0.mk hn3
    clear hn3
    have hcz := bcs15 MS.out.box
    have hcd := bcs12 KD.out
    have hk3 : n3.k = 9 := by rw [Hn3.out, Hn2.out, Hn1.out]
    obtain ⟨cs, hr1, hr2⟩ := MS.out.res
    go_wp2_with (first | (refine wl_box (a1 := ?_) rfl rfl rfl MS.out.box ?_ ?_; rotate_left 1; (· simp only [Act.put, List.setIfInBounds_toArray, List.set_cons_zero, List.set_cons_succ, guarded_true, i64_w, i32_w]; with_reducible rfl)) | (refine wl_stbox (n := n3) (s := s0) (a1 := ?_) rfl rfl rfl rfl hr1 hr2 ?_ ?_; rotate_left 1; (· simp only [Act.put, List.setIfInBounds_toArray, List.set_cons_zero, List.set_cons_succ]; with_reducible rfl)))
    have hi : (Tryd.prog.info? 29).map (·.size) = some (n3.cells s0).size := (show (Tryd.prog.info? 29).map (·.size) = some 15 by kernel_rfl)
    (try simp only [Exit.inBlock, Exit.then])
    refine bodyPost_ret (results_cell_row rfl _ _ w.heap.size 29 (n3.cells s0) (0, 0) _ rfl (setRow_box hr1) huN rfl hi) rfl ?_
    refine ⟨n3, s0, rfl, ?_, MS.out.at_.keep (keepRow _ _ _) MS.out.fc, MS.out.row.row_ (by omega), below_setRow MS.out.below (by omega) _, setRow_keep MS.out.keep (Nat.le_refl _), MS.out.fo⟩
    have hil := HIL.out
    rw [Hn3.out, Hn2.out, Hn1.out, Hn0.out]
    refine ⟨?_, ?_, ?_, ?_, ?_, ?_, ?_, ?_⟩
    · show 1 ≤ inn.length; omega
    · show inn.length ≤ 2; omega
    · exact Nat.zero_le _
    · exact Nat.zero_le _
    · show inB 9 1 12 = true; decide
    · rfl
    · intro h; exact absurd h (by show ¬ (rFour 9 = true); decide)
    · intro h; exact absurd h (by show ¬ ((9 : Int) = 12); decide)
  · go_upto_region 23 with (fail)
    obtain ⟨n1, hn1⟩ : ∃ n_ : Nd, n_ = { n0 with k := 10 } := ⟨_, rfl⟩
    have MS' : Aside0 (Mst (Old w A1 inn.length) w0 w (w2.setCell ⟨w.heap.size + 1, 0, none⟩ (.int .i64 (10))) g L (w.heap.size + 1) w.heap.size n1 s0) := by rw [hn1]; exact ⟨MS.out.num hw 0 _ _ rfl rfl rfl rfl⟩
    have KD' : Aside0 ((w2.setCell ⟨w.heap.size + 1, 0, none⟩ (.int .i64 (10))).heap[d]? = some (.cells kinds12 94 (0, 0))) := ⟨blk_far KD.out (p := ⟨w.heap.size + 1, 0, none⟩) (by show d ≠ w.heap.size + 1; omega) _⟩
    have Hn1 := Aside0.mk hn1
    clear MS KD hcz hcd hn1
    generalize w2.setCell ⟨w.heap.size + 1, 0, none⟩ (.int .i64 (10)) = W0 at MS' KD' ⊢
    have MS := MS'
    have KD := KD'
    clear MS' KD'
    have hcz := bcs15 MS.out.box
    have hcd := bcs12 KD.out
    have hk1 : n1.k = 10 := by rw [Hn1.out]
    go_upto_region 47 with (first | (go_at_call 60; refine (Next_c g L _ w0 _ MS.out.row MS.out.below hL (by omega) (by omega)).mono ?_; rintro e w2 ⟨r2, rfl, ha2, hb2, hI, hB', hK⟩; have MS' := Aside0.mk (MS.out.next hI hB' hK); have KD' := Aside0.mk ((hK.2 _ (blk_lt KD.out) (by omega) (by simp)).trans KD.out); clear MS KD hI hB' hK; have MS := MS'; have KD := KD'; clear MS' KD'; (try clear hcz); have hcz := bcs15 MS.out.box; (try clear hcd); have hcd := bcs12 KD.out))
    obtain ⟨n2, hn2⟩ : ∃ n_ : Nd, n_ = { n1 with mult := r2 } := ⟨_, rfl⟩
    have MS' : Aside0 (Mst (Old w A1 inn.length) w0 w (w2.setCell ⟨w.heap.size + 1, 10, none⟩ (.int .i64 (r2))) g L (w.heap.size + 1) w.heap.size n2 s0) := by rw [hn2]; exact ⟨MS.out.num hw 10 _ _ rfl rfl rfl rfl⟩
    have KD' : Aside0 ((w2.setCell ⟨w.heap.size + 1, 10, none⟩ (.int .i64 (r2))).heap[d]? = some (.cells kinds12 94 (0, 0))) := ⟨blk_far KD.out (p := ⟨w.heap.size + 1, 10, none⟩) (by show d ≠ w.heap.size + 1; omega) _⟩
    have Hn2 := Aside0.mk hn2
    clear MS KD hcz hcd hn2
    generalize w2.setCell ⟨w.heap.size + 1, 10, none⟩ (.int .i64 (r2)) = W0 at MS' KD' ⊢
    have MS := MS'
    have KD := KD'
    clear MS' KD'
    have hcz := bcs15 MS.out.box
    have hcd := bcs12 KD.out
    go_upto_region 48 with (first | (go_at_call 60; refine (Next_c g L _ w0 _ MS.out.row MS.out.below hL (by omega) (by omega)).mono ?_; rintro e w2 ⟨r3, rfl, ha3, hb3, hI, hB', hK⟩; have MS' := Aside0.mk (MS.out.next hI hB' hK); have KD' := Aside0.mk ((hK.2 _ (blk_lt KD.out) (by omega) (by simp)).trans KD.out); clear MS KD hI hB' hK; have MS := MS'; have KD := KD'; clear MS' KD'; (try clear hcz); have hcz := bcs15 MS.out.box; (try clear hcd); have hcd := bcs12 KD.out))
    obtain ⟨n3, hn3⟩ : ∃ n_ : Nd, n_ = { n2 with shift := r3 } := ⟨_, rfl⟩
    have MS' : Aside0 (Mst (Old w A1 inn.length) w0 w (w2.setCell ⟨w.heap.size + 1, 11, none⟩ (.int .i64 (r3))) g L (w.heap.size + 1) w.heap.size n3 s0) := by rw [hn3]; exact ⟨MS.out.num hw 11 _ _ rfl rfl rfl rfl⟩
    have KD' : Aside0 ((w2.setCell ⟨w.heap.size + 1, 11, none⟩ (.int .i64 (r3))).heap[d]? = some (.cells kinds12 94 (0, 0))) := ⟨blk_far KD.out (p := ⟨w.heap.size + 1, 11, none⟩) (by show d ≠ w.heap.size + 1; omega) _⟩
    have Hn3 := Aside0.mk hn3
    clear MS KD hcz hcd hn3
    generalize w2.setCell ⟨w.heap.size + 1, 11, none⟩ (.int .i64 (r3)) = W0 at MS' KD' ⊢
    have MS := MS'
    have KD := KD'
    clear MS' KD'
    have hcz := bcs15 MS.out.box
    have hcd := bcs12 KD.out
    obtain ⟨cs, hr1, hr2⟩ := MS.out.res
    go_wp2_with (first | (refine wl_box (a1 := ?_) rfl rfl rfl MS.out.box ?_ ?_; rotate_left 1; (· simp only [Act.put, List.setIfInBounds_toArray, List.set_cons_zero, List.set_cons_succ, guarded_true, i64_w, i32_w]; with_reducible rfl)) | (refine wl_stbox (n := n3) (s := s0) (a1 := ?_) rfl rfl rfl rfl hr1 hr2 ?_ ?_; rotate_left 1; (· simp only [Act.put, List.setIfInBounds_toArray, List.set_cons_zero, List.set_cons_succ]; with_reducible rfl)))
    have hi : (Tryd.prog.info? 29).map (·.size) = some (n3.cells s0).size := (show (Tryd.prog.info? 29).map (·.size) = some 15 by kernel_rfl)
    (try simp only [Exit.inBlock, Exit.then])
    refine bodyPost_ret (results_cell_row rfl _ _ w.heap.size 29 (n3.cells s0) (0, 0) _ rfl (setRow_box hr1) huN rfl hi) rfl ?_
    refine ⟨n3, s0, rfl, ?_, MS.out.at_.keep (keepRow _ _ _) MS.out.fc, MS.out.row.row_ (by omega), below_setRow MS.out.below (by omega) _, setRow_keep MS.out.keep (Nat.le_refl _), MS.out.fo⟩
    have hil := HIL.out
    rw [Hn3.out, Hn2.out, Hn1.out, Hn0.out]
    refine ⟨?_, ?_, ?_, ?_, ?_, ?_, ?_, ?_⟩
    · show 1 ≤ inn.length; omega
    · show inn.length ≤ 2; omega
    · exact Nat.zero_le _
    · exact Nat.zero_le _
    · show inB 10 1 12 = true; decide
    · rfl
    · intro h; exact absurd h (by show ¬ (rFour 10 = true); decide)
    · intro h; exact absurd h (by show ¬ ((10 : Int) = 12); decide)
  · go_upto_region 23 with (fail)
    obtain ⟨n1, hn1⟩ : ∃ n_ : Nd, n_ = { n0 with k := 11 } := ⟨_, rfl⟩
    have MS' : Aside0 (Mst (Old w A1 inn.length) w0 w (w2.setCell ⟨w.heap.size + 1, 0, none⟩ (.int .i64 (11))) g L (w.heap.size + 1) w.heap.size n1 s0) := by rw [hn1]; exact ⟨MS.out.num hw 0 _ _ rfl rfl rfl rfl⟩
    have KD' : Aside0 ((w2.setCell ⟨w.heap.size + 1, 0, none⟩ (.int .i64 (11))).heap[d]? = some (.cells kinds12 94 (0, 0))) := ⟨blk_far KD.out (p := ⟨w.heap.size + 1, 0, none⟩) (by show d ≠ w.heap.size + 1; omega) _⟩
    have Hn1 := Aside0.mk hn1
    clear MS KD hcz hcd hn1
    generalize w2.setCell ⟨w.heap.size + 1, 0, none⟩ (.int .i64 (11)) = W0 at MS' KD' ⊢
    have MS := MS'
    have KD := KD'
    clear MS' KD'
    have hcz := bcs15 MS.out.box
    have hcd := bcs12 KD.out
    have hk1 : n1.k = 11 := by rw [Hn1.out]
    obtain ⟨cs, hr1, hr2⟩ := MS.out.res
    go_wp2_with (first | (refine wl_box (a1 := ?_) rfl rfl rfl MS.out.box ?_ ?_; rotate_left 1; (· simp only [Act.put, List.setIfInBounds_toArray, List.set_cons_zero, List.set_cons_succ, guarded_true, i64_w, i32_w]; with_reducible rfl)) | (refine wl_stbox (n := n1) (s := s0) (a1 := ?_) rfl rfl rfl rfl hr1 hr2 ?_ ?_; rotate_left 1; (· simp only [Act.put, List.setIfInBounds_toArray, List.set_cons_zero, List.set_cons_succ]; with_reducible rfl)))
    have hi : (Tryd.prog.info? 29).map (·.size) = some (n1.cells s0).size := (show (Tryd.prog.info? 29).map (·.size) = some 15 by kernel_rfl)
    (try simp only [Exit.inBlock, Exit.then])
    refine bodyPost_ret (results_cell_row rfl _ _ w.heap.size 29 (n1.cells s0) (0, 0) _ rfl (setRow_box hr1) huN rfl hi) rfl ?_
    refine ⟨n1, s0, rfl, ?_, MS.out.at_.keep (keepRow _ _ _) MS.out.fc, MS.out.row.row_ (by omega), below_setRow MS.out.below (by omega) _, setRow_keep MS.out.keep (Nat.le_refl _), MS.out.fo⟩
    have hil := HIL.out
    rw [Hn1.out, Hn0.out]
    refine ⟨?_, ?_, ?_, ?_, ?_, ?_, ?_, ?_⟩
    · show 1 ≤ inn.length; omega
    · show inn.length ≤ 2; omega
    · exact Nat.zero_le _
    · exact Nat.zero_le _
    · show inB 11 1 12 = true; decide
    · rfl
    · intro h; exact absurd h (by show ¬ (rFour 11 = true); decide)
    · intro h; exact absurd h (by show ¬ ((11 : Int) = 12); decide)
  · go_upto_region 23 with (fail)
    obtain ⟨n1, hn1⟩ : ∃ n_ : Nd, n_ = { n0 with k := 6 } := ⟨_, rfl⟩
    have MS' : Aside0 (Mst (Old w A1 inn.length) w0 w (w2.setCell ⟨w.heap.size + 1, 0, none⟩ (.int .i64 (6))) g L (w.heap.size + 1) w.heap.size n1 s0) := by rw [hn1]; exact ⟨MS.out.num hw 0 _ _ rfl rfl rfl rfl⟩
    have KD' : Aside0 ((w2.setCell ⟨w.heap.size + 1, 0, none⟩ (.int .i64 (6))).heap[d]? = some (.cells kinds12 94 (0, 0))) := ⟨blk_far KD.out (p := ⟨w.heap.size + 1, 0, none⟩) (by show d ≠ w.heap.size + 1; omega) _⟩
    have Hn1 := Aside0.mk hn1
    clear MS KD hcz hcd hn1
    generalize w2.setCell ⟨w.heap.size + 1, 0, none⟩ (.int .i64 (6)) = W0 at MS' KD' ⊢
    have MS := MS'
    have KD := KD'
    clear MS' KD'
    have hcz := bcs15 MS.out.box
    have hcd := bcs12 KD.out
    have hk1 : n1.k = 6 := by rw [Hn1.out]
    go_upto_region 35 with (first | (go_at_call 60; refine (Next_c g L _ w0 _ MS.out.row MS.out.below hL (by omega) (by omega)).mono ?_; rintro e w2 ⟨r2, rfl, ha2, hb2, hI, hB', hK⟩; have MS' := Aside0.mk (MS.out.next hI hB' hK); have KD' := Aside0.mk ((hK.2 _ (blk_lt KD.out) (by omega) (by simp)).trans KD.out); clear MS KD hI hB' hK; have MS := MS'; have KD := KD'; clear MS' KD'; (try clear hcz); have hcz := bcs15 MS.out.box; (try clear hcd); have hcd := bcs12 KD.out))
    obtain ⟨n2, hn2⟩ : ∃ n_ : Nd, n_ = { n1 with wid := 1 + r2 } := ⟨_, rfl⟩
    have MS' : Aside0 (Mst (Old w A1 inn.length) w0 w (w2.setCell ⟨w.heap.size + 1, 2, none⟩ (.int .i64 (1 + r2))) g L (w.heap.size + 1) w.heap.size n2 s0) := by rw [hn2]; exact ⟨MS.out.num hw 2 _ _ rfl rfl rfl rfl⟩
    have KD' : Aside0 ((w2.setCell ⟨w.heap.size + 1, 2, none⟩ (.int .i64 (1 + r2))).heap[d]? = some (.cells kinds12 94 (0, 0))) := ⟨blk_far KD.out (p := ⟨w.heap.size + 1, 2, none⟩) (by show d ≠ w.heap.size + 1; omega) _⟩
    have Hn2 := Aside0.mk hn2
    clear MS KD hcz hcd hn2
    generalize w2.setCell ⟨w.heap.size + 1, 2, none⟩ (.int .i64 (1 + r2)) = W0 at MS' KD' ⊢
    have MS := MS'
    have KD := KD'
    clear MS' KD'
    have hcz := bcs15 MS.out.box
    have hcd := bcs12 KD.out
    have hwd : 1 ≤ n2.wid ∧ n2.wid ≤ 3 := by rw [Hn2.out]; exact ⟨by show 1 ≤ 1 + r2; omega, by show 1 + r2 ≤ 3; omega⟩
    have hm1 := mul_le n2.wid 3 (rd wl 0) 6 (by omega) hwd.2 (by omega) hv.2
    go_upto_region 36 with (first | (go_at_call 62; refine (row_c g L _ _ _ w0 _ MS.out.row MS.out.below hL (by omega) (by omega) (by omega) (by omega) (by omega)).mono ?_; rintro e w2 ⟨v, x3, rfl, hR, hx3, _, hI, hB', hK⟩; obtain ⟨A3, c3, rfl, hcc3, hC, hfar⟩ := rowfar hR; have hlt := blk_lt MS.out.box; have HC3 := Aside0.mk hC; have HF3 : Aside0 (∀ ad, A3 = some ad → 0 < x3.length → w.heap.size + 1 < ad.block) := ⟨fun ad e h => Nat.lt_of_lt_of_le hlt (hfar ad e h)⟩; clear hR hC hfar hlt; have MS' := Aside0.mk (MS.out.next hI hB' hK); have KD' := Aside0.mk ((hK.2 _ (blk_lt KD.out) (by omega) (by simp)).trans KD.out); clear MS KD hI hB' hK; have MS := MS'; have KD := KD'; clear MS' KD'; (try clear hcz); have hcz := bcs15 MS.out.box; (try clear hcd); have hcd := bcs12 KD.out))
    obtain ⟨n3, hn3⟩ : ∃ n_ : Nd, n_ = { n2 with ws := x3 } := ⟨_, rfl⟩
    obtain ⟨s1, hs1⟩ : ∃ s_ : Ns, s_ = { s0 with wa := A3, wc := c3 } := ⟨_, rfl⟩
    have MS' : Aside0 (Mst (Old w A1 inn.length) w0 w (w2.setCell ⟨w.heap.size + 1, 8, none⟩ (.slice A3 x3.length c3)) g L (w.heap.size + 1) w.heap.size n3 s1) := by
      rw [hn3, hs1]
      exact ⟨MS.out.put hw 8 _ _ _ rfl ⟨MS.out.at_.hi, MS.out.at_.ic, HC3.out, hcc3, MS.out.at_.hb, MS.out.at_.bc⟩ ⟨MS.out.fg.i, fun ad e h => by have := HF3.out ad e h; omega, MS.out.fg.b⟩ ⟨MS.out.fb.i, fun ad e h => by have := HF3.out ad e h; omega, MS.out.fb.b⟩ ⟨MS.out.fc.i, fun ad e h => by have := HF3.out ad e h; omega, MS.out.fc.b⟩ (fun k hk => ⟨(MS.out.fo k hk).i, fun ad e h => by have h1 := HF3.out ad e h; have h2 := hk.1; omega, (MS.out.fo k hk).b⟩)⟩
    have KD' : Aside0 ((w2.setCell ⟨w.heap.size + 1, 8, none⟩ (.slice A3 x3.length c3)).heap[d]? = some (.cells kinds12 94 (0, 0))) := ⟨blk_far KD.out (p := ⟨w.heap.size + 1, 8, none⟩) (by show d ≠ w.heap.size + 1; omega) _⟩
    have Hn3 := Aside0.mk hn3
    have Hs1 := Aside0.mk hs1
    have HX3 := Aside0.mk hx3
    clear MS KD hcz hcd hn3 hs1 hx3
    generalize w2.setCell ⟨w.heap.size + 1, 8, none⟩ (.slice A3 x3.length c3) = W0 at MS' KD' ⊢
    have MS := MS'
    have KD := KD'
    clear MS' KD'
    have hcz := bcs15 MS.out.box
    have hcd := bcs12 KD.out
    have hwd3 : 1 ≤ n3.wid ∧ n3.wid ≤ 3 := by rw [Hn3.out]; exact hwd
    go_upto_region 48 with (first | (go_at_call 62; refine (row_c g L _ _ _ w0 _ MS.out.row MS.out.below hL (by omega) (by omega) (by omega) (by omega) (by omega)).mono ?_; rintro e w2 ⟨v, x4, rfl, hR, hx4, _, hI, hB', hK⟩; obtain ⟨A4, c4, rfl, hcc4, hC, hfar⟩ := rowfar hR; have hlt := blk_lt MS.out.box; have HC4 := Aside0.mk hC; have HF4 : Aside0 (∀ ad, A4 = some ad → 0 < x4.length → w.heap.size + 1 < ad.block) := ⟨fun ad e h => Nat.lt_of_lt_of_le hlt (hfar ad e h)⟩; clear hR hC hfar hlt; have MS' := Aside0.mk (MS.out.next hI hB' hK); have KD' := Aside0.mk ((hK.2 _ (blk_lt KD.out) (by omega) (by simp)).trans KD.out); clear MS KD hI hB' hK; have MS := MS'; have KD := KD'; clear MS' KD'; (try clear hcz); have hcz := bcs15 MS.out.box; (try clear hcd); have hcd := bcs12 KD.out))
    obtain ⟨n4, hn4⟩ : ∃ n_ : Nd, n_ = { n3 with bs := x4 } := ⟨_, rfl⟩
    obtain ⟨s2, hs2⟩ : ∃ s_ : Ns, s_ = { s1 with ba := A4, bc := c4 } := ⟨_, rfl⟩
    have MS' : Aside0 (Mst (Old w A1 inn.length) w0 w (w2.setCell ⟨w.heap.size + 1, 9, none⟩ (.slice A4 x4.length c4)) g L (w.heap.size + 1) w.heap.size n4 s2) := by
      rw [hn4, hs2]
      exact ⟨MS.out.put hw 9 _ _ _ rfl ⟨MS.out.at_.hi, MS.out.at_.ic, MS.out.at_.hw, MS.out.at_.wc, HC4.out, hcc4⟩ ⟨MS.out.fg.i, MS.out.fg.w, fun ad e h => by have := HF4.out ad e h; omega⟩ ⟨MS.out.fb.i, MS.out.fb.w, fun ad e h => by have := HF4.out ad e h; omega⟩ ⟨MS.out.fc.i, MS.out.fc.w, fun ad e h => by have := HF4.out ad e h; omega⟩ (fun k hk => ⟨(MS.out.fo k hk).i, (MS.out.fo k hk).w, fun ad e h => by have h1 := HF4.out ad e h; have h2 := hk.1; omega⟩)⟩
    have KD' : Aside0 ((w2.setCell ⟨w.heap.size + 1, 9, none⟩ (.slice A4 x4.length c4)).heap[d]? = some (.cells kinds12 94 (0, 0))) := ⟨blk_far KD.out (p := ⟨w.heap.size + 1, 9, none⟩) (by show d ≠ w.heap.size + 1; omega) _⟩
    have Hn4 := Aside0.mk hn4
    have Hs2 := Aside0.mk hs2
    have HX4 := Aside0.mk hx4
    clear MS KD hcz hcd hn4 hs2 hx4
    generalize w2.setCell ⟨w.heap.size + 1, 9, none⟩ (.slice A4 x4.length c4) = W0 at MS' KD' ⊢
    have MS := MS'
    have KD := KD'
    clear MS' KD'
    have hcz := bcs15 MS.out.box
    have hcd := bcs12 KD.out
    obtain ⟨cs, hr1, hr2⟩ := MS.out.res
    go_wp2_with (first | (refine wl_box (a1 := ?_) rfl rfl rfl MS.out.box ?_ ?_; rotate_left 1; (· simp only [Act.put, List.setIfInBounds_toArray, List.set_cons_zero, List.set_cons_succ, guarded_true, i64_w, i32_w]; with_reducible rfl)) | (refine wl_stbox (n := n4) (s := s2) (a1 := ?_) rfl rfl rfl rfl hr1 hr2 ?_ ?_; rotate_left 1; (· simp only [Act.put, List.setIfInBounds_toArray, List.set_cons_zero, List.set_cons_succ]; with_reducible rfl)))
    have hi : (Tryd.prog.info? 29).map (·.size) = some (n4.cells s2).size := (show (Tryd.prog.info? 29).map (·.size) = some 15 by kernel_rfl)
    (try simp only [Exit.inBlock, Exit.then])
    refine bodyPost_ret (results_cell_row rfl _ _ w.heap.size 29 (n4.cells s2) (0, 0) _ rfl (setRow_box hr1) huN rfl hi) rfl ?_
    refine ⟨n4, s2, rfl, ?_, MS.out.at_.keep (keepRow _ _ _) MS.out.fc, MS.out.row.row_ (by omega), below_setRow MS.out.below (by omega) _, setRow_keep MS.out.keep (Nat.le_refl _), MS.out.fo⟩
    have hil := HIL.out
    have hx3 := HX3.out
    have hx4 := HX4.out
    rw [Hn4.out]
    refine ⟨?_, ?_, ?_, ?_, ?_, ?_, ?_, ?_⟩
    · rw [Hn3.out, Hn2.out, Hn1.out, Hn0.out]; show 1 ≤ inn.length; omega
    · rw [Hn3.out, Hn2.out, Hn1.out, Hn0.out]; show inn.length ≤ 2; omega
    · rw [Hn3.out]; show x3.length ≤ 4000; omega
    · show x4.length ≤ 4000; omega
    · rw [Hn3.out, Hn2.out, Hn1.out]; show inB 6 1 12 = true; decide
    · rw [Hn3.out, Hn2.out, Hn1.out, Hn0.out]
    · intro h; rw [Hn3.out, Hn2.out, Hn1.out] at h; exact absurd h (by show ¬ (rFour 6 = true); decide)
    · intro h; rw [Hn3.out, Hn2.out, Hn1.out] at h; exact absurd h (by show ¬ ((6 : Int) = 12); decide)
end Go.Proofs.YtohhaonjckfkaaaDoor.Hand
