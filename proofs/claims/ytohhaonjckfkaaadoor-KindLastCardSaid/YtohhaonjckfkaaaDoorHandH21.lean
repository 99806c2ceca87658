/- Contracts of Go functions that the laws of this seat reach, by hand: each call returns what the Lean function of its name tells. Conditions: those that each theorem names, none else. -/
import Derived.Test.YtohhaonjckfkaaaDoorHandHP
import Derived.Test.YtohhaonjckfkaaaDoorHandH19
import Derived.Test.YtohhaonjckfkaaaDoorHandH20
namespace Go.Proofs.YtohhaonjckfkaaaDoor.Hand
open Go.RowKit Go.Proofs.YtohhaonjckfkaaaDoorW.PrintWords Go.Proofs.YtohhaonjckfkaaaDoorW.PrintLast Go.Proofs.YtohhaonjckfkaaaDoorW.PrintMore
attribute [local go_sem] max2_int min2_int max_two min_two max_three min_three max_four min_four
set_option linter.unusedVariables false
set_option linter.unusedSimpArgs false

attribute [local go_sem] guarded_true
theorem bcs3 {w : World} {g : Nat} {t : TypeId} {c0 c1 c2 : Value} (h : w.heap[g]? = some (.cells #[c0, c1, c2] t (0, 0))) : (w.cell? ⟨g, 0, none⟩ = some c0 ∧ w.cell? ⟨g, 1, none⟩ = some c1 ∧ w.cell? ⟨g, 2, none⟩ = some c2) ∧ w.frozen? ⟨g, 0, none⟩ = false ∧ w.frozen? ⟨g, 1, none⟩ = false ∧ w.frozen? ⟨g, 2, none⟩ = false := ⟨⟨(blk_cell h 0).trans rfl, (blk_cell h 1).trans rfl, (blk_cell h 2).trans rfl⟩, blk_frozen h 0, blk_frozen h 1, blk_frozen h 2⟩
/-- what made knows: its own row lies in the first block, its result's node in the second -/
structure Sst (A0 : Option Addr) (m c0 : Nat) (wd : Int) (two : Bool) (w W : World) : Prop where
  bel : Below w.heap.size w W
  q : W.heap[w.heap.size]? = some (.cells #[.slice A0 m c0, .int .i64 wd, .bool two] 24 (0, 0))
  res : W.heap[w.heap.size + 1]? = some (zN.box zS)
section
variable {A0 : Option Addr} {m c0 : Nat} {wd : Int} {two : Bool} {w W W' : World}
theorem Sst.alloc (h : Sst A0 m c0 wd two w W) (o : Obj) : Sst A0 m c0 wd two w (W.alloc o) := ⟨below_alloc h.bel _, blk_alloc h.q _, blk_alloc h.res _⟩
theorem Sst.bel' (h : Sst A0 m c0 wd two w W) (hb : Below W.heap.size W W') : Sst A0 m c0 wd two w W' := ⟨below_step h.bel hb, blk_below h.q hb, blk_below h.res hb⟩
theorem Sst.size (h : Sst A0 m c0 wd two w W) : w.heap.size + 2 ≤ W.heap.size := blk_lt h.res
theorem Sst.keep (h : Sst A0 m c0 wd two w W) {g : Nat} (hb : Below w.heap.size w W') (hk : KeepBut W W' g none) (hg : w.heap.size + 2 ≤ g) : Sst A0 m c0 wd two w W' :=
  ⟨hb, (hk.2 _ (blk_lt h.q) (by omega) (by simp)).trans h.q, (hk.2 _ (blk_lt h.res) (by omega) (by simp)).trans h.res⟩
end
theorem C2b {W : World} {b : Nat} {x y : Int} {t : TypeId} (h : W.heap[b]? = some (.cells #[.int .i64 x, .int .i64 y] t (0, 0))) : Kd.C (Kd.int .i64) W (some ⟨b, 0, none⟩) 2 [x, y] :=
  Kd.C_of_reads (d := (0 : Int)) (h1 := fun _ => rfl) ⟨rfl, by decide, fun _ => ⟨_, rfl, fun j hj => by
    have h : j = 0 ∨ j = 1 := by have : j < 2 := hj; omega
    rcases h with rfl | rfl
    · rw [Addr.add_zero']
      exact (blk_cell h 0).trans rfl
    · rw [Addr.add, if_neg (by decide)]
      exact (blk_cell h 1).trans rfl⟩⟩
theorem RowAt.alloc {w0 W : World} {g : Nat} {L : List Int} (h : RowAt w0 W g L) (o : Obj) : RowAt w0 (W.alloc o) g L := by
  obtain ⟨a_, hI, ha⟩ := h
  exact ⟨a_, hI.alloc _, ha⟩
theorem RowAt.bel {w0 W W' : World} {g : Nat} {L : List Int} (h : RowAt w0 W g L) (hb : Below W.heap.size W W') : RowAt w0 W' g L := by
  obtain ⟨a_, hI, ha⟩ := h
  exact ⟨a_, hI.below hb, ha⟩
theorem made1_x (b1 b2 : Nat) (x : Int) (g : Nat) (L : List Int) (w0 w : World) (hI : RowAt w0 w g L) (hB : Below w0.heap.size w0 w) (hL : L.length ≤ 4096) (hw : w0.heap.size ≤ w.heap.size) (hg : g < w.heap.size) (h1 : b1 ≠ g)
    (hk1 : w.heap[b1]? = some (.cells #[.int .i64 0] 3 (0, 0))) (hk2 : w.heap[b2]? = some (.cells #[.int .i64 x] 3 (0, 0))) (hx : 1 ≤ x ∧ x ≤ 6) :
    Calls Tryd.prog 36 #[.pointer (some ⟨g, 0, none⟩), .slice (some ⟨b1, 0, none⟩) 1 1, .slice (some ⟨b2, 0, none⟩) 1 1, .bool false] w fun e w' => ∃ n' s', e = .returned (n'.val s') ∧ Fine n' ∧ n'.At s' w' ∧ RowAt w0 w' g L ∧ Below w0.heap.size w0 w' ∧ KeepBut w w' g none ∧ (∀ k, Old w (some ⟨b1, 0, none⟩) 1 k → Far n' s' k) :=
  Made1_c (some ⟨b1, 0, none⟩) 1 [0] (some ⟨b2, 0, none⟩) 1 [x] g L w0 w hI hB hL hw hg (C1b hk1) (Nat.le_refl _) (fun ad e _ => by cases e; exact ⟨h1, blk_lt hk1⟩) (C1b hk2) rfl rfl hx
theorem made2_x (b1 b2 : Nat) (x y : Int) (g : Nat) (L : List Int) (w0 w : World) (hI : RowAt w0 w g L) (hB : Below w0.heap.size w0 w) (hL : L.length ≤ 4096) (hw : w0.heap.size ≤ w.heap.size) (hg : g < w.heap.size) (h1 : b1 ≠ g)
    (hk1 : w.heap[b1]? = some (.cells #[.int .i64 0, .int .i64 1] 3 (0, 0))) (hk2 : w.heap[b2]? = some (.cells #[.int .i64 x, .int .i64 y] 3 (0, 0))) (hx : 1 ≤ x ∧ x ≤ 16) (hy : 1 ≤ y ∧ y ≤ 16) (hxy : x + y ≤ 16) :
    Calls Tryd.prog 36 #[.pointer (some ⟨g, 0, none⟩), .slice (some ⟨b1, 0, none⟩) 2 2, .slice (some ⟨b2, 0, none⟩) 2 2, .bool false] w fun e w' => ∃ n' s', e = .returned (n'.val s') ∧ Fine n' ∧ n'.At s' w' ∧ RowAt w0 w' g L ∧ Below w0.heap.size w0 w' ∧ KeepBut w w' g none ∧ (∀ k, Old w (some ⟨b1, 0, none⟩) 2 k → Far n' s' k) :=
  Made2_c (some ⟨b1, 0, none⟩) 2 [0, 1] (some ⟨b2, 0, none⟩) 2 x y g L w0 w hI hB hL hw hg (C2b hk1) (Nat.le_refl _) (fun ad e _ => by cases e; exact ⟨h1, blk_lt hk1⟩) (C2b hk2) rfl hx hy hxy
set_option maxHeartbeats 8000000 in
set_option maxRecDepth 100000 in
theorem made_c (A0 : Option Addr) (c0 : Nat) (l : List Int) (wd : Int) (two : Bool) (w : World) (hr : Kd.C (Kd.int .i64) w A0 l.length l) (hc : l.length ≤ c0) :
    Calls Tryd.prog 15 #[.agg #[.slice A0 l.length c0, .int .i64 wd, .bool two]] w fun e w' => ∃ n' s' A c xs, e = .returned (.tuple #[n'.val s', .slice A xs.length c]) ∧ Fine n' ∧ n'.At s' w' ∧ Kd.C (Kd.int .i64) w' A xs.length xs ∧ xs.length ≤ c ∧ 1 ≤ xs.length ∧ xs.length ≤ 2 ∧ Below w.heap.size w w' ∧ (∀ k, k < w.heap.size → Far n' s' k) := by
  have huN := Tryd.underlying29
  have HR := Aside0.mk hr
  clear hr
  go_enter Tryd.func15, Tryd.ntmps15
  go_upto_region 1 with (fail)
  rw [zbox]
  have SS : Aside0 (Sst A0 l.length c0 wd two w ((w.alloc (.cells #[.slice A0 l.length c0, .int .i64 wd, .bool two] 24)).alloc (zN.box zS))) :=
    ⟨⟨below_alloc (below_alloc (Below.refl _ _) _) _, blk_alloc (blk_new w _) _, by have h := blk_new (w.alloc (.cells #[.slice A0 l.length c0, .int .i64 wd, .bool two] 24)) (zN.box zS); rwa [size_alloc] at h⟩⟩
  generalize (w.alloc (.cells #[.slice A0 l.length c0, .int .i64 wd, .bool two] 24)).alloc (zN.box zS) = W0 at SS ⊢
  have hcq := bcs3 SS.out.q
  have hx : 1 ≤ wrap64 (1 + Int.tmod (wrap64 (Int.tmod wd 6 + 6)) 6) ∧ wrap64 (1 + Int.tmod (wrap64 (Int.tmod wd 6 + 6)) 6) ≤ 6 := by
    have t1 := tmod_range wd 6 (by decide)
    have t2 := tmod_range (Int.tmod wd 6 + 6) 6 (by decide)
    have t3 : 0 ≤ Int.tmod (Int.tmod wd 6 + 6) 6 := Int.tmod_nonneg _ (by omega)
    rw [w64 (x := Int.tmod wd 6 + 6) (by omega) (by omega), w64 (by omega) (by omega)]
    omega
  by_cases h80 : 80 < l.length
  · have hR2 := Kd.C_take HR.out (m := 80) (by omega)
    have hM : (l.take 80).length = 80 := by rw [List.length_take]; omega
    go_upto_region 5 with (fail)
    have hsz := SS.out.size
    obtain ⟨L, hL4, RW⟩ : ∃ L : List Int, L.length ≤ 4096 ∧ Aside0 (RowAt w (W0.alloc (.cells #[.slice A0 80 c0, .int .i64 0] 69)) W0.heap.size L) :=
      ⟨l.take 80, by omega, ⟨⟨0, ⟨A0, c0, by rw [hM]; exact blk_new W0 _, by omega, hR2⟩, Int.le_refl _, by omega⟩⟩⟩
    go_upto_region 6 with (fail)
    have SS' := Aside0.mk (SS.out.alloc (.cells #[.slice A0 80 c0, .int .i64 0] 69))
    have hg : W0.heap.size < (W0.alloc (.cells #[.slice A0 80 c0, .int .i64 0] 69)).heap.size := by rw [size_alloc]; omega
    clear SS hcq hR2
    generalize (W0.alloc (.cells #[.slice A0 80 c0, .int .i64 0] 69)) = W1 at RW SS' hg ⊢
    generalize W0.heap.size = g at RW hg hsz ⊢
    have SS := SS'
    clear SS'
    have hcq := bcs3 SS.out.q
    generalize wrap64 (1 + Int.tmod (wrap64 (Int.tmod wd 6 + 6)) 6) = x at hx ⊢
    cases two
    · go_upto_region 12 with (fail)
      have hs1 : (W1.alloc (.cells #[.int .i64 0] 3)).heap.size = W1.heap.size + 1 := size_alloc _ _
      have hb := SS.out.bel.size
      go_wp2_with (first | (go_at_call 36; refine (made1_x W1.heap.size (W1.heap.size + 1) x g L w _ (RowAt.alloc (RowAt.alloc RW.out _) _) (below_alloc (below_alloc SS.out.bel _) _) hL4 (Nat.le_trans hb (Nat.le_trans (Nat.le_of_lt (by rw [hs1]; exact Nat.lt_succ_self _)) (Below.alloc_size _ _))) (Nat.lt_trans hg (by rw [size_alloc, hs1]; omega)) (by omega) (blk_alloc (blk_new W1 _) _) (by rw [← hs1]; exact blk_new _ _) hx).mono ?_; rintro e w2 ⟨n, s, rfl, hF, hA, hRo, hB2, hK, hO⟩; refine halt_ ?_))
      have SS2 := Aside0.mk (((SS.out.alloc (.cells #[.int .i64 0] 3)).alloc (.cells #[.int .i64 x] 3)).keep hB2 hK hsz)
      have hFar : ∀ k, k ≤ w.heap.size + 1 → Far n s k := fun k hk => hO k ⟨by rw [size_alloc, size_alloc]; omega, fun ad e _ => by cases e; show W1.heap.size ≠ k; omega⟩
      clear SS RW hRo hB2 hK hO hcq
      have HA := Aside0.mk hA
      clear hA
      unfold Halt
      go_wp2_with (first | (refine wl_stbox (n := n) (s := s) (a1 := ?_) rfl rfl rfl rfl (blk_alloc SS2.out.res _) rfl ?_ ?_; rotate_left 1; (· simp only [Act.put, List.setIfInBounds_toArray, List.set_cons_zero, List.set_cons_succ]; with_reducible rfl)))
      have hi : (Tryd.prog.info? 29).map (·.size) = some (n.cells s).size := (show (Tryd.prog.info? 29).map (·.size) = some 15 by kernel_rfl)
      (try simp only [Exit.inBlock, Exit.then])
      refine bodyPost_ret (results_ct rfl _ _ (w.heap.size + 1) 29 (n.cells s) (0, 0) _ rfl (setRow_box (blk_alloc SS2.out.res _)) huN rfl hi) rfl ?_
      refine ⟨n, s, some ⟨w2.heap.size, 0, none⟩, 1, [x], rfl, hF, (HA.out.below (below_alloc (Below.refl _ _) _)).keep (keepRow _ _ _) (hFar _ (Nat.le_refl _)), ?_, Nat.le_refl _, Nat.le_refl _, Nat.le_succ _, below_setRow (below_alloc SS2.out.bel _) (Nat.le_succ _) _, fun k hk => hFar k (by omega)⟩
      exact C1b (setRow_far (blk_new w2 _) (by have := SS2.out.size; omega))
    · go_upto_region 8 with (fail)
      have SS' := Aside0.mk (SS.out.alloc (.cells #[.int .i64 x, .int .i64 x] 3))
      have RW' := Aside0.mk (RowAt.alloc RW.out (.cells #[.int .i64 x, .int .i64 x] 3))
      have hk7 := blk_new W1 (.cells #[.int .i64 x, .int .i64 x] 3)
      have hb7 : W1.heap.size ≠ g := by omega
      have hb71 : W1.heap.size ≠ w.heap.size + 1 := by omega
      have hg' : g < (W1.alloc (.cells #[.int .i64 x, .int .i64 x] 3)).heap.size := by rw [size_alloc]; omega
      clear SS RW hcq hg
      generalize W1.alloc (.cells #[.int .i64 x, .int .i64 x] 3) = W3 at SS' RW' hk7 hg' ⊢
      generalize W1.heap.size = b7 at hk7 hb7 hb71 ⊢
      have SS := SS'
      have RW := RW'
      have hg := hg'
      clear SS' RW' hg'
      have hcq := bcs3 SS.out.q
      by_cases hneg : wd < 0
      · have hnb : decide (wd < 0) = true := decide_eq_true hneg
        go_upto_region 10 with (fail)
        have SS' := Aside0.mk (SS.out.alloc (.cells #[.int .i64 x, .int .i64 1] 3))
        have RW' := Aside0.mk (RowAt.alloc RW.out (.cells #[.int .i64 x, .int .i64 1] 3))
        clear hk7 hb7 hb71
        have hk7 := blk_new W3 (.cells #[.int .i64 x, .int .i64 1] 3)
        have hb7 : W3.heap.size ≠ g := by omega
        have hb71 : W3.heap.size ≠ w.heap.size + 1 := by omega
        have hg' : g < (W3.alloc (.cells #[.int .i64 x, .int .i64 1] 3)).heap.size := by rw [size_alloc]; omega
        clear SS RW hcq hg
        generalize W3.alloc (.cells #[.int .i64 x, .int .i64 1] 3) = W4 at SS' RW' hk7 hg' ⊢
        generalize W3.heap.size = b8 at hk7 hb7 hb71 ⊢
        have SS := SS'
        have RW := RW'
        have hg := hg'
        clear SS' RW' hg'
        have hcq := bcs3 SS.out.q
        have SSx := SS
        go_wp2_with (first | (go_at_call 36; refine (made2_x W4.heap.size b8 x 1 g L w _ (RowAt.alloc RW.out _) (below_alloc SS.out.bel _) hL4 (Nat.le_trans SS.out.bel.size (Below.alloc_size _ _)) (Nat.lt_trans hg (by rw [size_alloc]; omega)) (by omega) (blk_new W4 _) (blk_alloc hk7 _) (by omega) (by omega) (by omega)).mono ?_; rintro e w2 ⟨n, s, rfl, hF, hA, hRo, hB2, hK, hO⟩; refine halt_ ?_))
        have SS2 := Aside0.mk ((SS.out.alloc (.cells #[.int .i64 0, .int .i64 1] 3)).keep hB2 hK hsz)
        have hFar : ∀ k, k ≤ w.heap.size + 1 → Far n s k := fun k hk => hO k ⟨by rw [size_alloc]; omega, fun ad e _ => by cases e; show W4.heap.size ≠ k; omega⟩
        have HK7 := Aside0.mk ((hK.2 b8 (by rw [size_alloc]; have := blk_lt hk7; omega) hb7 (by simp)).trans (blk_alloc hk7 _))
        clear SS SSx RW hRo hB2 hK hO hcq hk7
        have HA := Aside0.mk hA
        clear hA
        unfold Halt
        go_upto_region 11 with (first | (refine wl_stbox (n := n) (s := s) (a1 := ?_) rfl rfl rfl rfl (blk_new w2 _) rfl ?_ ?_; rotate_left 1; (· simp only [Act.put, List.setIfInBounds_toArray, List.set_cons_zero, List.set_cons_succ]; with_reducible rfl)))
        have HB5 := Aside0.mk (below_setRow (g := w2.heap.size) (below_alloc (Below.refl w2.heap.size w2) (zN.box zS)) (Nat.le_refl _) (n.cells s))
        have hk8 := setRow_box (n := n) (s := s) (blk_new w2 (zN.box zS))
        have HA5 := Aside0.mk (HA.out.below HB5.out)
        have SS5 := Aside0.mk (SS2.out.bel' HB5.out)
        have HK5 := Aside0.mk (blk_below HK7.out HB5.out)
        have hK0 := SS2.out.res
        have hsz2 := SS2.out.size
        clear HA SS2 HK7 HB5
        rw [zbox]
        generalize (w2.alloc (zN.box zS)).setRow w2.heap.size (n.cells s) = W5 at hk8 HA5 SS5 HK5 ⊢
        generalize w2.heap.size = d at hk8 hsz2 ⊢
        have hni : n.inn.length ≤ 2 := hF.i
        have hn0 := hF.i0
        have hn2 : ((n.inn.length : Int) ≤ 2) = True := eq_true (by omega)
        have hn3 : (0 ≤ (n.inn.length : Int)) = True := eq_true (by omega)
        have hn4 : (n.inn.length ≤ 2) = True := eq_true hni
        have hdn : d ≠ w.heap.size + 1 := by omega
        refine pl_ (id := 11) (S := fun W' => KeepBut W5 W' (w.heap.size + 1) none ∧ Below w.heap.size w W' ∧ ∃ cs, W'.heap[w.heap.size + 1]? = some (.cells cs 29 (0, 0)) ∧ cs.size = 15) (.p 0 (.p 1 (.p 2 (.p 3 (.p 4 (.p 5 (.c 6 (.l [7])))))))) [7] (by kernel_rfl) (by kernel_rfl) ⟨⟨(below_drew1 (Below.refl W5.heap.size W5)).size, fun i hi _ _ => (below_drew1 (Below.refl W5.heap.size W5)).block i hi⟩, below_step SS5.out.bel (below_drew1 (Below.refl _ _)), zN.cells zS, blk_drew SS5.out.res, rfl⟩ ?_
        intro w3 hS
        (refine pl_p (v := ?_) (a1 := ?_) (by simp only [List.getElem?_toArray, List.getElem?_cons_zero, List.getElem?_cons_succ]; rfl) rfl ?_ ?_ ?_ ?_; rotate_left 2; (· intro w_ hS_; obtain ⟨hk_, hb_, cs_, hc_, hz_⟩ := hS_; have h8_ := (hk_.2 d (blk_lt hk8) hdn (by simp)).trans hk8; refine (run_box _ _ rfl rfl h8_).trans ?_; with_reducible rfl); (· simp only [Act.put, List.setIfInBounds_toArray, List.set_cons_zero, List.set_cons_succ, guarded_true, i64_w, i32_w]; with_reducible rfl); (· exact fun _ _ _ h => h))
        (refine pl_p (v := ?_) (a1 := ?_) (by simp only [List.getElem?_toArray, List.getElem?_cons_zero, List.getElem?_cons_succ]; rfl) rfl ?_ ?_ ?_ ?_; rotate_left 2; (· intro w_ hS_; obtain ⟨hk_, hb_, cs_, hc_, hz_⟩ := hS_; have h8_ := (hk_.2 d (blk_lt hk8) hdn (by simp)).trans hk8; have hcz := bcs15 h8_; go_simp; with_reducible rfl); (· simp only [Act.put, List.setIfInBounds_toArray, List.set_cons_zero, List.set_cons_succ, guarded_true, i64_w, i32_w]; with_reducible rfl); (· exact fun _ _ _ h => h))
        (refine pl_p (v := ?_) (a1 := ?_) (by simp only [List.getElem?_toArray, List.getElem?_cons_zero, List.getElem?_cons_succ]; rfl) rfl ?_ ?_ ?_ ?_; rotate_left 2; (· intro w_ hS_; obtain ⟨hk_, hb_, cs_, hc_, hz_⟩ := hS_; have h8_ := (hk_.2 d (blk_lt hk8) hdn (by simp)).trans hk8; have hcz := bcs15 h8_; go_simp; with_reducible rfl); (· simp only [Act.put, List.setIfInBounds_toArray, List.set_cons_zero, List.set_cons_succ, guarded_true, i64_w, i32_w]; with_reducible rfl); (· exact fun _ _ _ h => h))
        (refine pl_p (v := ?_) (a1 := ?_) (by simp only [List.getElem?_toArray, List.getElem?_cons_zero, List.getElem?_cons_succ]; rfl) rfl ?_ ?_ ?_ ?_; rotate_left 2; (· intro w_ hS_; obtain ⟨hk_, hb_, cs_, hc_, hz_⟩ := hS_; have h8_ := (hk_.2 d (blk_lt hk8) hdn (by simp)).trans hk8; have hcz := bcs15 h8_; go_simp; with_reducible rfl); (· simp only [Act.put, List.setIfInBounds_toArray, List.set_cons_zero, List.set_cons_succ, guarded_true, i64_w, i32_w]; with_reducible rfl); (· exact fun _ _ _ h => h))
        (refine pl_p (v := ?_) (a1 := ?_) (by simp only [List.getElem?_toArray, List.getElem?_cons_zero, List.getElem?_cons_succ]; rfl) rfl ?_ ?_ ?_ ?_; rotate_left 2; (· intro w_ hS_; obtain ⟨hk_, hb_, cs_, hc_, hz_⟩ := hS_; have h8_ := (hk_.2 d (blk_lt hk8) hdn (by simp)).trans hk8; have hcz := bcs15 h8_; go_simp; with_reducible rfl); (· simp only [Act.put, List.setIfInBounds_toArray, List.set_cons_zero, List.set_cons_succ, guarded_true, i64_w, i32_w]; with_reducible rfl); (· exact fun _ _ _ h => h))
        (refine pl_p (v := ?_) (a1 := ?_) (by simp only [List.getElem?_toArray, List.getElem?_cons_zero, List.getElem?_cons_succ]; rfl) rfl ?_ ?_ ?_ ?_; rotate_left 2; (· intro w_ hS_; obtain ⟨hk_, hb_, cs_, hc_, hz_⟩ := hS_; have h8_ := (hk_.2 d (blk_lt hk8) hdn (by simp)).trans hk8; have hcz := bcs15 h8_; go_simp; with_reducible rfl); (· simp only [Act.put, List.setIfInBounds_toArray, List.set_cons_zero, List.set_cons_succ, guarded_true, i64_w, i32_w]; with_reducible rfl); (· exact fun _ _ _ h => h))
        obtain ⟨hk, hb, cs, hc, hz⟩ := hS
        have hS1 : KeepBut W5 (w3.setRow (w.heap.size + 1) (n.cells s)) (w.heap.size + 1) none ∧ Below w.heap.size w (w3.setRow (w.heap.size + 1) (n.cells s)) := ⟨KeepBut.trans hk (keepRow _ _ _) (.inl rfl), below_setRow hb (Nat.le_succ _) _⟩
        have hk9 := setRow_box (n := n) (s := s) hc
        refine pl_c ?_
        refine st_s (w1 := w3.setRow (w.heap.size + 1) (n.cells s)) (a1 := ?_) (by simp only [List.getElem?_toArray, List.getElem?_cons_zero, List.getElem?_cons_succ]; rfl) rfl (run_stbox n s rfl rfl rfl hc hz) ?_ ⟨⟨hS1.1, hS1.2, n.cells s, hk9, rfl⟩, ?_⟩
        rotate_left 1
        (· simp only [Act.put, List.setIfInBounds_toArray, List.set_cons_zero, List.set_cons_succ, guarded_true, i64_w, i32_w]; with_reducible rfl)
        generalize w3.setRow (w.heap.size + 1) (n.cells s) = W6 at hS1 hk9 ⊢
        clear hk hb hc hz
        refine pl_l ?_
        refine st_v (v := .slice (some ⟨b8, 0, none⟩) n.inn.length 2) (w1 := W6) (a1 := ?_) (by simp only [List.getElem?_toArray, List.getElem?_cons_zero, List.getElem?_cons_succ]; rfl) rfl (by go_simp) ?_ ⟨trivial, ?_⟩
        rotate_left 1
        (· simp only [Act.put, List.setIfInBounds_toArray, List.set_cons_zero, List.set_cons_succ, guarded_true, i64_w, i32_w]; with_reducible rfl)
        refine l_e ?_
        go_wp2
        have hi : (Tryd.prog.info? 29).map (·.size) = some (n.cells s).size := (show (Tryd.prog.info? 29).map (·.size) = some 15 by kernel_rfl)
        (try simp only [Exit.inBlock, Exit.then])
        refine bodyPost_ret (results_ct rfl _ _ (w.heap.size + 1) 29 (n.cells s) (0, 0) _ rfl hk9 huN rfl hi) rfl ?_
        have hxl : (([x, 1] : List Int).take n.inn.length).length = n.inn.length := by rw [List.length_take]; show min n.inn.length 2 = _; omega
        have hK9 : W6.heap[b8]? = some (.cells #[.int .i64 x, .int .i64 1] 3 (0, 0)) := (hS1.1.2 b8 (blk_lt HK5.out) hb71 (by simp)).trans HK5.out
        refine ⟨n, s, some ⟨b8, 0, none⟩, 2, ([x, 1] : List Int).take n.inn.length, by rw [hxl]; rfl, hF, HA5.out.keep hS1.1 (hFar _ (Nat.le_refl _)), ?_, by omega, by omega, by omega, hS1.2, fun k hk => hFar k (by omega)⟩
        exact Kd.C_take (xs := [x, 1]) (C2b hK9) hni
      · have hnb : decide (wd < 0) = false := decide_eq_false hneg
        go_upto_region 10 with (fail)
        have SSx := SS
        go_wp2_with (first | (go_at_call 36; refine (made2_x W3.heap.size b7 x x g L w _ (RowAt.alloc RW.out _) (below_alloc SS.out.bel _) hL4 (Nat.le_trans SS.out.bel.size (Below.alloc_size _ _)) (Nat.lt_trans hg (by rw [size_alloc]; omega)) (by omega) (blk_new W3 _) (blk_alloc hk7 _) (by omega) (by omega) (by omega)).mono ?_; rintro e w2 ⟨n, s, rfl, hF, hA, hRo, hB2, hK, hO⟩; refine halt_ ?_))
        have SS2 := Aside0.mk ((SS.out.alloc (.cells #[.int .i64 0, .int .i64 1] 3)).keep hB2 hK hsz)
        have hFar : ∀ k, k ≤ w.heap.size + 1 → Far n s k := fun k hk => hO k ⟨by rw [size_alloc]; omega, fun ad e _ => by cases e; show W3.heap.size ≠ k; omega⟩
        have HK7 := Aside0.mk ((hK.2 b7 (by rw [size_alloc]; have := blk_lt hk7; omega) hb7 (by simp)).trans (blk_alloc hk7 _))
        clear SS SSx RW hRo hB2 hK hO hcq hk7
        have HA := Aside0.mk hA
        clear hA
        unfold Halt
        go_upto_region 11 with (first | (refine wl_stbox (n := n) (s := s) (a1 := ?_) rfl rfl rfl rfl (blk_new w2 _) rfl ?_ ?_; rotate_left 1; (· simp only [Act.put, List.setIfInBounds_toArray, List.set_cons_zero, List.set_cons_succ]; with_reducible rfl)))
        have HB5 := Aside0.mk (below_setRow (g := w2.heap.size) (below_alloc (Below.refl w2.heap.size w2) (zN.box zS)) (Nat.le_refl _) (n.cells s))
        have hk8 := setRow_box (n := n) (s := s) (blk_new w2 (zN.box zS))
        have HA5 := Aside0.mk (HA.out.below HB5.out)
        have SS5 := Aside0.mk (SS2.out.bel' HB5.out)
        have HK5 := Aside0.mk (blk_below HK7.out HB5.out)
        have hK0 := SS2.out.res
        have hsz2 := SS2.out.size
        clear HA SS2 HK7 HB5
        rw [zbox]
        generalize (w2.alloc (zN.box zS)).setRow w2.heap.size (n.cells s) = W5 at hk8 HA5 SS5 HK5 ⊢
        generalize w2.heap.size = d at hk8 hsz2 ⊢
        have hni : n.inn.length ≤ 2 := hF.i
        have hn0 := hF.i0
        have hn2 : ((n.inn.length : Int) ≤ 2) = True := eq_true (by omega)
        have hn3 : (0 ≤ (n.inn.length : Int)) = True := eq_true (by omega)
        have hn4 : (n.inn.length ≤ 2) = True := eq_true hni
        have hdn : d ≠ w.heap.size + 1 := by omega
        refine pl_ (id := 11) (S := fun W' => KeepBut W5 W' (w.heap.size + 1) none ∧ Below w.heap.size w W' ∧ ∃ cs, W'.heap[w.heap.size + 1]? = some (.cells cs 29 (0, 0)) ∧ cs.size = 15) (.p 0 (.p 1 (.p 2 (.p 3 (.p 4 (.p 5 (.c 6 (.l [7])))))))) [7] (by kernel_rfl) (by kernel_rfl) ⟨⟨(below_drew1 (Below.refl W5.heap.size W5)).size, fun i hi _ _ => (below_drew1 (Below.refl W5.heap.size W5)).block i hi⟩, below_step SS5.out.bel (below_drew1 (Below.refl _ _)), zN.cells zS, blk_drew SS5.out.res, rfl⟩ ?_
        intro w3 hS
        (refine pl_p (v := ?_) (a1 := ?_) (by simp only [List.getElem?_toArray, List.getElem?_cons_zero, List.getElem?_cons_succ]; rfl) rfl ?_ ?_ ?_ ?_; rotate_left 2; (· intro w_ hS_; obtain ⟨hk_, hb_, cs_, hc_, hz_⟩ := hS_; have h8_ := (hk_.2 d (blk_lt hk8) hdn (by simp)).trans hk8; refine (run_box _ _ rfl rfl h8_).trans ?_; with_reducible rfl); (· simp only [Act.put, List.setIfInBounds_toArray, List.set_cons_zero, List.set_cons_succ, guarded_true, i64_w, i32_w]; with_reducible rfl); (· exact fun _ _ _ h => h))
        (refine pl_p (v := ?_) (a1 := ?_) (by simp only [List.getElem?_toArray, List.getElem?_cons_zero, List.getElem?_cons_succ]; rfl) rfl ?_ ?_ ?_ ?_; rotate_left 2; (· intro w_ hS_; obtain ⟨hk_, hb_, cs_, hc_, hz_⟩ := hS_; have h8_ := (hk_.2 d (blk_lt hk8) hdn (by simp)).trans hk8; have hcz := bcs15 h8_; go_simp; with_reducible rfl); (· simp only [Act.put, List.setIfInBounds_toArray, List.set_cons_zero, List.set_cons_succ, guarded_true, i64_w, i32_w]; with_reducible rfl); (· exact fun _ _ _ h => h))
        (refine pl_p (v := ?_) (a1 := ?_) (by simp only [List.getElem?_toArray, List.getElem?_cons_zero, List.getElem?_cons_succ]; rfl) rfl ?_ ?_ ?_ ?_; rotate_left 2; (· intro w_ hS_; obtain ⟨hk_, hb_, cs_, hc_, hz_⟩ := hS_; have h8_ := (hk_.2 d (blk_lt hk8) hdn (by simp)).trans hk8; have hcz := bcs15 h8_; go_simp; with_reducible rfl); (· simp only [Act.put, List.setIfInBounds_toArray, List.set_cons_zero, List.set_cons_succ, guarded_true, i64_w, i32_w]; with_reducible rfl); (· exact fun _ _ _ h => h))
        (refine pl_p (v := ?_) (a1 := ?_) (by simp only [List.getElem?_toArray, List.getElem?_cons_zero, List.getElem?_cons_succ]; rfl) rfl ?_ ?_ ?_ ?_; rotate_left 2; (· intro w_ hS_; obtain ⟨hk_, hb_, cs_, hc_, hz_⟩ := hS_; have h8_ := (hk_.2 d (blk_lt hk8) hdn (by simp)).trans hk8; have hcz := bcs15 h8_; go_simp; with_reducible rfl); (· simp only [Act.put, List.setIfInBounds_toArray, List.set_cons_zero, List.set_cons_succ, guarded_true, i64_w, i32_w]; with_reducible rfl); (· exact fun _ _ _ h => h))
        (refine pl_p (v := ?_) (a1 := ?_) (by simp only [List.getElem?_toArray, List.getElem?_cons_zero, List.getElem?_cons_succ]; rfl) rfl ?_ ?_ ?_ ?_; rotate_left 2; (· intro w_ hS_; obtain ⟨hk_, hb_, cs_, hc_, hz_⟩ := hS_; have h8_ := (hk_.2 d (blk_lt hk8) hdn (by simp)).trans hk8; have hcz := bcs15 h8_; go_simp; with_reducible rfl); (· simp only [Act.put, List.setIfInBounds_toArray, List.set_cons_zero, List.set_cons_succ, guarded_true, i64_w, i32_w]; with_reducible rfl); (· exact fun _ _ _ h => h))
        (refine pl_p (v := ?_) (a1 := ?_) (by simp only [List.getElem?_toArray, List.getElem?_cons_zero, List.getElem?_cons_succ]; rfl) rfl ?_ ?_ ?_ ?_; rotate_left 2; (· intro w_ hS_; obtain ⟨hk_, hb_, cs_, hc_, hz_⟩ := hS_; have h8_ := (hk_.2 d (blk_lt hk8) hdn (by simp)).trans hk8; have hcz := bcs15 h8_; go_simp; with_reducible rfl); (· simp only [Act.put, List.setIfInBounds_toArray, List.set_cons_zero, List.set_cons_succ, guarded_true, i64_w, i32_w]; with_reducible rfl); (· exact fun _ _ _ h => h))
        obtain ⟨hk, hb, cs, hc, hz⟩ := hS
        have hS1 : KeepBut W5 (w3.setRow (w.heap.size + 1) (n.cells s)) (w.heap.size + 1) none ∧ Below w.heap.size w (w3.setRow (w.heap.size + 1) (n.cells s)) := ⟨KeepBut.trans hk (keepRow _ _ _) (.inl rfl), below_setRow hb (Nat.le_succ _) _⟩
        have hk9 := setRow_box (n := n) (s := s) hc
        refine pl_c ?_
        refine st_s (w1 := w3.setRow (w.heap.size + 1) (n.cells s)) (a1 := ?_) (by simp only [List.getElem?_toArray, List.getElem?_cons_zero, List.getElem?_cons_succ]; rfl) rfl (run_stbox n s rfl rfl rfl hc hz) ?_ ⟨⟨hS1.1, hS1.2, n.cells s, hk9, rfl⟩, ?_⟩
        rotate_left 1
        (· simp only [Act.put, List.setIfInBounds_toArray, List.set_cons_zero, List.set_cons_succ, guarded_true, i64_w, i32_w]; with_reducible rfl)
        generalize w3.setRow (w.heap.size + 1) (n.cells s) = W6 at hS1 hk9 ⊢
        clear hk hb hc hz
        refine pl_l ?_
        refine st_v (v := .slice (some ⟨b7, 0, none⟩) n.inn.length 2) (w1 := W6) (a1 := ?_) (by simp only [List.getElem?_toArray, List.getElem?_cons_zero, List.getElem?_cons_succ]; rfl) rfl (by go_simp) ?_ ⟨trivial, ?_⟩
        rotate_left 1
        (· simp only [Act.put, List.setIfInBounds_toArray, List.set_cons_zero, List.set_cons_succ, guarded_true, i64_w, i32_w]; with_reducible rfl)
        refine l_e ?_
        go_wp2
        have hi : (Tryd.prog.info? 29).map (·.size) = some (n.cells s).size := (show (Tryd.prog.info? 29).map (·.size) = some 15 by kernel_rfl)
        (try simp only [Exit.inBlock, Exit.then])
        refine bodyPost_ret (results_ct rfl _ _ (w.heap.size + 1) 29 (n.cells s) (0, 0) _ rfl hk9 huN rfl hi) rfl ?_
        have hxl : (([x, x] : List Int).take n.inn.length).length = n.inn.length := by rw [List.length_take]; show min n.inn.length 2 = _; omega
        have hK9 : W6.heap[b7]? = some (.cells #[.int .i64 x, .int .i64 x] 3 (0, 0)) := (hS1.1.2 b7 (blk_lt HK5.out) hb71 (by simp)).trans HK5.out
        refine ⟨n, s, some ⟨b7, 0, none⟩, 2, ([x, x] : List Int).take n.inn.length, by rw [hxl]; rfl, hF, HA5.out.keep hS1.1 (hFar _ (Nat.le_refl _)), ?_, by omega, by omega, by omega, hS1.2, fun k hk => hFar k (by omega)⟩
        exact Kd.C_take (xs := [x, x]) (C2b hK9) hni
  · have hR2 := HR.out
    go_upto_region 5 with (fail)
    have hsz := SS.out.size
    obtain ⟨L, hL4, RW⟩ : ∃ L : List Int, L.length ≤ 4096 ∧ Aside0 (RowAt w (W0.alloc (.cells #[.slice A0 l.length c0, .int .i64 0] 69)) W0.heap.size L) :=
      ⟨l, by omega, ⟨⟨0, ⟨A0, c0, blk_new W0 _, by omega, hR2⟩, Int.le_refl _, by omega⟩⟩⟩
    go_upto_region 6 with (fail)
    have SS' := Aside0.mk (SS.out.alloc (.cells #[.slice A0 l.length c0, .int .i64 0] 69))
    have hg : W0.heap.size < (W0.alloc (.cells #[.slice A0 l.length c0, .int .i64 0] 69)).heap.size := by rw [size_alloc]; omega
    clear SS hcq hR2
    generalize (W0.alloc (.cells #[.slice A0 l.length c0, .int .i64 0] 69)) = W1 at RW SS' hg ⊢
    generalize W0.heap.size = g at RW hg hsz ⊢
    have SS := SS'
    clear SS'
    have hcq := bcs3 SS.out.q
    generalize wrap64 (1 + Int.tmod (wrap64 (Int.tmod wd 6 + 6)) 6) = x at hx ⊢
    cases two
    · go_upto_region 12 with (fail)
      have hs1 : (W1.alloc (.cells #[.int .i64 0] 3)).heap.size = W1.heap.size + 1 := size_alloc _ _
      have hb := SS.out.bel.size
      go_wp2_with (first | (go_at_call 36; refine (made1_x W1.heap.size (W1.heap.size + 1) x g L w _ (RowAt.alloc (RowAt.alloc RW.out _) _) (below_alloc (below_alloc SS.out.bel _) _) hL4 (Nat.le_trans hb (Nat.le_trans (Nat.le_of_lt (by rw [hs1]; exact Nat.lt_succ_self _)) (Below.alloc_size _ _))) (Nat.lt_trans hg (by rw [size_alloc, hs1]; omega)) (by omega) (blk_alloc (blk_new W1 _) _) (by rw [← hs1]; exact blk_new _ _) hx).mono ?_; rintro e w2 ⟨n, s, rfl, hF, hA, hRo, hB2, hK, hO⟩; refine halt_ ?_))
      have SS2 := Aside0.mk (((SS.out.alloc (.cells #[.int .i64 0] 3)).alloc (.cells #[.int .i64 x] 3)).keep hB2 hK hsz)
      have hFar : ∀ k, k ≤ w.heap.size + 1 → Far n s k := fun k hk => hO k ⟨by rw [size_alloc, size_alloc]; omega, fun ad e _ => by cases e; show W1.heap.size ≠ k; omega⟩
      clear SS RW hRo hB2 hK hO hcq
      have HA := Aside0.mk hA
      clear hA
      unfold Halt
      go_wp2_with (first | (refine wl_stbox (n := n) (s := s) (a1 := ?_) rfl rfl rfl rfl (blk_alloc SS2.out.res _) rfl ?_ ?_; rotate_left 1; (· simp only [Act.put, List.setIfInBounds_toArray, List.set_cons_zero, List.set_cons_succ]; with_reducible rfl)))
      have hi : (Tryd.prog.info? 29).map (·.size) = some (n.cells s).size := (show (Tryd.prog.info? 29).map (·.size) = some 15 by kernel_rfl)
      (try simp only [Exit.inBlock, Exit.then])
      refine bodyPost_ret (results_ct rfl _ _ (w.heap.size + 1) 29 (n.cells s) (0, 0) _ rfl (setRow_box (blk_alloc SS2.out.res _)) huN rfl hi) rfl ?_
      refine ⟨n, s, some ⟨w2.heap.size, 0, none⟩, 1, [x], rfl, hF, (HA.out.below (below_alloc (Below.refl _ _) _)).keep (keepRow _ _ _) (hFar _ (Nat.le_refl _)), ?_, Nat.le_refl _, Nat.le_refl _, Nat.le_succ _, below_setRow (below_alloc SS2.out.bel _) (Nat.le_succ _) _, fun k hk => hFar k (by omega)⟩
      exact C1b (setRow_far (blk_new w2 _) (by have := SS2.out.size; omega))
    · go_upto_region 8 with (fail)
      have SS' := Aside0.mk (SS.out.alloc (.cells #[.int .i64 x, .int .i64 x] 3))
      have RW' := Aside0.mk (RowAt.alloc RW.out (.cells #[.int .i64 x, .int .i64 x] 3))
      have hk7 := blk_new W1 (.cells #[.int .i64 x, .int .i64 x] 3)
      have hb7 : W1.heap.size ≠ g := by omega
      have hb71 : W1.heap.size ≠ w.heap.size + 1 := by omega
      have hg' : g < (W1.alloc (.cells #[.int .i64 x, .int .i64 x] 3)).heap.size := by rw [size_alloc]; omega
      clear SS RW hcq hg
      generalize W1.alloc (.cells #[.int .i64 x, .int .i64 x] 3) = W3 at SS' RW' hk7 hg' ⊢
      generalize W1.heap.size = b7 at hk7 hb7 hb71 ⊢
      have SS := SS'
      have RW := RW'
      have hg := hg'
      clear SS' RW' hg'
      have hcq := bcs3 SS.out.q
      by_cases hneg : wd < 0
      · have hnb : decide (wd < 0) = true := decide_eq_true hneg
        go_upto_region 10 with (fail)
        have SS' := Aside0.mk (SS.out.alloc (.cells #[.int .i64 x, .int .i64 1] 3))
        have RW' := Aside0.mk (RowAt.alloc RW.out (.cells #[.int .i64 x, .int .i64 1] 3))
        clear hk7 hb7 hb71
        have hk7 := blk_new W3 (.cells #[.int .i64 x, .int .i64 1] 3)
        have hb7 : W3.heap.size ≠ g := by omega
        have hb71 : W3.heap.size ≠ w.heap.size + 1 := by omega
        have hg' : g < (W3.alloc (.cells #[.int .i64 x, .int .i64 1] 3)).heap.size := by rw [size_alloc]; omega
        clear SS RW hcq hg
        generalize W3.alloc (.cells #[.int .i64 x, .int .i64 1] 3) = W4 at SS' RW' hk7 hg' ⊢
        generalize W3.heap.size = b8 at hk7 hb7 hb71 ⊢
        have SS := SS'
        have RW := RW'
        have hg := hg'
        clear SS' RW' hg'
        have hcq := bcs3 SS.out.q
        have SSx := SS
        go_wp2_with (first | (go_at_call 36; refine (made2_x W4.heap.size b8 x 1 g L w _ (RowAt.alloc RW.out _) (below_alloc SS.out.bel _) hL4 (Nat.le_trans SS.out.bel.size (Below.alloc_size _ _)) (Nat.lt_trans hg (by rw [size_alloc]; omega)) (by omega) (blk_new W4 _) (blk_alloc hk7 _) (by omega) (by omega) (by omega)).mono ?_; rintro e w2 ⟨n, s, rfl, hF, hA, hRo, hB2, hK, hO⟩; refine halt_ ?_))
        have SS2 := Aside0.mk ((SS.out.alloc (.cells #[.int .i64 0, .int .i64 1] 3)).keep hB2 hK hsz)
        have hFar : ∀ k, k ≤ w.heap.size + 1 → Far n s k := fun k hk => hO k ⟨by rw [size_alloc]; omega, fun ad e _ => by cases e; show W4.heap.size ≠ k; omega⟩
        have HK7 := Aside0.mk ((hK.2 b8 (by rw [size_alloc]; have := blk_lt hk7; omega) hb7 (by simp)).trans (blk_alloc hk7 _))
        clear SS SSx RW hRo hB2 hK hO hcq hk7
        have HA := Aside0.mk hA
        clear hA
        unfold Halt
        go_upto_region 11 with (first | (refine wl_stbox (n := n) (s := s) (a1 := ?_) rfl rfl rfl rfl (blk_new w2 _) rfl ?_ ?_; rotate_left 1; (· simp only [Act.put, List.setIfInBounds_toArray, List.set_cons_zero, List.set_cons_succ]; with_reducible rfl)))
        have HB5 := Aside0.mk (below_setRow (g := w2.heap.size) (below_alloc (Below.refl w2.heap.size w2) (zN.box zS)) (Nat.le_refl _) (n.cells s))
        have hk8 := setRow_box (n := n) (s := s) (blk_new w2 (zN.box zS))
        have HA5 := Aside0.mk (HA.out.below HB5.out)
        have SS5 := Aside0.mk (SS2.out.bel' HB5.out)
        have HK5 := Aside0.mk (blk_below HK7.out HB5.out)
        have hK0 := SS2.out.res
        have hsz2 := SS2.out.size
        clear HA SS2 HK7 HB5
        rw [zbox]
        generalize (w2.alloc (zN.box zS)).setRow w2.heap.size (n.cells s) = W5 at hk8 HA5 SS5 HK5 ⊢
        generalize w2.heap.size = d at hk8 hsz2 ⊢
        have hni : n.inn.length ≤ 2 := hF.i
        have hn0 := hF.i0
        have hn2 : ((n.inn.length : Int) ≤ 2) = True := eq_true (by omega)
        have hn3 : (0 ≤ (n.inn.length : Int)) = True := eq_true (by omega)
        have hn4 : (n.inn.length ≤ 2) = True := eq_true hni
        have hdn : d ≠ w.heap.size + 1 := by omega
        refine pl_ (id := 11) (S := fun W' => KeepBut W5 W' (w.heap.size + 1) none ∧ Below w.heap.size w W' ∧ ∃ cs, W'.heap[w.heap.size + 1]? = some (.cells cs 29 (0, 0)) ∧ cs.size = 15) (.p 0 (.p 1 (.p 2 (.p 3 (.p 4 (.p 5 (.c 6 (.l [7])))))))) [7] (by kernel_rfl) (by kernel_rfl) ⟨⟨(below_drew1 (Below.refl W5.heap.size W5)).size, fun i hi _ _ => (below_drew1 (Below.refl W5.heap.size W5)).block i hi⟩, below_step SS5.out.bel (below_drew1 (Below.refl _ _)), zN.cells zS, blk_drew SS5.out.res, rfl⟩ ?_
        intro w3 hS
        (refine pl_p (v := ?_) (a1 := ?_) (by simp only [List.getElem?_toArray, List.getElem?_cons_zero, List.getElem?_cons_succ]; rfl) rfl ?_ ?_ ?_ ?_; rotate_left 2; (· intro w_ hS_; obtain ⟨hk_, hb_, cs_, hc_, hz_⟩ := hS_; have h8_ := (hk_.2 d (blk_lt hk8) hdn (by simp)).trans hk8; refine (run_box _ _ rfl rfl h8_).trans ?_; with_reducible rfl); (· simp only [Act.put, List.setIfInBounds_toArray, List.set_cons_zero, List.set_cons_succ, guarded_true, i64_w, i32_w]; with_reducible rfl); (· exact fun _ _ _ h => h))
        (refine pl_p (v := ?_) (a1 := ?_) (by simp only [List.getElem?_toArray, List.getElem?_cons_zero, List.getElem?_cons_succ]; rfl) rfl ?_ ?_ ?_ ?_; rotate_left 2; (· intro w_ hS_; obtain ⟨hk_, hb_, cs_, hc_, hz_⟩ := hS_; have h8_ := (hk_.2 d (blk_lt hk8) hdn (by simp)).trans hk8; have hcz := bcs15 h8_; go_simp; with_reducible rfl); (· simp only [Act.put, List.setIfInBounds_toArray, List.set_cons_zero, List.set_cons_succ, guarded_true, i64_w, i32_w]; with_reducible rfl); (· exact fun _ _ _ h => h))
        (refine pl_p (v := ?_) (a1 := ?_) (by simp only [List.getElem?_toArray, List.getElem?_cons_zero, List.getElem?_cons_succ]; rfl) rfl ?_ ?_ ?_ ?_; rotate_left 2; (· intro w_ hS_; obtain ⟨hk_, hb_, cs_, hc_, hz_⟩ := hS_; have h8_ := (hk_.2 d (blk_lt hk8) hdn (by simp)).trans hk8; have hcz := bcs15 h8_; go_simp; with_reducible rfl); (· simp only [Act.put, List.setIfInBounds_toArray, List.set_cons_zero, List.set_cons_succ, guarded_true, i64_w, i32_w]; with_reducible rfl); (· exact fun _ _ _ h => h))
        (refine pl_p (v := ?_) (a1 := ?_) (by simp only [List.getElem?_toArray, List.getElem?_cons_zero, List.getElem?_cons_succ]; rfl) rfl ?_ ?_ ?_ ?_; rotate_left 2; (· intro w_ hS_; obtain ⟨hk_, hb_, cs_, hc_, hz_⟩ := hS_; have h8_ := (hk_.2 d (blk_lt hk8) hdn (by simp)).trans hk8; have hcz := bcs15 h8_; go_simp; with_reducible rfl); (· simp only [Act.put, List.setIfInBounds_toArray, List.set_cons_zero, List.set_cons_succ, guarded_true, i64_w, i32_w]; with_reducible rfl); (· exact fun _ _ _ h => h))
        (refine pl_p (v := ?_) (a1 := ?_) (by simp only [List.getElem?_toArray, List.getElem?_cons_zero, List.getElem?_cons_succ]; rfl) rfl ?_ ?_ ?_ ?_; rotate_left 2; (· intro w_ hS_; obtain ⟨hk_, hb_, cs_, hc_, hz_⟩ := hS_; have h8_ := (hk_.2 d (blk_lt hk8) hdn (by simp)).trans hk8; have hcz := bcs15 h8_; go_simp; with_reducible rfl); (· simp only [Act.put, List.setIfInBounds_toArray, List.set_cons_zero, List.set_cons_succ, guarded_true, i64_w, i32_w]; with_reducible rfl); (· exact fun _ _ _ h => h))
        (refine pl_p (v := ?_) (a1 := ?_) (by simp only [List.getElem?_toArray, List.getElem?_cons_zero, List.getElem?_cons_succ]; rfl) rfl ?_ ?_ ?_ ?_; rotate_left 2; (· intro w_ hS_; obtain ⟨hk_, hb_, cs_, hc_, hz_⟩ := hS_; have h8_ := (hk_.2 d (blk_lt hk8) hdn (by simp)).trans hk8; have hcz := bcs15 h8_; go_simp; with_reducible rfl); (· simp only [Act.put, List.setIfInBounds_toArray, List.set_cons_zero, List.set_cons_succ, guarded_true, i64_w, i32_w]; with_reducible rfl); (· exact fun _ _ _ h => h))
        obtain ⟨hk, hb, cs, hc, hz⟩ := hS
        have hS1 : KeepBut W5 (w3.setRow (w.heap.size + 1) (n.cells s)) (w.heap.size + 1) none ∧ Below w.heap.size w (w3.setRow (w.heap.size + 1) (n.cells s)) := ⟨KeepBut.trans hk (keepRow _ _ _) (.inl rfl), below_setRow hb (Nat.le_succ _) _⟩
        have hk9 := setRow_box (n := n) (s := s) hc
        refine pl_c ?_
        refine st_s (w1 := w3.setRow (w.heap.size + 1) (n.cells s)) (a1 := ?_) (by simp only [List.getElem?_toArray, List.getElem?_cons_zero, List.getElem?_cons_succ]; rfl) rfl (run_stbox n s rfl rfl rfl hc hz) ?_ ⟨⟨hS1.1, hS1.2, n.cells s, hk9, rfl⟩, ?_⟩
        rotate_left 1
        (· simp only [Act.put, List.setIfInBounds_toArray, List.set_cons_zero, List.set_cons_succ, guarded_true, i64_w, i32_w]; with_reducible rfl)
        generalize w3.setRow (w.heap.size + 1) (n.cells s) = W6 at hS1 hk9 ⊢
        clear hk hb hc hz
        refine pl_l ?_
        refine st_v (v := .slice (some ⟨b8, 0, none⟩) n.inn.length 2) (w1 := W6) (a1 := ?_) (by simp only [List.getElem?_toArray, List.getElem?_cons_zero, List.getElem?_cons_succ]; rfl) rfl (by go_simp) ?_ ⟨trivial, ?_⟩
        rotate_left 1
        (· simp only [Act.put, List.setIfInBounds_toArray, List.set_cons_zero, List.set_cons_succ, guarded_true, i64_w, i32_w]; with_reducible rfl)
        refine l_e ?_
        go_wp2
        have hi : (Tryd.prog.info? 29).map (·.size) = some (n.cells s).size := (show (Tryd.prog.info? 29).map (·.size) = some 15 by kernel_rfl)
        (try simp only [Exit.inBlock, Exit.then])
        refine bodyPost_ret (results_ct rfl _ _ (w.heap.size + 1) 29 (n.cells s) (0, 0) _ rfl hk9 huN rfl hi) rfl ?_
        have hxl : (([x, 1] : List Int).take n.inn.length).length = n.inn.length := by rw [List.length_take]; show min n.inn.length 2 = _; omega
        have hK9 : W6.heap[b8]? = some (.cells #[.int .i64 x, .int .i64 1] 3 (0, 0)) := (hS1.1.2 b8 (blk_lt HK5.out) hb71 (by simp)).trans HK5.out
        refine ⟨n, s, some ⟨b8, 0, none⟩, 2, ([x, 1] : List Int).take n.inn.length, by rw [hxl]; rfl, hF, HA5.out.keep hS1.1 (hFar _ (Nat.le_refl _)), ?_, by omega, by omega, by omega, hS1.2, fun k hk => hFar k (by omega)⟩
        exact Kd.C_take (xs := [x, 1]) (C2b hK9) hni
      · have hnb : decide (wd < 0) = false := decide_eq_false hneg
        go_upto_region 10 with (fail)
        have SSx := SS
        go_wp2_with (first | (go_at_call 36; refine (made2_x W3.heap.size b7 x x g L w _ (RowAt.alloc RW.out _) (below_alloc SS.out.bel _) hL4 (Nat.le_trans SS.out.bel.size (Below.alloc_size _ _)) (Nat.lt_trans hg (by rw [size_alloc]; omega)) (by omega) (blk_new W3 _) (blk_alloc hk7 _) (by omega) (by omega) (by omega)).mono ?_; rintro e w2 ⟨n, s, rfl, hF, hA, hRo, hB2, hK, hO⟩; refine halt_ ?_))
        have SS2 := Aside0.mk ((SS.out.alloc (.cells #[.int .i64 0, .int .i64 1] 3)).keep hB2 hK hsz)
        have hFar : ∀ k, k ≤ w.heap.size + 1 → Far n s k := fun k hk => hO k ⟨by rw [size_alloc]; omega, fun ad e _ => by cases e; show W3.heap.size ≠ k; omega⟩
        have HK7 := Aside0.mk ((hK.2 b7 (by rw [size_alloc]; have := blk_lt hk7; omega) hb7 (by simp)).trans (blk_alloc hk7 _))
        clear SS SSx RW hRo hB2 hK hO hcq hk7
        have HA := Aside0.mk hA
        clear hA
        unfold Halt
        go_upto_region 11 with (first | (refine wl_stbox (n := n) (s := s) (a1 := ?_) rfl rfl rfl rfl (blk_new w2 _) rfl ?_ ?_; rotate_left 1; (· simp only [Act.put, List.setIfInBounds_toArray, List.set_cons_zero, List.set_cons_succ]; with_reducible rfl)))
        have HB5 := Aside0.mk (below_setRow (g := w2.heap.size) (below_alloc (Below.refl w2.heap.size w2) (zN.box zS)) (Nat.le_refl _) (n.cells s))
        have hk8 := setRow_box (n := n) (s := s) (blk_new w2 (zN.box zS))
        have HA5 := Aside0.mk (HA.out.below HB5.out)
        have SS5 := Aside0.mk (SS2.out.bel' HB5.out)
        have HK5 := Aside0.mk (blk_below HK7.out HB5.out)
        have hK0 := SS2.out.res
        have hsz2 := SS2.out.size
        clear HA SS2 HK7 HB5
        rw [zbox]
        generalize (w2.alloc (zN.box zS)).setRow w2.heap.size (n.cells s) = W5 at hk8 HA5 SS5 HK5 ⊢
        generalize w2.heap.size = d at hk8 hsz2 ⊢
        have hni : n.inn.length ≤ 2 := hF.i
        have hn0 := hF.i0
        have hn2 : ((n.inn.length : Int) ≤ 2) = True := eq_true (by omega)
        have hn3 : (0 ≤ (n.inn.length : Int)) = True := eq_true (by omega)
        have hn4 : (n.inn.length ≤ 2) = True := eq_true hni
        have hdn : d ≠ w.heap.size + 1 := by omega
        refine pl_ (id := 11) (S := fun W' => KeepBut W5 W' (w.heap.size + 1) none ∧ Below w.heap.size w W' ∧ ∃ cs, W'.heap[w.heap.size + 1]? = some (.cells cs 29 (0, 0)) ∧ cs.size = 15) (.p 0 (.p 1 (.p 2 (.p 3 (.p 4 (.p 5 (.c 6 (.l [7])))))))) [7] (by kernel_rfl) (by kernel_rfl) ⟨⟨(below_drew1 (Below.refl W5.heap.size W5)).size, fun i hi _ _ => (below_drew1 (Below.refl W5.heap.size W5)).block i hi⟩, below_step SS5.out.bel (below_drew1 (Below.refl _ _)), zN.cells zS, blk_drew SS5.out.res, rfl⟩ ?_
        intro w3 hS
        (refine pl_p (v := ?_) (a1 := ?_) (by simp only [List.getElem?_toArray, List.getElem?_cons_zero, List.getElem?_cons_succ]; rfl) rfl ?_ ?_ ?_ ?_; rotate_left 2; (· intro w_ hS_; obtain ⟨hk_, hb_, cs_, hc_, hz_⟩ := hS_; have h8_ := (hk_.2 d (blk_lt hk8) hdn (by simp)).trans hk8; refine (run_box _ _ rfl rfl h8_).trans ?_; with_reducible rfl); (· simp only [Act.put, List.setIfInBounds_toArray, List.set_cons_zero, List.set_cons_succ, guarded_true, i64_w, i32_w]; with_reducible rfl); (· exact fun _ _ _ h => h))
        (refine pl_p (v := ?_) (a1 := ?_) (by simp only [List.getElem?_toArray, List.getElem?_cons_zero, List.getElem?_cons_succ]; rfl) rfl ?_ ?_ ?_ ?_; rotate_left 2; (· intro w_ hS_; obtain ⟨hk_, hb_, cs_, hc_, hz_⟩ := hS_; have h8_ := (hk_.2 d (blk_lt hk8) hdn (by simp)).trans hk8; have hcz := bcs15 h8_; go_simp; with_reducible rfl); (· simp only [Act.put, List.setIfInBounds_toArray, List.set_cons_zero, List.set_cons_succ, guarded_true, i64_w, i32_w]; with_reducible rfl); (· exact fun _ _ _ h => h))
        (refine pl_p (v := ?_) (a1 := ?_) (by simp only [List.getElem?_toArray, List.getElem?_cons_zero, List.getElem?_cons_succ]; rfl) rfl ?_ ?_ ?_ ?_; rotate_left 2; (· intro w_ hS_; obtain ⟨hk_, hb_, cs_, hc_, hz_⟩ := hS_; have h8_ := (hk_.2 d (blk_lt hk8) hdn (by simp)).trans hk8; have hcz := bcs15 h8_; go_simp; with_reducible rfl); (· simp only [Act.put, List.setIfInBounds_toArray, List.set_cons_zero, List.set_cons_succ, guarded_true, i64_w, i32_w]; with_reducible rfl); (· exact fun _ _ _ h => h))
        (refine pl_p (v := ?_) (a1 := ?_) (by simp only [List.getElem?_toArray, List.getElem?_cons_zero, List.getElem?_cons_succ]; rfl) rfl ?_ ?_ ?_ ?_; rotate_left 2; (· intro w_ hS_; obtain ⟨hk_, hb_, cs_, hc_, hz_⟩ := hS_; have h8_ := (hk_.2 d (blk_lt hk8) hdn (by simp)).trans hk8; have hcz := bcs15 h8_; go_simp; with_reducible rfl); (· simp only [Act.put, List.setIfInBounds_toArray, List.set_cons_zero, List.set_cons_succ, guarded_true, i64_w, i32_w]; with_reducible rfl); (· exact fun _ _ _ h => h))
        (refine pl_p (v := ?_) (a1 := ?_) (by simp only [List.getElem?_toArray, List.getElem?_cons_zero, List.getElem?_cons_succ]; rfl) rfl ?_ ?_ ?_ ?_; rotate_left 2; (· intro w_ hS_; obtain ⟨hk_, hb_, cs_, hc_, hz_⟩ := hS_; have h8_ := (hk_.2 d (blk_lt hk8) hdn (by simp)).trans hk8; have hcz := bcs15 h8_; go_simp; with_reducible rfl); (· simp only [Act.put, List.setIfInBounds_toArray, List.set_cons_zero, List.set_cons_succ, guarded_true, i64_w, i32_w]; with_reducible rfl); (· exact fun _ _ _ h => h))
        (refine pl_p (v := ?_) (a1 := ?_) (by simp only [List.getElem?_toArray, List.getElem?_cons_zero, List.getElem?_cons_succ]; rfl) rfl ?_ ?_ ?_ ?_; rotate_left 2; (· intro w_ hS_; obtain ⟨hk_, hb_, cs_, hc_, hz_⟩ := hS_; have h8_ := (hk_.2 d (blk_lt hk8) hdn (by simp)).trans hk8; have hcz := bcs15 h8_; go_simp; with_reducible rfl); (· simp only [Act.put, List.setIfInBounds_toArray, List.set_cons_zero, List.set_cons_succ, guarded_true, i64_w, i32_w]; with_reducible rfl); (· exact fun _ _ _ h => h))
        obtain ⟨hk, hb, cs, hc, hz⟩ := hS
        have hS1 : KeepBut W5 (w3.setRow (w.heap.size + 1) (n.cells s)) (w.heap.size + 1) none ∧ Below w.heap.size w (w3.setRow (w.heap.size + 1) (n.cells s)) := ⟨KeepBut.trans hk (keepRow _ _ _) (.inl rfl), below_setRow hb (Nat.le_succ _) _⟩
        have hk9 := setRow_box (n := n) (s := s) hc
        refine pl_c ?_
        refine st_s (w1 := w3.setRow (w.heap.size + 1) (n.cells s)) (a1 := ?_) (by simp only [List.getElem?_toArray, List.getElem?_cons_zero, List.getElem?_cons_succ]; rfl) rfl (run_stbox n s rfl rfl rfl hc hz) ?_ ⟨⟨hS1.1, hS1.2, n.cells s, hk9, rfl⟩, ?_⟩
        rotate_left 1
        (· simp only [Act.put, List.setIfInBounds_toArray, List.set_cons_zero, List.set_cons_succ, guarded_true, i64_w, i32_w]; with_reducible rfl)
        generalize w3.setRow (w.heap.size + 1) (n.cells s) = W6 at hS1 hk9 ⊢
        clear hk hb hc hz
        refine pl_l ?_
        refine st_v (v := .slice (some ⟨b7, 0, none⟩) n.inn.length 2) (w1 := W6) (a1 := ?_) (by simp only [List.getElem?_toArray, List.getElem?_cons_zero, List.getElem?_cons_succ]; rfl) rfl (by go_simp) ?_ ⟨trivial, ?_⟩
        rotate_left 1
        (· simp only [Act.put, List.setIfInBounds_toArray, List.set_cons_zero, List.set_cons_succ, guarded_true, i64_w, i32_w]; with_reducible rfl)
        refine l_e ?_
        go_wp2
        have hi : (Tryd.prog.info? 29).map (·.size) = some (n.cells s).size := (show (Tryd.prog.info? 29).map (·.size) = some 15 by kernel_rfl)
        (try simp only [Exit.inBlock, Exit.then])
        refine bodyPost_ret (results_ct rfl _ _ (w.heap.size + 1) 29 (n.cells s) (0, 0) _ rfl hk9 huN rfl hi) rfl ?_
        have hxl : (([x, x] : List Int).take n.inn.length).length = n.inn.length := by rw [List.length_take]; show min n.inn.length 2 = _; omega
        have hK9 : W6.heap[b7]? = some (.cells #[.int .i64 x, .int .i64 x] 3 (0, 0)) := (hS1.1.2 b7 (blk_lt HK5.out) hb71 (by simp)).trans HK5.out
        refine ⟨n, s, some ⟨b7, 0, none⟩, 2, ([x, x] : List Int).take n.inn.length, by rw [hxl]; rfl, hF, HA5.out.keep hS1.1 (hFar _ (Nat.le_refl _)), ?_, by omega, by omega, by omega, hS1.2, fun k hk => hFar k (by omega)⟩
        exact Kd.C_take (xs := [x, x]) (C2b hK9) hni
end Go.Proofs.YtohhaonjckfkaaaDoor.Hand
