/- The abstract walk, and contracts of Go functions: each call returns what the Lean function named tells. Conditions: those that each theorem names, none else. -/
import Derived.Test.YtohhaonjckfkaaaDoorZGraphChecks5
set_option linter.unusedVariables false
set_option linter.unusedSimpArgs false
set_option linter.unusedSectionVars false
set_option maxRecDepth 100000
set_option maxHeartbeats 4000000
namespace Go.Proofs.YtohhaonjckfkaaaDoor.Aw
open Go.RowKit
/-! graphs that ref15.Made makes are right: their order is whole, and what is told goes along it -/
structure NodeG (N : Int) (n : Nd) (W R : Int → Int) (rk : Int → Nat) (i : Int) : Prop where
  l1 : 1 ≤ n.inn.length
  l2 : n.inn.length ≤ 2
  inn : ∀ j ∈ n.inn, 0 ≤ j ∧ j ≤ N ∧ rk j < rk i
  chk : n.rchk (n.inn.map W) = 0
  wd : W i = n.rwide (n.inn.map W)
  rt : R i = n.rate (n.inn.map R)
  same : ∀ j ∈ n.inn, ∀ j' ∈ n.inn, R j = R j'
  still : ∀ j ∈ n.inn, R j = 0 → rWin n.k = false ∧ n.k ≠ 5
  wl : n.ws.length ≤ 4096
  bl : n.bs.length ≤ 4096
  st0 : 1 ≤ n.rStp
  st1 : n.rStp ≤ 3
  sp0 : 1 ≤ n.rSpan
  sp1 : n.rSpan ≤ 10
  post : n.post = 0
structure GG (wd : Int) (ns : List Nd) (W R : Int → Int) (rk : Int → Nat) : Prop where
  W0 : W 0 = wd
  R0 : R 0 = 1
  k0 : rk 0 = 0
  node : ∀ i : Int, 1 ≤ i → i ≤ ns.length → NodeG ns.length (nd ns (i - 1)) W R rk i ∧ rk i ≤ ns.length
theorem NodeG.congr {N N' : Int} {n : Nd} {W R W' R' : Int → Int} {rk : Int → Nat} {i : Int} (h : NodeG N n W R rk i) (hN : N ≤ N') (hi : W' i = W i ∧ R' i = R i) (hj : ∀ j ∈ n.inn, W' j = W j ∧ R' j = R j) : NodeG N' n W' R' rk i := by
  have e1 : n.inn.map W' = n.inn.map W := List.map_congr_left fun j h => (hj j h).1
  have e2 : n.inn.map R' = n.inn.map R := List.map_congr_left fun j h => (hj j h).2
  exact ⟨h.l1, h.l2, fun j hm => by have := h.inn j hm; omega, by rw [e1]; exact h.chk, by rw [e1, hi.1]; exact h.wd, by rw [e2, hi.2]; exact h.rt,
    fun j hm j' hm' => by rw [(hj j hm).2, (hj j' hm').2]; exact h.same j hm j' hm', fun j hm => by rw [(hj j hm).2]; exact h.still j hm, h.wl, h.bl, h.st0, h.st1, h.sp0, h.sp1, h.post⟩
section
variable {n : Nd} {X : List Int}
theorem chkL_inn : ∀ (l : List Int) (v s : Int), ({ n with inn := X } : Nd).chkL v s l = n.chkL v s l
  | [], v, s => by unfold Nd.chkL; rfl
  | x :: l, v, s => by
    unfold Nd.chkL
    rw [chkL_inn l]
theorem rchk_inn (h : X.length = n.inn.length) (l : List Int) : ({ n with inn := X } : Nd).rchk l = n.rchk l := by
  unfold Nd.rchk
  rw [show ({ n with inn := X } : Nd).chk1 l = n.chk1 l by unfold Nd.chk1; rw [h], chkL_inn]
  rfl
theorem rwide_inn (h : X.length = n.inn.length) (l : List Int) : ({ n with inn := X } : Nd).rwide l = n.rwide l := by
  unfold Nd.rwide
  rw [rchk_inn h]
theorem rate_inn (l : List Int) : ({ n with inn := X } : Nd).rate l = n.rate l := rfl
end
/-- nodes get other numbers -/
theorem GG.ren {wd : Int} {ns : List Nd} {W R : Int → Int} {rk : Int → Nat} (h : GG wd ns W R rk) (ns' : List Nd) (σ τ : Int → Int) (hl : ns'.length = ns.length) (h0 : τ 0 = 0) (hσ : ∀ j : Int, 0 ≤ j → j ≤ ns.length → 0 ≤ σ j ∧ σ j ≤ ns.length ∧ τ (σ j) = j)
    (hτ : ∀ i : Int, 1 ≤ i → i ≤ ns.length → 1 ≤ τ i ∧ τ i ≤ ns.length) (hn : ∀ i : Int, 1 ≤ i → i ≤ ns.length → nd ns' (i - 1) = { nd ns (τ i - 1) with inn := (nd ns (τ i - 1)).inn.map σ }) : GG wd ns' (fun i => W (τ i)) (fun i => R (τ i)) (fun i => rk (τ i)) := by
  refine ⟨by rw [h0]; exact h.W0, by rw [h0]; exact h.R0, by rw [h0]; exact h.k0, fun i i1 i2 => ?_⟩
  rw [hl] at i2 ⊢
  obtain ⟨hm, hk⟩ := h.node (τ i) (hτ i i1 i2).1 (hτ i i1 i2).2
  refine ⟨?_, hk⟩
  rw [hn i i1 i2]
  generalize nd ns (τ i - 1) = n at hm ⊢
  have hj : ∀ j ∈ n.inn, τ (σ j) = j := fun j hj => by have := hm.inn j hj; exact (hσ j (by omega) (by omega)).2.2
  have e1 : (n.inn.map σ).map (fun i => W (τ i)) = n.inn.map W := by rw [List.map_map]; exact List.map_congr_left fun j h => by simp only [Function.comp, hj j h]
  have e2 : (n.inn.map σ).map (fun i => R (τ i)) = n.inn.map R := by rw [List.map_map]; exact List.map_congr_left fun j h => by simp only [Function.comp, hj j h]
  have hX : (n.inn.map σ).length = n.inn.length := by simp
  refine ⟨by simpa using hm.l1, by simpa using hm.l2, ?_, ?_, ?_, ?_, ?_, ?_, hm.wl, hm.bl, hm.st0, hm.st1, hm.sp0, hm.sp1, hm.post⟩
  · intro j' hj'
    simp only [List.mem_map] at hj'
    obtain ⟨j, hjm, rfl⟩ := hj'
    have h1 := hm.inn j hjm
    have h2 := hσ j (by omega) (by omega)
    exact ⟨h2.1, h2.2.1, by rw [h2.2.2]; exact h1.2.2⟩
  · rw [rchk_inn hX, e1]; exact hm.chk
  · rw [rwide_inn hX, e1]; exact hm.wd
  · rw [rate_inn, e2]; exact hm.rt
  · intro j1 h1 j2 h2
    simp only [List.mem_map] at h1 h2
    obtain ⟨j1, h1, rfl⟩ := h1
    obtain ⟨j2, h2, rfl⟩ := h2
    rw [hj j1 h1, hj j2 h2]
    exact hm.same j1 h1 j2 h2
  · intro j1 h1
    simp only [List.mem_map] at h1
    obtain ⟨j1, h1, rfl⟩ := h1
    rw [hj j1 h1]
    exact hm.still j1 h1
/-! a right graph's order is whole; widths and rates go along it -/
theorem nextO_none {ns : List Nd} {o : List Int} : ∀ (m : Nat) (l : Int), nextO ns o m l = none → ∀ x, l ≤ x → x < l + m → mayO ns o x = false
  | 0, l, _, x, h1, h2 => by omega
  | m + 1, l, h, x, h1, h2 => by
    unfold nextO at h
    split at h
    · cases h
    · rename_i hm
      rcases Int.lt_or_le l x with h3 | h3
      · exact nextO_none m (l + 1) h x (by omega) (by omega)
      · obtain rfl : l = x := by omega
        simpa using hm
section
variable {wd : Int} {ns : List Nd} {W R : Int → Int} {rk : Int → Nat} (h : GG wd ns W R rk)
include h
theorem GG.next {o : List Int} (ho : o.length < ns.length) : ∃ i, nextO ns o ns.length 1 = some i := by
  cases hn : nextO ns o ns.length 1 with
  | some i => exact ⟨i, rfl⟩
  | none =>
    exfalso
    have hf := nextO_none _ _ hn
    have key : ∀ (r : Nat) (i : Int), rk i ≤ r → 1 ≤ i → i ≤ ns.length → i ∈ o := by
      intro r
      induction r with
      | zero =>
        intro i hr i1 i2
        have hm := (h.node i i1 i2).1
        by_cases hi : i ∈ o
        · exact hi
        · have h1 := hf i i1 (by omega)
          rw [mayO_iff.2 ⟨hi, fun j hj => by have := hm.inn j hj; omega⟩] at h1
          cases h1
      | succ r ih =>
        intro i hr i1 i2
        have hm := (h.node i i1 i2).1
        by_cases hi : i ∈ o
        · exact hi
        · have h1 := hf i i1 (by omega)
          rw [mayO_iff.2 ⟨hi, fun j hj => by
            have h2 := hm.inn j hj
            rcases Int.lt_or_le 0 j with h3 | h3
            · exact .inr (ih j (by omega) (by omega) h2.2.1)
            · exact .inl (by omega)⟩] at h1
          cases h1
    have := all_len ns.length o fun x h1 h2 => key _ x (Nat.le_refl _) h1 h2
    omega
theorem GG.ordR_len : ∀ (k : Nat) (o : List Int), o.length + k = ns.length → (ordR ns k o).length = ns.length
  | 0, o, e => by simpa [ordR] using e
  | k + 1, o, e => by
    obtain ⟨i, hi⟩ := h.next (o := o) (by omega)
    unfold ordR
    rw [hi]
    exact GG.ordR_len k (o ++ [i]) (by simp; omega)
theorem GG.order_len : (order ns).length = ns.length := h.ordR_len ns.length [] (by simp)
end
theorem order_top (ns : List Nd) : ∀ (o1 : List Int) (i : Int) (r : List Int), order ns = o1 ++ i :: r → mayO ns o1 i = true ∧ (∀ x : Int, 1 ≤ x → x ≤ ns.length → mayO ns o1 x = true → i ≤ x) ∧ 1 ≤ i ∧ i ≤ ns.length :=
  ordR_inv (fun o => ∀ (o1 : List Int) (i : Int) (r : List Int), o = o1 ++ i :: r → mayO ns o1 i = true ∧ (∀ x : Int, 1 ≤ x → x ≤ ns.length → mayO ns o1 x = true → i ≤ x) ∧ 1 ≤ i ∧ i ≤ ns.length) (fun o x ho h1 h2 h3 h4 o1 i r e => by
    rcases List.eq_nil_or_concat r with rfl | ⟨L, b, rfl⟩
    · have e2 := List.append_inj' e rfl
      obtain ⟨rfl, e3⟩ := e2
      obtain rfl : x = i := by simpa using e3
      exact ⟨h3, h4, h1, h2⟩
    · rw [show o1 ++ i :: (L.concat b) = (o1 ++ i :: L) ++ [b] by simp] at e
      exact ho o1 i L (List.append_inj' e rfl).1) ns.length [] (fun o1 i r e => by simp at e)
theorem gwin_eq {n : Nd} (hk : inB n.k 1 12 = true) (h0 : rWin n.k = false) : n.gwin = false := by
  have hs : n.span = 1 := by
    rw [span_eqW]
    unfold Nd.rSpan
    have h1 : (n.k == 12) = false := by unfold rWin at h0; simp only [Bool.or_eq_false_iff] at h0; exact h0.2
    rw [if_neg (by rw [h1]; decide), if_pos (by rw [h0]; rfl)]
  unfold Nd.gwin
  rw [hs]
  have h2 := inB_iff.1 hk
  unfold rWin at h0
  simp only [Bool.or_eq_false_iff, beq_eq_false_iff_ne] at h0
  simp only [Bool.or_eq_false_iff, decide_eq_false_iff_not, beq_eq_false_iff_ne]
  omega
theorem grate_eq {n : Nd} {l : List Int} (hk : inB n.k 1 12 = true) (hall : ∀ x ∈ l, x = rd l 0) (hst : rd l 0 = 0 → rWin n.k = false ∧ n.k ≠ 5) : n.grate l = (n.rate l, true) := by
  have ha : l.all (· == rd l 0) = true := List.all_eq_true.2 fun x hx => by simpa using hall x hx
  have hb : l.any (· != rd l 0) = false := by
    rw [List.any_eq_false]
    exact fun x hx => by simpa using hall x hx
  have hz : (rd l 0 == 0 && (n.gwin || n.k == 5)) = false := by
    cases e : (rd l 0 == 0) with
    | false => rfl
    | true =>
      have := hst (by simpa using e)
      rw [gwin_eq hk this.1, show (n.k == 5) = false by simpa using this.2]; rfl
  have hz2 : (rd l 0 == 0 && (rWin n.k || n.k == 5)) = false := by
    cases e : (rd l 0 == 0) with
    | false => rfl
    | true =>
      have := hst (by simpa using e)
      rw [this.1, show (n.k == 5) = false by simpa using this.2]; rfl
  unfold Nd.grate Nd.rate
  rw [hb, hz, ha, hz2, stp_eqW]
  simp only [Bool.or_self, Bool.false_eq_true, if_false, Bool.true_eq_false]
  split <;> rfl
theorem rd_set {l : List Int} {i j v : Int} (hi : 0 ≤ i) (hi2 : i < l.length) (hj : 0 ≤ j) : rd (l.set i.toNat v) j = if j = i then v else rd l j := by
  unfold rd
  rw [List.getD_eq_getElem?_getD, List.getD_eq_getElem?_getD, List.getElem?_set]
  by_cases e : j = i
  · subst e
    rw [if_pos rfl, if_pos rfl, if_pos (by omega)]; rfl
  · rw [if_neg (by omega), if_neg e]
theorem rd_map {l : List Int} {f : Int → Int} (h : 0 < l.length) : rd (l.map f) 0 = f (rd l 0) := by
  cases l with
  | nil => simp at h
  | cons x l => rfl
section
variable {wd : Int} {ns : List Nd} {W R : Int → Int} {rk : Int → Nat} (h : GG wd ns W R rk)
include h
theorem GG.lookL : ∀ (r o W1 R1 : List Int), order ns = o ++ r → W1.length = ns.length + 1 → R1.length = ns.length + 1 → (∀ x, x = 0 ∨ x ∈ o → rd W1 x = W x ∧ rd R1 x = R x) →
    ∃ W2 R2, lookL ns r W1 R1 = (0, W2, R2) ∧ W2.length = ns.length + 1 ∧ R2.length = ns.length + 1 ∧ ∀ x, x = 0 ∨ x ∈ o ++ r → rd W2 x = W x ∧ rd R2 x = R x
  | [], o, W1, R1, ho, hW, hR, hx => ⟨W1, R1, rfl, hW, hR, by simpa using hx⟩
  | i :: r, o, W1, R1, ho, hW, hR, hx => by
    obtain ⟨hm, _, i1, i2⟩ := order_top ns o i r ho
    have hN := (h.node i i1 i2).1
    have hin := (mayO_iff.1 hm).2
    rw [lookL_cons]
    generalize nd ns (i - 1) = n at hN hin ⊢
    have e1 : n.inn.map (rd W1) = n.inn.map W := List.map_congr_left fun j hj => (hx j (hin j hj)).1
    have e2 : n.inn.map (rd R1) = n.inn.map R := List.map_congr_left fun j hj => (hx j (hin j hj)).2
    obtain ⟨_, h7, _⟩ := rchk_unpack hN.chk
    have hk : inB n.k 1 12 = true := by
      unfold Nd.r7 at h7
      simp only [Bool.or_eq_false_iff, Bool.not_eq_false'] at h7
      exact h7.1.1
    have h0m : rd n.inn 0 ∈ n.inn := rd_mem (by omega) (by have := hN.l1; omega)
    have hr0 : rd (n.inn.map R) 0 = R (rd n.inn 0) := rd_map hN.l1
    have hg : n.grate (n.inn.map R) = (R i, true) := by
      rw [grate_eq hk (fun x hx => by
        simp only [List.mem_map] at hx
        obtain ⟨j, hj, rfl⟩ := hx
        rw [hr0]; exact hN.same j hj _ h0m) (by rw [hr0]; exact hN.still _ h0m), ← hN.rt]
    have hw : n.wide (n.inn.map W) = W i := by
      have := both_eq n (n.inn.map W)
      unfold Nd.both at this
      simp only [Bool.and_eq_true, beq_iff_eq] at this
      rw [this.2]; exact hN.wd.symm
    rw [e1, e2, chk_eq, hN.chk, hg, hw]
    simp only [bne_self_eq_false, Bool.false_eq_true, if_false, Bool.not_true]
    have := GG.lookL r (o ++ [i]) (W1.set i.toNat (W i)) (R1.set i.toNat (R i)) (by rw [ho]; simp) (by simpa using hW) (by simpa using hR) (fun x hx' => by
      have hx0 : 0 ≤ x := by
        rcases hx' with rfl | hx'
        · omega
        · have := ordR_range (ns := ns) (k := ns.length) (o := []) (by simp) x (show x ∈ order ns by
            rw [ho]
            rcases List.mem_append.1 hx' with hx' | hx'
            · exact List.mem_append_left _ hx'
            · exact List.mem_append_right _ (by simp at hx'; subst hx'; simp))
          omega
      rw [rd_set (by omega) (by omega) hx0, rd_set (by omega) (by omega) hx0]
      by_cases e : x = i
      · subst e; rw [if_pos rfl, if_pos rfl]; exact ⟨rfl, rfl⟩
      · rw [if_neg e, if_neg e]
        refine hx x ?_
        rcases hx' with hx' | hx'
        · exact .inl hx'
        · rcases List.mem_append.1 hx' with hx' | hx'
          · exact .inr hx'
          · simp at hx'; exact absurd hx' e)
    obtain ⟨W2, R2, e3, e4, e5, e6⟩ := this
    exact ⟨W2, R2, e3, e4, e5, by simpa using e6⟩
theorem GG.mem_order (x : Int) (h1 : 1 ≤ x) (h2 : x ≤ ns.length) : x ∈ order ns := by
  by_cases hx : x ∈ order ns
  · exact hx
  · exfalso
    have hl := h.order_len
    have hnd : (x :: order ns).Nodup := List.nodup_cons.2 ⟨hx, order_nodup ns⟩
    have := nodup_len ns.length (x :: order ns) hnd fun y hy => by
      rcases List.mem_cons.1 hy with rfl | hy
      · exact ⟨h1, h2⟩
      · exact ordR_range (ns := ns) (k := ns.length) (o := []) (by simp) y hy
    simp at this
    omega
/-- what graph.look tells of a right graph -/
theorem GG.lookG {lo hi out : Int} (hm : mayG wd lo hi out ns = 0) : ∃ W2 R2, lookG wd lo hi out ns = (0, order ns, W2, R2) ∧ W2.length = ns.length + 1 ∧ R2.length = ns.length + 1 ∧ ∀ x : Int, 0 ≤ x → x ≤ ns.length → rd W2 x = W x ∧ rd R2 x = R x := by
  obtain ⟨W2, R2, e1, e2, e3, e4⟩ := h.lookL (order ns) [] (wd :: List.replicate ns.length 0) (1 :: List.replicate ns.length 0) rfl (by simp) (by simp) (fun x hx => by
    simp only [List.not_mem_nil, or_false] at hx
    subst hx
    exact ⟨h.W0.symm, h.R0.symm⟩)
  refine ⟨W2, R2, ?_, e2, e3, fun x h1 h2 => e4 x ?_⟩
  · unfold Aw.lookG
    rw [if_neg (by rw [hm]; decide), if_neg (by rw [h.order_len]; simp), e1]
    rfl
  · rcases Int.lt_or_le 0 x with h3 | h3
    · exact .inr (by simpa using h.mem_order x h3 h2)
    · exact .inl (by omega)
end
theorem GM.may {wd lo hi out : Int} {ns : List Nd} (h : GM wd lo hi out ns) : mayG wd lo hi out ns = 0 := by
  have hn := h.n0
  unfold mayG
  rw [if_neg (by simp; omega), if_neg, if_pos]
  · exact List.all_eq_true.2 fun n hm => List.all_eq_true.2 fun j hj => inB_iff.2 ((h.inn n hm).1.2 j hj)
  · have := h.wd0; have := h.lo0; have := h.hi0; have := h.out0
    unfold mayQ
    simp only [Bool.or_eq_true, decide_eq_true_eq]
    omega
/-! the plain law: graph.look and ref16.Look tell the same, of every graph -/
theorem rd_set_or (l : List Int) (k : Nat) (v x : Int) : rd (l.set k v) x = v ∨ rd (l.set k v) x = rd l x := by
  unfold rd
  rw [List.getD_eq_getElem?_getD, List.getD_eq_getElem?_getD, List.getElem?_set]
  by_cases h : k = x.toNat
  · rw [if_pos h]
    by_cases h2 : k < l.length
    · rw [if_pos h2]; exact .inl rfl
    · rw [if_neg h2]; right
      rw [List.getElem?_eq_none (by omega)]
  · rw [if_neg h]; exact .inr rfl
theorem gwin_win {n : Nd} (hk : inB n.k 1 12 = true) : n.gwin = rWin n.k := by
  cases h : rWin n.k with
  | false => exact gwin_eq hk h
  | true =>
    unfold rWin at h
    simp only [Bool.or_eq_true, beq_iff_eq] at h
    unfold Nd.gwin
    simp only [Bool.or_eq_true, decide_eq_true_eq, beq_iff_eq]
    omega
theorem step_range {n : Nd} {v : Int} (hs : n.sized v = true) : 1 ≤ n.rStp ∧ n.rStp ≤ 4 := by
  unfold Nd.rStp
  cases hf : rFour n.k with
  | false => rw [if_neg (by decide)]; decide
  | true =>
    rw [if_pos rfl]
    unfold Nd.sized at hs
    have h8 : n.s8 = false := by
      cases h : n.s8 with
      | false => rfl
      | true =>
        exfalso
        rw [h] at hs
        cases n.s4 <;> simp at hs
    unfold Nd.s8 at h8
    rw [hf, Bool.true_and] at h8
    simp only [Bool.or_eq_false_iff, Bool.not_eq_false'] at h8
    exact inB_iff.1 h8.1
theorem grate_rate {n : Nd} {l : List Int} {v B : Int} (hk : inB n.k 1 12 = true) (hs : n.sized v = true) (h0 : 0 ≤ rd l 0) (h1 : rd l 0 ≤ B) (hB : B * 4 ≤ 1000000000) : (n.grate l).2 = !decide (n.rate l < 0) ∧ (0 ≤ n.rate l → (n.grate l).1 = n.rate l ∧ n.rate l ≤ B * 4) := by
  have hst := step_range hs
  have ha : l.any (· != rd l 0) = !l.all (· == rd l 0) := by
    rw [List.not_all_eq_any_not]; rfl
  have hm := mul_le (rd l 0) B n.rStp 4 h0 h1 (by omega) hst.2
  unfold Nd.grate Nd.rate
  rw [ha, gwin_win hk, stp_eqW]
  cases l.all (· == rd l 0) with
  | false => exact ⟨rfl, fun h => absurd (show (0 : Int) ≤ -1 from h) (by decide)⟩
  | true =>
    simp only [Bool.not_true, Bool.false_or, Bool.true_eq_false, if_false]
    cases hz : (rd l 0 == 0 && (rWin n.k || n.k == 5)) with
    | true => exact ⟨rfl, fun h => absurd (show (0 : Int) ≤ -1 from h) (by decide)⟩
    | false =>
      simp only [Bool.false_eq_true, if_false]
      cases h5 : (n.k == 5) with
      | true => exact ⟨rfl, fun _ => ⟨rfl, by show (0 : Int) ≤ B * 4; omega⟩⟩
      | false =>
        simp only [Bool.false_eq_true, if_false]
        rw [w64 (by omega) (by omega)]
        refine ⟨?_, fun _ => ⟨by first | rfl | trivial, hm.2⟩⟩
        simp; omega
theorem lookL_eq (ns : List Nd) : ∀ (r W R : List Int) (B : Int), (∀ x, 0 ≤ rd R x ∧ rd R x ≤ B) → 0 ≤ B → B * 4 ^ r.length ≤ 1000000000 → lookL ns r W R = lookM ns r W R
  | [], _, _, _, _, _, _ => rfl
  | i :: r, W, R, B, hR, hB0, hB => by
    rw [lookL_cons, lookM_cons, chk_eq]
    generalize nd ns (i - 1) = n
    cases hc : (n.rchk (n.inn.map (rd W)) != 0) with
    | true => simp only [if_true]
    | false =>
      simp only [Bool.false_eq_true, if_false]
      have hc0 : n.rchk (n.inn.map (rd W)) = 0 := bne_eq_false_iff_eq.mp hc
      obtain ⟨_, h7, _, _, hs, _⟩ := rchk_unpack hc0
      have hk : inB n.k 1 12 = true := by
        unfold Nd.r7 at h7
        simp only [Bool.or_eq_false_iff, Bool.not_eq_false'] at h7
        exact h7.1.1
      have hB4 : B * 4 ≤ 1000000000 := by
        rw [List.length_cons, Int.pow_succ] at hB
        have h1 : (1 : Int) ≤ 4 ^ r.length := by have : (0 : Int) < 4 ^ r.length := Int.pow_pos (by decide); omega
        have h2 : B * 4 * 1 ≤ B * 4 * 4 ^ r.length := Int.mul_le_mul_of_nonneg_left h1 (by omega)
        have h3 : B * (4 ^ r.length * 4) = B * 4 * 4 ^ r.length := by rw [Int.mul_comm (4 ^ r.length) 4, Int.mul_assoc]
        omega
      have h0 : 0 ≤ rd (n.inn.map (rd R)) 0 ∧ rd (n.inn.map (rd R)) 0 ≤ B := by
        cases n.inn with
        | nil => exact ⟨show (0 : Int) ≤ 0 by decide, show (0 : Int) ≤ B from hB0⟩
        | cons x t => exact hR x
      have hg := grate_rate hk hs h0.1 h0.2 hB4
      rw [hg.1, Bool.not_not]
      cases hd : decide (n.rate (n.inn.map (rd R)) < 0) with
      | true => simp only [if_true]
      | false =>
        simp only [Bool.false_eq_true, if_false]
        have h1 := hg.2 (by have := of_decide_eq_false hd; omega)
        have hw : n.wide (n.inn.map (rd W)) = n.rwide (n.inn.map (rd W)) := by
          have := both_eq n (n.inn.map (rd W))
          unfold Nd.both at this
          simp only [Bool.and_eq_true, beq_iff_eq] at this
          exact this.2
        rw [h1.1, hw]
        refine lookL_eq ns r _ _ (B * 4) (fun x => ?_) (by omega) (by rw [List.length_cons, Int.pow_succ, Int.mul_comm _ 4, ← Int.mul_assoc] at hB; exact hB)
        have h2 := hR x
        have h3 := of_decide_eq_false hd
        rcases rd_set_or R i.toNat (n.rate (n.inn.map (rd R))) x with e | e <;> rw [e] <;> omega
theorem look_same (wd lo hi out : Int) (ns : List Nd) : lookG wd lo hi out ns = lookR wd lo hi out ns := by
  unfold lookG lookR
  cases hm : (mayG wd lo hi out ns != 0) with
  | true => simp only [if_true]
  | false =>
    simp only [Bool.false_eq_true, if_false]
    have hN := mayG_ok (bne_eq_false_iff_eq.mp hm)
    have hle : (order ns).length ≤ ns.length := by
      show (ordR ns ns.length []).length ≤ _
      simpa using (ordR_length (ns := ns) ns.length []).2
    have e : (!((order ns).length == ns.length)) = decide (((order ns).length : Int) < ns.length) := by
      rw [Bool.eq_iff_iff]; simp; omega
    rw [e]
    cases decide (((order ns).length : Int) < ns.length) with
    | true => simp only [if_true]
    | false =>
      simp only [Bool.false_eq_true, if_false]
      have hb : ∀ x, 0 ≤ rd (1 :: List.replicate ns.length 0) x ∧ rd (1 :: List.replicate ns.length 0) x ≤ 1 := fun x => by
        unfold rd
        rw [List.getD_eq_getElem?_getD]
        cases h : x.toNat with
        | zero => simp
        | succ k =>
          rw [List.getElem?_cons_succ, List.getElem?_replicate]
          split <;> simp
      rw [lookL_eq ns (order ns) (wd :: List.replicate ns.length 0) (1 :: List.replicate ns.length 0) 1 hb (by decide) ?_]
      · have h1 : (4 : Int) ^ (order ns).length ≤ 4 ^ 12 := by
          have := Nat.pow_le_pow_right (show 0 < 4 by decide) (show (order ns).length ≤ 12 by omega)
          have h2 : ((4 ^ (order ns).length : Nat) : Int) ≤ ((4 ^ 12 : Nat) : Int) := by omega
          simpa using h2
        have h3 : (4 : Int) ^ 12 = 16777216 := by decide
        omega
theorem lookL_len (ns : List Nd) : ∀ (r W R : List Int), (lookL ns r W R).2.1.length ≤ W.length ∧ (lookL ns r W R).2.2.length ≤ R.length
  | [], _, _ => ⟨Nat.le_refl _, Nat.le_refl _⟩
  | i :: r, W, R => by
    rw [lookL_cons]
    split
    · exact ⟨Nat.zero_le _, Nat.zero_le _⟩
    · split
      · exact ⟨Nat.zero_le _, Nat.zero_le _⟩
      · have := lookL_len ns r (W.set i.toNat ((nd ns (i - 1)).wide ((nd ns (i - 1)).inn.map (rd W)))) (R.set i.toNat ((nd ns (i - 1)).grate ((nd ns (i - 1)).inn.map (rd R))).1)
        rw [List.length_set, List.length_set] at this
        exact this
theorem lookG_len (wd lo hi out : Int) (ns : List Nd) : (lookG wd lo hi out ns).2.1.length ≤ ns.length + 1 ∧ (lookG wd lo hi out ns).2.2.1.length ≤ ns.length + 1 ∧ (lookG wd lo hi out ns).2.2.2.length ≤ ns.length + 1 := by
  have hle : (order ns).length ≤ ns.length := by
    show (ordR ns ns.length []).length ≤ _
    simpa using (ordR_length (ns := ns) ns.length []).2
  have hL := lookL_len ns (order ns) (wd :: List.replicate ns.length 0) (1 :: List.replicate ns.length 0)
  unfold lookG
  split
  · exact ⟨Nat.zero_le _, Nat.zero_le _, Nat.zero_le _⟩
  · split
    · exact ⟨Nat.zero_le _, Nat.zero_le _, Nat.zero_le _⟩
    · generalize lookL ns (order ns) (wd :: List.replicate ns.length 0) (1 :: List.replicate ns.length 0) = q at hL ⊢
      obtain ⟨e, W, R⟩ := q
      simp only [List.length_cons, List.length_replicate] at hL
      simp only
      split
      · exact ⟨Nat.zero_le _, Nat.zero_le _, Nat.zero_le _⟩
      · exact ⟨by show (order ns).length ≤ _; omega, hL.1, hL.2⟩
/-- a call under a guard that is true, told by a relation -/
theorem CallN_tx {E : Env} {ops : List Oper} {o : Oper} {s : St} {rest : List Oper} {K : St → Prop} {fx : Operand} {args : Array Operand} {ts : Array TypeId} {f : Nat} {caps xs : List S} {d : Nat} {post : S → Prop}
    (C : Cg E.P E.T f [] xs (fun r H => H = [] ∧ post r)) (ho : o.op = .call { callee := .value fx, args := args, argTypes := ts }) (hd : o.dst = some d) (hf : stp (ev s fx) = .fn f caps) (c1 : stc (ev s fx)) (c2 : stcL s args.toList)
    (hxs : stpL s args.toList ++ caps = xs) (hdn : d < E.n) (hr : ∀ r, post r → SQ E ops rest ⟨(d, r) :: s.t, s.h⟩ K) : CallN E ops o (some true) s rest K := by
  intro hw _ Q a w η h hK
  have hw := hw true rfl a w η h
  unfold wpList
  rw [if_pos hw]
  refine .inl ?_
  obtain ⟨vs, h1, h2⟩ := call_run h ho hf c1 c2 C.1
  unfold Oper.wp
  rw [h1]
  show Calls E.P f vs.toArray w _
  refine (C.2 (Fr E s.h η) w η vs h.hT (In.of h (show inH s.h [] from trivial)) (hxs ▸ h2)).mono ?_
  rintro e w' ⟨r, v, Ho, η', rfl, ⟨rfl, hp⟩, hv, hO⟩
  obtain ⟨hR, hG, hS⟩ := hO.rel h (show inH s.h [] from trivial) fun k' hk' => by rw [newK_same] at hk'; cases hk'
  have hi : inH s.h [] := trivial
  have hR2 : Rel E s a w' η' := by
    have := hR.ext (h' := s.h) fun k => (cgS_same hi k).symm
    rw [show (cgS s [] []).t = s.t by show killT (newK [] []) s.t = s.t; rw [newK_same, killT_none]] at this
    exact this
  have hF : Sub (Fr E (cgS s [] []).h η') w' (Fr E s.h η') w' := fun b o hb ho => ⟨⟨hb.1, fun k o' hk => hb.2 k o' (by rw [cgS_same hi k]; exact hk)⟩, ho⟩
  exact SQ_ok hK rest _ (hr r hp) _ _ η' (by rw [hd]; exact hR2.put hdn (RS.mono hF _ _ (RS.mono hG _ _ hv)))
end Go.Proofs.YtohhaonjckfkaaaDoor.Aw
namespace Go.Proofs.YtohhaonjckfkaaaDoor.Aw
open Go.RowKit
attribute [local go_sem_proc] Nat.reduceAdd Nat.reduceMul Nat.reduceSub Nat.reduceEqDiff Nat.reduceLeDiff Nat.reduceBEq Nat.reduceBNe Int.reduceToNat reduceIte reduceCtorEq
attribute [local go_sem] initT SQ so pe he ev lk constS stp stc gdS nth pickS pickD loadS cellsAt okAt fieldAddrS fieldS partS indexAddrS indexS extractS binS binD binI isShift unS convS lenS sliceS bndI bndC mmS mm2 mmD builtS fillS okCells cellsS splS solid aliveL alive okS boxS allocS makeS bsliceS elemsOf dcells stF storeS frzA frz frzT frzS frzL frzO frzH appS srcS appVC killS killT killC killH killO k1 k2 S.has S.hasL St.add St.upd dropH lh cond_or cond_and rw_intC rw_intC0 rw_set rw_app rw_apps rw_rep rw_slice wr64 cond_true cond_false true_and and_true List.map_cons List.map_nil List.length_cons List.length_nil List.drop_succ_cons List.drop_zero List.take_succ_cons List.take_zero List.nil_append List.cons_append List.getD_cons_zero List.getD_cons_succ List.headD_cons List.length_map ite_true ite_false if_true if_false Bool.false_eq_true and_self forall_const List.drop_nil List.take_nil List.append_nil Option.map_some Option.map_none List.mapM_cons List.mapM_nil Option.bind_eq_bind Option.bind_some Option.pure_def knows resL resV oneS freshS freshL cv cvL stpL stcL or_true true_or or_false false_or List.all_cons List.all_nil Bool.and_self Bool.or_self Bool.true_and Bool.and_true Bool.or_false Bool.false_or implies_true flatD allm_nil allm_cons List.getElem?_cons_zero List.getElem?_cons_succ Nd.cs Nd.ds ml mln Option.isSome_some Option.isSome_none eq_self Int.toNat_natCast AP ldOk isLd inL subL crt chg chgS chgP idxs aliveW Option.toList_some Option.toList_none Option.toList RetG Nd.win frzA offK keepH aliveK nkH closedH closedO keysK inH St.upd rowO List.contains_cons List.contains_nil Bool.or_self Option.isNone_none Option.isNone_some Bool.not_true Bool.not_false gcs rowN e0N frzC
attribute [local go_sem] sz2 ag2 ok2 kk2 iu2 zc2 zd2 by2 sz3 ag3 ok3 kk3 iu3 zc3 zd3 by3 sz4 ag4 ok4 bo4 zc4 zd4 by4 sz5 ag5 ok5 kk5 iu5 zc5 zd5 by5 sz9 ag9 ok9 st9 zc9 zd9 by9 sz12 ag12 ok12 kk12 iu12 zc12 zd12 by12 sz15 ag15 ok15 zc15 by15 sz16 ag16 ok16 zc16 by16 sz21 ag21 ok21 kk21 iu21 zc21 zd21 by21 sz22 ag22 ok22 sl22 zc22 zd22 by22 sz23 ag23 ok23 zc23 zd23 pl23 by23 fl23_0 fl23_1 fl23_2 sz24 ag24 ok24 zc24 zd24 pl24 by24 fl24_0 fl24_1 fl24_2 sz25 ag25 ok25 zc25 zd25 pl25 by25 fl25_0 fl25_1 sz26 ag26 ok26 zc26 zd26 pl26 by26 fl26_0 fl26_1 sz28 ag28 ok28 zc28 zd28 pl28 by28 fl28_0 fl28_1 fl28_2 fl28_3 fl28_4 fl28_5 fl28_6 fl28_7 fl28_8 fl28_9 fl28_10 fl28_11 fl28_12 fl28_13 fl28_14 sz29 ag29 ok29 zc29 zd29 pl29 by29 fl29_0 fl29_1 fl29_2 fl29_3 fl29_4 fl29_5 fl29_6 fl29_7 fl29_8 fl29_9 fl29_10 fl29_11 fl29_12 fl29_13 fl29_14 sz39 ag39 ok39 kk39 iu39 zc39 zd39 by39 sz43 ag43 ok43 sl43 ar43 zc43 zd43 pl43 by43 sz46 ag46 ok46 sl46 zc46 zd46 by46 sz47 ag47 ok47 zc47 zd47 pl47 by47 fl47_0 fl47_1 fl47_2 fl47_3 fl47_4 sz48 ag48 ok48 zc48 zd48 pl48 by48 fl48_0 fl48_1 fl48_2 fl48_3 fl48_4 sz52 ag52 ok52 zc52 zd52 pl52 by52 fl52_0 fl52_1 fl52_2 sz53 ag53 ok53 zc53 zd53 pl53 by53 fl53_0 fl53_1 fl53_2 sz54 ag54 ok54 sl54 ar54 zc54 zd54 pl54 by54 sz58 ag58 ok58 sl58 zc58 zd58 by58 sz59 ag59 ok59 kk59 iu59 zc59 zd59 by59 sz62 ag62 ok62 sl62 ar62 zc62 zd62 pl62 by62 sz67 ag67 ok67 zc67 by67 sz68 ag68 ok68 zc68 zd68 pl68 by68 fl68_0 fl68_1 sz69 ag69 ok69 zc69 zd69 pl69 by69 fl69_0 fl69_1 sz75 ag75 ok75 zc75 zd75 pl75 by75 fl75_0 fl75_1 fl75_2 sz76 ag76 ok76 zc76 zd76 pl76 by76 fl76_0 fl76_1 fl76_2 sz79 ag79 ok79 zc79 zd79 pl79 by79 fl79_0 fl79_1 fl79_2 fl79_3 sz80 ag80 ok80 zc80 zd80 pl80 by80 fl80_0 fl80_1 fl80_2 fl80_3 sz82 ag82 ok82 zc82 by82 sz84 ag84 ok84 kk84 iu84 zc84 zd84 by84 sz88 ag88 ok88 zc88 zd88 pl88 by88 fl88_0 fl88_1 fl88_2 sz89 ag89 ok89 zc89 zd89 pl89 by89 fl89_0 fl89_1 fl89_2 sz94 ag94 ok94 sl94 ar94 zc94 zd94 pl94 by94 sz98 ag98 ok98 sl98 ar98 zc98 zd98 pl98 by98 sz105 ag105 ok105 sl105 ar105 zc105 zd105 pl105 by105 sz107 ag107 ok107 zc107 zd107 pl107 by107 fl107_0 fl107_1 sz108 ag108 ok108 sl108 ar108 zc108 zd108 pl108 by108 sz109 ag109 ok109 zc109 by109 sz118 ag118 ok118 kk118 iu118 zc118 zd118 by118 sz122 ag122 ok122 zc122 by122
theorem looks_c {T : World → Prop} (Tk : KT T) (wd lo hi out : Int) (ns : List Nd) (hns : ns.length ≤ 1000) (hin : ∀ n ∈ ns, n.inn.length ≤ 4096 ∧ n.ws.length ≤ 65536 ∧ n.bs.length ≤ 65536) : Cg Go.Proofs.Tryd.prog T 28 [] [.agg (gcs wd lo hi out (.d (rowN ns)))] (fun r H => H = [] ∧ r = .d (.b true)) := by
  refine Cg_of [] Tk.m Go.Proofs.Tryd.func28 rfl rfl Go.Proofs.Tryd.ntmps28 (by simp) rfl (rs := [.tmp 2]) rfl fun E hP hn hT hpn => ?_
  (repeat (first | refine Tr.seq ?_ | refine Tr.skip ?_ | refine Tr.label ?_ | refine Tr.block ?_ | refine Tr.scope ?_ | refine gs1 ?_ | refine gs2 ?_ | refine gs3 ?_ | refine Tr.exit ?_ | refine Tr.goto ?_ | refine Tr.ret ?_ | refine n1 ?_ | refine n2 ?_ | refine n3 ?_ | refine n4 ?_ | refine n5 ?_ | refine n6 ?_ | refine n7 ?_ | refine n8 ?_ | refine n9 (by decide) ?_))
  (first | refine r1 ?_ | refine r2 ?_ | refine r3 ?_); intro K hK; simp only [go_sem, hP, hn]; (repeat (refine ⟨by first | trivial | omega | (simp <;> omega) | (simp +contextual; done) | (clear hK; grind), ?_⟩)); refine hK _ ?_; clear K hK
  (repeat (first | refine Tr.seq ?_ | refine Tr.skip ?_ | refine Tr.label ?_ | refine Tr.block ?_ | refine Tr.scope ?_ | refine gs1 ?_ | refine gs2 ?_ | refine gs3 ?_ | refine Tr.exit ?_ | refine Tr.goto ?_ | refine Tr.ret ?_ | refine n1 ?_ | refine n2 ?_ | refine n3 ?_ | refine n4 ?_ | refine n5 ?_ | refine n6 ?_ | refine n7 ?_ | refine n8 ?_ | refine n9 (by decide) ?_))
  (first | refine r1 ?_ | refine r2 ?_ | refine r3 ?_); intro K hK; simp only [go_sem, hP, hn]
  (repeat (refine ⟨by first | trivial | omega | (simp <;> omega) | (simp +contextual; done) | (clear hK; grind), ?_⟩))
  refine CallN_cs (Hi := [] ) (by rw [hP, hT]; exact  Look_r Tk.m wd lo hi out ns (by omega) hin) rfl rfl rfl trivial (by simp only [go_sem, hP, hn]; try trivial) (by simp only [go_sem, hP, hn]; try rfl) (by simp only [inH, go_sem, hP, hn]; try simp) (by rw [hn]; decide) ?_; simp only [go_sem, hP, hn]; (repeat (refine ⟨by first | trivial | omega | (simp <;> omega) | (simp +contextual; done) | (clear hK; grind), ?_⟩))
  have hO := Order_c Tk wd lo hi out ns (by omega) hin
  have hW := Widths_c Tk wd lo hi out ns (by omega) hin
  have hR := Rates_c Tk wd lo hi out ns (by omega) hin
  have hC := Check_c Tk wd lo hi out ns (by omega) hin
  have hlen := lookG_len wd lo hi out ns
  rw [← look_same]
  simp only [rtup]
  generalize lookG wd lo hi out ns = q at hO hW hR hC hlen ⊢
  simp only [go_sem, hP, hn]
  (repeat (refine ⟨by first | trivial | omega | (simp <;> omega) | (simp +contextual; done) | (clear hK; grind), ?_⟩))
  refine hK _ ?_; clear K hK
  (repeat (first | refine Tr.seq ?_ | refine Tr.skip ?_ | refine Tr.label ?_ | refine Tr.block ?_ | refine Tr.scope ?_ | refine gs1 ?_ | refine gs2 ?_ | refine gs3 ?_ | refine Tr.exit ?_ | refine Tr.goto ?_ | refine Tr.ret ?_ | refine n1 ?_ | refine n2 ?_ | refine n3 ?_ | refine n4 ?_ | refine n5 ?_ | refine n6 ?_ | refine n7 ?_ | refine n8 ?_ | refine n9 (by decide) ?_))
  refine Tr.le (Le.keep [1, 3]) ?_; simp only [List.map_cons, List.map_nil, lk, Nat.reduceEqDiff, reduceIte]
  (first | refine d1 (.p true 0 (.p true 2 (.p true 3 (.alt 1 (.alt 4 (.p false 5 .nil) .nil) .nil)))) [] (by rw [hP]; kernel_rfl) (by kernel_rfl) (by simp only [go_sem, hP, hn]; try simp) (fun _ _ h => h) fun K hK => ?_ | refine d2 (.p true 0 (.p true 2 (.p true 3 (.alt 1 (.alt 4 (.p false 5 .nil) .nil) .nil)))) [] (by rw [hP]; kernel_rfl) (by kernel_rfl) (by simp only [go_sem, hP, hn]; try simp) (fun _ _ h => h) fun K hK => ?_ | refine d4 (.p true 0 (.p true 2 (.p true 3 (.alt 1 (.alt 4 (.p false 5 .nil) .nil) .nil)))) [] (by rw [hP]; kernel_rfl) (by kernel_rfl) (by simp only [go_sem, hP, hn]; try simp) (fun _ _ h => h) fun K hK => ?_); simp only [go_sem, hP, hn]
  (repeat (refine ⟨by first | trivial | omega | (simp <;> omega) | (simp +contextual; done) | (clear hK; grind), ?_⟩))
  refine CallP_cs (by rw [hP, hT]; exact hO) rfl rfl rfl trivial (by simp only [go_sem, hP, hn]; try trivial) (by simp only [go_sem, hP, hn]; try rfl) (by rw [hn]; decide) ?_; simp only [go_sem, hP, hn]; (repeat (refine ⟨by first | trivial | omega | (simp <;> omega) | (simp +contextual; done) | (clear hK; grind), ?_⟩))
  (repeat (refine ⟨by first | trivial | omega | (simp <;> omega) | (simp +contextual; done) | (clear hK; grind), ?_⟩))
  refine p1 (by rw [hP, hT]; exact Same_c Tk.m q.2.1 q.2.1 (by omega)) rfl rfl rfl trivial (by simp only [go_sem, hP, hn]; try trivial) (by simp only [go_sem, hP, hn]; try rfl) (by rw [hn]; decide) (by rfl) ?_; simp only [go_sem, hP, hn]; (repeat (refine ⟨by first | trivial | omega | (simp <;> omega) | (simp +contextual; done) | (clear hK; grind), ?_⟩))
  refine hK _ ?_; clear K hK
  refine Tr.le (Le.keep [1, 3, 4]) ?_; simp only [List.map_cons, List.map_nil, lk, Nat.reduceEqDiff, reduceIte]
  (first | refine d1 (.p true 0 (.p true 2 (.p true 3 (.alt 1 (.alt 4 (.p false 5 .nil) .nil) .nil)))) [] (by rw [hP]; kernel_rfl) (by kernel_rfl) (by simp only [go_sem, hP, hn]; try simp) (fun _ _ h => h) fun K hK => ?_ | refine d2 (.p true 0 (.p true 2 (.p true 3 (.alt 1 (.alt 4 (.p false 5 .nil) .nil) .nil)))) [] (by rw [hP]; kernel_rfl) (by kernel_rfl) (by simp only [go_sem, hP, hn]; try simp) (fun _ _ h => h) fun K hK => ?_ | refine d4 (.p true 0 (.p true 2 (.p true 3 (.alt 1 (.alt 4 (.p false 5 .nil) .nil) .nil)))) [] (by rw [hP]; kernel_rfl) (by kernel_rfl) (by simp only [go_sem, hP, hn]; try simp) (fun _ _ h => h) fun K hK => ?_); simp only [go_sem, hP, hn]
  (repeat (refine ⟨by first | trivial | omega | (simp <;> omega) | (simp +contextual; done) | (clear hK; grind), ?_⟩))
  refine CallP_cs (by rw [hP, hT]; exact hW) rfl rfl rfl trivial (by simp only [go_sem, hP, hn]; try trivial) (by simp only [go_sem, hP, hn]; try rfl) (by rw [hn]; decide) ?_; simp only [go_sem, hP, hn]; (repeat (refine ⟨by first | trivial | omega | (simp <;> omega) | (simp +contextual; done) | (clear hK; grind), ?_⟩))
  (repeat (refine ⟨by first | trivial | omega | (simp <;> omega) | (simp +contextual; done) | (clear hK; grind), ?_⟩))
  refine p1 (by rw [hP, hT]; exact Same_c Tk.m q.2.2.1 q.2.2.1 (by omega)) rfl rfl rfl trivial (by simp only [go_sem, hP, hn]; try trivial) (by simp only [go_sem, hP, hn]; try rfl) (by rw [hn]; decide) (by rfl) ?_; simp only [go_sem, hP, hn]; (repeat (refine ⟨by first | trivial | omega | (simp <;> omega) | (simp +contextual; done) | (clear hK; grind), ?_⟩))
  refine hK _ ?_; clear K hK
  refine Tr.le (Le.keep [1, 3, 4, 5]) ?_; simp only [List.map_cons, List.map_nil, lk, Nat.reduceEqDiff, reduceIte]
  (first | refine d1 (.p true 0 (.p true 2 (.p true 3 (.alt 1 (.alt 4 (.p false 5 .nil) .nil) .nil)))) [] (by rw [hP]; kernel_rfl) (by kernel_rfl) (by simp only [go_sem, hP, hn]; try simp) (fun _ _ h => h) fun K hK => ?_ | refine d2 (.p true 0 (.p true 2 (.p true 3 (.alt 1 (.alt 4 (.p false 5 .nil) .nil) .nil)))) [] (by rw [hP]; kernel_rfl) (by kernel_rfl) (by simp only [go_sem, hP, hn]; try simp) (fun _ _ h => h) fun K hK => ?_ | refine d4 (.p true 0 (.p true 2 (.p true 3 (.alt 1 (.alt 4 (.p false 5 .nil) .nil) .nil)))) [] (by rw [hP]; kernel_rfl) (by kernel_rfl) (by simp only [go_sem, hP, hn]; try simp) (fun _ _ h => h) fun K hK => ?_); simp only [go_sem, hP, hn]
  (repeat (refine ⟨by first | trivial | omega | (simp <;> omega) | (simp +contextual; done) | (clear hK; grind), ?_⟩))
  refine CallP_cs (by rw [hP, hT]; exact hR) rfl rfl rfl trivial (by simp only [go_sem, hP, hn]; try trivial) (by simp only [go_sem, hP, hn]; try rfl) (by rw [hn]; decide) ?_; simp only [go_sem, hP, hn]; (repeat (refine ⟨by first | trivial | omega | (simp <;> omega) | (simp +contextual; done) | (clear hK; grind), ?_⟩))
  (repeat (refine ⟨by first | trivial | omega | (simp <;> omega) | (simp +contextual; done) | (clear hK; grind), ?_⟩))
  refine p1 (by rw [hP, hT]; exact Same_c Tk.m q.2.2.2 q.2.2.2 (by omega)) rfl rfl rfl trivial (by simp only [go_sem, hP, hn]; try trivial) (by simp only [go_sem, hP, hn]; try rfl) (by rw [hn]; decide) (by rfl) ?_; simp only [go_sem, hP, hn]; (repeat (refine ⟨by first | trivial | omega | (simp <;> omega) | (simp +contextual; done) | (clear hK; grind), ?_⟩))
  refine hK _ ?_; clear K hK
  refine Tr.le (Le.keep [1, 3, 4, 5, 6]) ?_; simp only [List.map_cons, List.map_nil, lk, Nat.reduceEqDiff, reduceIte]
  (first | refine d1 (.p true 0 (.p true 2 (.p true 3 (.alt 1 (.p false 4 (.p false 5 (.p true 6 (.p false 7 (.p false 8 (.p true 9 (.p false 10 (.p false 11 (.p true 12 (.p false 13 (.p false 14 .nil))))))))))) .nil)))) [] (by rw [hP]; kernel_rfl) (by kernel_rfl) (by simp only [go_sem, hP, hn]; try simp) (fun _ _ h => h) fun K hK => ?_ | refine d2 (.p true 0 (.p true 2 (.p true 3 (.alt 1 (.p false 4 (.p false 5 (.p true 6 (.p false 7 (.p false 8 (.p true 9 (.p false 10 (.p false 11 (.p true 12 (.p false 13 (.p false 14 .nil))))))))))) .nil)))) [] (by rw [hP]; kernel_rfl) (by kernel_rfl) (by simp only [go_sem, hP, hn]; try simp) (fun _ _ h => h) fun K hK => ?_ | refine d4 (.p true 0 (.p true 2 (.p true 3 (.alt 1 (.p false 4 (.p false 5 (.p true 6 (.p false 7 (.p false 8 (.p true 9 (.p false 10 (.p false 11 (.p true 12 (.p false 13 (.p false 14 .nil))))))))))) .nil)))) [] (by rw [hP]; kernel_rfl) (by kernel_rfl) (by simp only [go_sem, hP, hn]; try simp) (fun _ _ h => h) fun K hK => ?_); simp only [go_sem, hP, hn]
  (repeat (refine ⟨by first | trivial | omega | (simp <;> omega) | (simp +contextual; done) | (clear hK; grind), ?_⟩))
  refine CallP_cs (by rw [hP, hT]; exact hC) rfl rfl rfl trivial (by simp only [go_sem, hP, hn]; try trivial) (by simp only [go_sem, hP, hn]; try rfl) (by rw [hn]; decide) ?_; simp only [go_sem, hP, hn]; (repeat (refine ⟨by first | trivial | omega | (simp <;> omega) | (simp +contextual; done) | (clear hK; grind), ?_⟩))
  (repeat (refine ⟨by first | trivial | omega | (simp <;> omega) | (simp +contextual; done) | (clear hK; grind), ?_⟩))
  refine hK _ ?_; clear K hK
  (repeat (first | ((first | refine r1 ?_ | refine r2 ?_ | refine r3 ?_); intro K hK; simp only [go_sem, hP, hn]; (repeat (refine ⟨by first | trivial | omega | (simp <;> omega) | (simp +contextual; done) | (clear hK; grind), ?_⟩)); refine hK _ ?_; clear K hK) | refine Tr.seq ?_ | refine Tr.skip ?_ | refine Tr.label ?_ | refine Tr.block ?_ | refine Tr.scope ?_ | refine gs1 ?_ | refine gs2 ?_ | refine gs3 ?_ | refine Tr.exit ?_ | refine Tr.goto ?_ | refine Tr.ret ?_ | refine n1 ?_ | refine n2 ?_ | refine n3 ?_ | refine n4 ?_ | refine n5 ?_ | refine n6 ?_ | refine n7 ?_ | refine n8 ?_ | refine n9 (by decide) ?_))
  simp only [RetG, go_sem]; (repeat (with_reducible refine And.intro ?_ ?_; (· first | trivial | omega | (simp <;> omega) | (simp +contextual; done) | (clear hK; grind))))
  simp
end Go.Proofs.YtohhaonjckfkaaaDoor.Aw
namespace Go.Proofs.YtohhaonjckfkaaaDoor.Aw
open Go.RowKit
/-! where numbers stand in a right graph's order -/
structure OP (ns : List Nd) (o : List Int) : Prop where
  len : o.length = ns.length
  inj : ∀ p q : Int, 0 ≤ p → p < o.length → 0 ≤ q → q < o.length → rd o p = rd o q → p = q
  rng : ∀ p : Int, 0 ≤ p → p < o.length → 1 ≤ rd o p ∧ rd o p ≤ ns.length
  all : ∀ i : Int, 1 ≤ i → i ≤ ns.length → ∃ p : Int, 0 ≤ p ∧ p < o.length ∧ rd o p = i
  inn : ∀ p : Int, 0 ≤ p → p < o.length → ∀ j ∈ (nd ns (rd o p - 1)).inn, j = 0 ∨ ∃ q : Int, 0 ≤ q ∧ q < p ∧ rd o q = j
  least : ∀ p i : Int, 0 ≤ p → p < o.length → 1 ≤ i → i ≤ ns.length → (∀ q : Int, 0 ≤ q → q < p → rd o q ≠ i) → (∀ j ∈ (nd ns (i - 1)).inn, j = 0 ∨ ∃ q : Int, 0 ≤ q ∧ q < p ∧ rd o q = j) → rd o p ≤ i
theorem rd_get {l : List Int} {p : Int} (h0 : 0 ≤ p) (h1 : p < l.length) : l[p.toNat]? = some (rd l p) := by
  unfold rd
  rw [List.getD_eq_getElem?_getD, List.getElem?_eq_getElem (by omega)]; rfl
theorem mem_take_rd {l : List Int} {p x : Int} (h0 : 0 ≤ p) (h1 : p ≤ l.length) : x ∈ l.take p.toNat ↔ ∃ q : Int, 0 ≤ q ∧ q < p ∧ rd l q = x := by
  constructor
  · intro h
    obtain ⟨k, hk, e⟩ := List.getElem_of_mem h
    rw [List.length_take] at hk
    refine ⟨k, by omega, by omega, ?_⟩
    rw [List.getElem_take] at e
    unfold rd
    rw [Int.toNat_natCast, List.getD_eq_getElem?_getD, List.getElem?_eq_getElem (by omega), Option.getD_some]
    exact e
  · rintro ⟨q, hq0, hq1, rfl⟩
    have := rd_get hq0 (show q < l.length by omega)
    exact List.mem_of_getElem? (i := q.toNat) (by rw [List.getElem?_take, if_pos (by omega)]; exact this)
theorem split_rd {l : List Int} {p : Int} (h0 : 0 ≤ p) (h1 : p < l.length) : l = l.take p.toNat ++ rd l p :: l.drop (p + 1).toNat := by
  rw [← drop_rd h0 h1, List.take_append_drop]
theorem GG.op {wd : Int} {ns : List Nd} {W R : Int → Int} {rk : Int → Nat} (h : GG wd ns W R rk) : OP ns (order ns) := by
  have hl := h.order_len
  have hnd := order_nodup ns
  have htop : ∀ p : Int, 0 ≤ p → p < (order ns).length → _ := fun p h0 h1 => order_top ns _ _ _ (split_rd h0 h1)
  refine ⟨hl, fun p q p0 p1 q0 q1 e => ?_, fun p p0 p1 => ?_, fun i i1 i2 => ?_, fun p p0 p1 j hj => ?_, fun p i p0 p1 i1 i2 hq hj => ?_⟩
  · have e1 := rd_get p0 p1
    have e2 := rd_get q0 q1
    rw [e] at e1
    have := (List.getElem?_inj (by omega) hnd).1 (e1.trans e2.symm)
    omega
  · have := htop p p0 p1
    omega
  · have := h.mem_order i i1 i2
    rw [← List.take_length (l := order ns)] at this
    have h2 := (mem_take_rd (l := order ns) (p := (order ns).length) (by omega) (by omega)).1 (by simpa using this)
    exact h2
  · have := (mayO_iff.1 (htop p p0 p1).1).2 j hj
    rcases this with h1 | h1
    · exact .inl h1
    · exact .inr ((mem_take_rd p0 (by omega)).1 h1)
  · refine (htop p p0 p1).2.1 i i1 i2 (mayO_iff.2 ⟨fun hm => ?_, fun j hm => ?_⟩)
    · obtain ⟨q, q0, q1, e⟩ := (mem_take_rd p0 (by omega)).1 hm
      exact hq q q0 q1 e
    · rcases hj j hm with h1 | h1
      · exact .inl h1
      · exact .inr ((mem_take_rd p0 (by omega)).2 h1)
/-! what is told of a right graph's nodes -/
structure ToldN (n : Nd) (W R : List Int) (i : Int) : Prop where
  l1 : 1 ≤ n.inn.length
  l2 : n.inn.length ≤ 2
  inn : ∀ j ∈ n.inn, 0 ≤ j ∧ j < W.length ∧ j < R.length
  wd : rd W i = n.wide (n.inn.map (rd W))
  w1 : 1 ≤ rd W i ∧ rd W i ≤ 16
  rt : rd R i = if (n.k == 5) = true then 0 else wrap64 (rd R (rd n.inn 0) * n.stp)
  same : ∀ j ∈ n.inn, rd R j = rd R (rd n.inn 0)
  wl : n.ws.length ≤ 4096
  bl : n.bs.length ≤ 4096
theorem GG.told {wd : Int} {ns : List Nd} {W R : Int → Int} {rk : Int → Nat} (h : GG wd ns W R rk) {W2 R2 : List Int} (hW : W2.length = ns.length + 1) (hR : R2.length = ns.length + 1) (hx : ∀ x : Int, 0 ≤ x → x ≤ ns.length → rd W2 x = W x ∧ rd R2 x = R x) (i : Int) (i1 : 1 ≤ i) (i2 : i ≤ ns.length) : ToldN (nd ns (i - 1)) W2 R2 i := by
  have hN := (h.node i i1 i2).1
  generalize nd ns (i - 1) = n at hN ⊢
  have e1 : n.inn.map (rd W2) = n.inn.map W := List.map_congr_left fun j hj => by have := hN.inn j hj; exact (hx j this.1 this.2.1).1
  have h0m : rd n.inn 0 ∈ n.inn := rd_mem (by omega) (by have := hN.l1; omega)
  have hRj : ∀ j ∈ n.inn, rd R2 j = R j := fun j hj => by have := hN.inn j hj; exact (hx j this.1 this.2.1).2
  have hr0 : rd (n.inn.map R) 0 = R (rd n.inn 0) := rd_map hN.l1
  have hb := both_eq n (n.inn.map W)
  unfold Nd.both at hb
  simp only [Bool.and_eq_true, beq_iff_eq] at hb
  refine ⟨hN.l1, hN.l2, fun j hj => by have := hN.inn j hj; omega, by rw [(hx i (by omega) i2).1, e1, hN.wd, hb.2], by rw [(hx i (by omega) i2).1, hN.wd]; exact rwide_pos hN.chk, ?_, fun j hj => by rw [hRj j hj, hRj _ h0m]; exact hN.same j hj _ h0m, hN.wl, hN.bl⟩
  rw [(hx i (by omega) i2).2, hN.rt, hRj _ h0m, stp_eqW]
  have ha : (n.inn.map R).all (· == rd (n.inn.map R) 0) = true := List.all_eq_true.2 fun x hx => by
    simp only [List.mem_map] at hx
    obtain ⟨j, hj, rfl⟩ := hx
    rw [hr0]; simpa using hN.same j hj _ h0m
  have hz2 : (rd (n.inn.map R) 0 == 0 && (rWin n.k || n.k == 5)) = false := by
    rw [hr0]
    cases e : (R (rd n.inn 0) == 0) with
    | false => rfl
    | true =>
      have := hN.still _ h0m (by simpa using e)
      rw [this.1, show (n.k == 5) = false by simpa using this.2]; rfl
  unfold Nd.rate
  rw [ha, hz2, hr0]
  simp only [Bool.true_eq_false, Bool.false_eq_true, if_false]
/-! numbers that are changed round -/
def turnR (N b : Int) (n : Nd) : Nd := { n with inn := n.inn.map fun x => if 0 < x then (x - 1 + b) % N + 1 else x }
def hsL (b : Int) (ns : List Nd) : List Nd := (List.range ns.length).map fun (k : Nat) => turnR ns.length b (nd ns (((k : Int) - b) % ns.length))
theorem hsL_len (b : Int) (ns : List Nd) : (hsL b ns).length = ns.length := by simp [hsL]
theorem hsL_nd {b : Int} {ns : List Nd} {k : Int} (h0 : 0 ≤ k) (h1 : k < ns.length) : nd (hsL b ns) k = turnR ns.length b (nd ns ((k - b) % ns.length)) := by
  have hk : k.toNat < ns.length := by omega
  unfold hsL
  unfold nd
  rw [List.getD_eq_getElem?_getD, List.getElem?_map, List.getElem?_range hk]
  simp only [Option.map_some, Option.getD_some]
  rw [show ((k.toNat : Nat) : Int) = k by omega]
theorem round_back {N b i : Int} (hN : 0 < N) (h0 : 0 ≤ i) (h1 : i < N) : ((i + b) % N - b) % N = i := by
  rw [Int.emod_sub_emod, show i + b - b = i by omega, Int.emod_eq_of_lt h0 h1]
theorem GG.turn {wd : Int} {ns : List Nd} {W R : Int → Int} {rk : Int → Nat} (h : GG wd ns W R rk) (hN : 0 < ns.length) (b : Int) : GG wd (hsL b ns) (fun i => W (if 0 < i then (i - 1 - b) % ns.length + 1 else i)) (fun i => R (if 0 < i then (i - 1 - b) % ns.length + 1 else i)) (fun i => rk (if 0 < i then (i - 1 - b) % ns.length + 1 else i)) := by
  have hN' : (0 : Int) < ns.length := by omega
  refine h.ren _ (fun x => if 0 < x then (x - 1 + b) % ns.length + 1 else x) _ (hsL_len b ns) rfl (fun j j0 j1 => ?_) (fun i i1 i2 => ?_) (fun i i1 i2 => ?_)
  · by_cases hj : 0 < j
    · have h2 := Int.emod_nonneg (j - 1 + b) (show (ns.length : Int) ≠ 0 by omega)
      have h3 := Int.emod_lt_of_pos (j - 1 + b) hN'
      simp only [if_pos hj]
      rw [if_pos (by omega), show (j - 1 + b) % (ns.length : Int) + 1 - 1 - b = (j - 1 + b) % (ns.length : Int) - b by omega, round_back hN' (by omega) (by omega)]
      omega
    · simp only [if_neg hj]
      exact ⟨j0, j1, by first | rfl | trivial⟩
  · have h2 := Int.emod_nonneg (i - 1 - b) (show (ns.length : Int) ≠ 0 by omega)
    have h3 := Int.emod_lt_of_pos (i - 1 - b) hN'
    rw [if_pos (by omega)]
    omega
  · rw [hsL_nd (by omega) (by omega)]
    simp only [if_pos (show 0 < i by omega)]
    rw [show (i - 1 - b) % (ns.length : Int) + 1 - 1 = (i - 1 - b) % (ns.length : Int) by omega]
    rfl
theorem rw_setN (es : List (List D)) (h : ∀ e ∈ es, e.length = 15) (i : Nat) (a0 a1 a2 a3 a4 a5 a6 a7 a8 a9 b0 b1 b2 b3 b4 : D) : setE es i 0 [a0, a1, a2, a3, a4, a5, a6, a7, a8, a9, b0, b1, b2, b3, b4] = es.set i [a0, a1, a2, a3, a4, a5, a6, a7, a8, a9, b0, b1, b2, b3, b4] := by
  unfold setE
  apply List.ext_getElem?
  intro j
  rw [List.getElem?_modify, List.getElem?_set]
  by_cases hij : i = j
  · subst hij
    rw [if_pos rfl]
    cases he : es[i]? with
    | none =>
      rw [if_neg (by intro hlt; rw [List.getElem?_eq_getElem hlt] at he; cases he)]; simp
    | some e =>
      have hlt := (List.getElem?_eq_some_iff.1 he).1
      have hm := h e (List.mem_of_getElem? he)
      rw [if_pos hlt]
      show some _ = some _
      simp only [if_true, List.take_zero, List.nil_append]
      rw [List.drop_eq_nil_of_le (by simp; omega), List.append_nil]
  · simp [hij]
end Go.Proofs.YtohhaonjckfkaaaDoor.Aw
namespace Go.Proofs.YtohhaonjckfkaaaDoor.Aw
open Go.RowKit
attribute [local go_sem_proc] Nat.reduceAdd Nat.reduceMul Nat.reduceSub Nat.reduceEqDiff Nat.reduceLeDiff Nat.reduceBEq Nat.reduceBNe Int.reduceToNat reduceIte reduceCtorEq
attribute [local go_sem] initT SQ so pe he ev lk constS stp stc gdS nth pickS pickD loadS cellsAt okAt fieldAddrS fieldS partS indexAddrS indexS extractS binS binD binI isShift unS convS lenS sliceS bndI bndC mmS mm2 mmD builtS fillS okCells cellsS splS solid aliveL alive okS boxS allocS makeS bsliceS elemsOf dcells stF storeS frzA frz frzT frzS frzL frzO frzH appS srcS appVC killS killT killC killH killO k1 k2 S.has S.hasL St.add St.upd dropH lh cond_or cond_and rw_intC rw_intC0 rw_set rw_app rw_apps rw_rep rw_slice wr64 cond_true cond_false true_and and_true List.map_cons List.map_nil List.length_cons List.length_nil List.drop_succ_cons List.drop_zero List.take_succ_cons List.take_zero List.nil_append List.cons_append List.getD_cons_zero List.getD_cons_succ List.headD_cons List.length_map ite_true ite_false if_true if_false Bool.false_eq_true and_self forall_const List.drop_nil List.take_nil List.append_nil Option.map_some Option.map_none List.mapM_cons List.mapM_nil Option.bind_eq_bind Option.bind_some Option.pure_def knows resL resV oneS freshS freshL cv cvL stpL stcL or_true true_or or_false false_or List.all_cons List.all_nil Bool.and_self Bool.or_self Bool.true_and Bool.and_true Bool.or_false Bool.false_or implies_true flatD allm_nil allm_cons List.getElem?_cons_zero List.getElem?_cons_succ Nd.cs Nd.ds ml mln Option.isSome_some Option.isSome_none eq_self Int.toNat_natCast AP ldOk isLd inL subL crt chg chgS chgP idxs aliveW Option.toList_some Option.toList_none Option.toList RetG Nd.win frzA offK keepH aliveK nkH closedH closedO keysK inH St.upd rowO List.contains_cons List.contains_nil Bool.or_self Option.isNone_none Option.isNone_some Bool.not_true Bool.not_false gcs rowN e0N frzC
attribute [local go_sem] sz2 ag2 ok2 kk2 iu2 zc2 zd2 by2 sz3 ag3 ok3 kk3 iu3 zc3 zd3 by3 sz4 ag4 ok4 bo4 zc4 zd4 by4 sz5 ag5 ok5 kk5 iu5 zc5 zd5 by5 sz9 ag9 ok9 st9 zc9 zd9 by9 sz12 ag12 ok12 kk12 iu12 zc12 zd12 by12 sz15 ag15 ok15 zc15 by15 sz16 ag16 ok16 zc16 by16 sz21 ag21 ok21 kk21 iu21 zc21 zd21 by21 sz22 ag22 ok22 sl22 zc22 zd22 by22 sz23 ag23 ok23 zc23 zd23 pl23 by23 fl23_0 fl23_1 fl23_2 sz24 ag24 ok24 zc24 zd24 pl24 by24 fl24_0 fl24_1 fl24_2 sz25 ag25 ok25 zc25 zd25 pl25 by25 fl25_0 fl25_1 sz26 ag26 ok26 zc26 zd26 pl26 by26 fl26_0 fl26_1 sz28 ag28 ok28 zc28 zd28 pl28 by28 fl28_0 fl28_1 fl28_2 fl28_3 fl28_4 fl28_5 fl28_6 fl28_7 fl28_8 fl28_9 fl28_10 fl28_11 fl28_12 fl28_13 fl28_14 sz29 ag29 ok29 zc29 zd29 pl29 by29 fl29_0 fl29_1 fl29_2 fl29_3 fl29_4 fl29_5 fl29_6 fl29_7 fl29_8 fl29_9 fl29_10 fl29_11 fl29_12 fl29_13 fl29_14 sz39 ag39 ok39 kk39 iu39 zc39 zd39 by39 sz43 ag43 ok43 sl43 ar43 zc43 zd43 pl43 by43 sz46 ag46 ok46 sl46 zc46 zd46 by46 sz47 ag47 ok47 zc47 zd47 pl47 by47 fl47_0 fl47_1 fl47_2 fl47_3 fl47_4 sz48 ag48 ok48 zc48 zd48 pl48 by48 fl48_0 fl48_1 fl48_2 fl48_3 fl48_4 sz52 ag52 ok52 zc52 zd52 pl52 by52 fl52_0 fl52_1 fl52_2 sz53 ag53 ok53 zc53 zd53 pl53 by53 fl53_0 fl53_1 fl53_2 sz54 ag54 ok54 sl54 ar54 zc54 zd54 pl54 by54 sz58 ag58 ok58 sl58 zc58 zd58 by58 sz59 ag59 ok59 kk59 iu59 zc59 zd59 by59 sz62 ag62 ok62 sl62 ar62 zc62 zd62 pl62 by62 sz67 ag67 ok67 zc67 by67 sz68 ag68 ok68 zc68 zd68 pl68 by68 fl68_0 fl68_1 sz69 ag69 ok69 zc69 zd69 pl69 by69 fl69_0 fl69_1 sz75 ag75 ok75 zc75 zd75 pl75 by75 fl75_0 fl75_1 fl75_2 sz76 ag76 ok76 zc76 zd76 pl76 by76 fl76_0 fl76_1 fl76_2 sz79 ag79 ok79 zc79 zd79 pl79 by79 fl79_0 fl79_1 fl79_2 fl79_3 sz80 ag80 ok80 zc80 zd80 pl80 by80 fl80_0 fl80_1 fl80_2 fl80_3 sz82 ag82 ok82 zc82 by82 sz84 ag84 ok84 kk84 iu84 zc84 zd84 by84 sz88 ag88 ok88 zc88 zd88 pl88 by88 fl88_0 fl88_1 fl88_2 sz89 ag89 ok89 zc89 zd89 pl89 by89 fl89_0 fl89_1 fl89_2 sz94 ag94 ok94 sl94 ar94 zc94 zd94 pl94 by94 sz98 ag98 ok98 sl98 ar98 zc98 zd98 pl98 by98 sz105 ag105 ok105 sl105 ar105 zc105 zd105 pl105 by105 sz107 ag107 ok107 zc107 zd107 pl107 by107 fl107_0 fl107_1 sz108 ag108 ok108 sl108 ar108 zc108 zd108 pl108 by108 sz109 ag109 ok109 zc109 by109 sz118 ag118 ok118 kk118 iu118 zc118 zd118 by118 sz122 ag122 ok122 zc122 by122
def GB (b : Nat) (ns : List Nd) : Prop := ns.length ≤ b ∧ ∀ n ∈ ns, n.inn.length ≤ b ∧ n.ws.length ≤ 4096 ∧ n.bs.length ≤ 4096
def PSp (b : Nat) (r : S) : Prop := ∃ wd lo hi out ns, r = .agg (gcs wd lo hi out (.d (rowN ns))) ∧ GB b ns
theorem spoilt16_c {T : World → Prop} (Tm : TP T) (wd lo hi out how at_ nn : Int) (ns : List Nd) (b : Nat) (hb : b ≤ 100) (hG : GB b ns) : Cg Go.Proofs.Tryd.prog T 27 [] [.agg (gcs wd lo hi out (.d (rowN ns))), .agg [.d (.i .i64 how), .d (.i .i64 at_), .d (.i .i64 nn)]] (fun r H => H = [] ∧ PSp (b + 1) r) := by
  refine Cg_of [] Tm Go.Proofs.Tryd.func27 rfl rfl Go.Proofs.Tryd.ntmps27 (by simp) rfl (rs := [.cell 4 48]) rfl fun E hP hn hT hpn => ?_
  (repeat (first | ((first | refine r1 ?_ | refine r2 ?_ | refine r3 ?_); intro K hK; simp only [go_sem, hP, hn]; (repeat (refine ⟨by first | trivial | omega | (simp <;> omega) | (simp +contextual; done) | (clear hK; grind), ?_⟩)); refine hK _ ?_; clear K hK) | refine Tr.seq ?_ | refine Tr.skip ?_ | refine Tr.label ?_ | refine Tr.block ?_ | refine Tr.scope ?_ | refine gs1 ?_ | refine gs2 ?_ | refine gs3 ?_ | refine Tr.exit ?_ | refine Tr.goto ?_ | refine Tr.ret ?_ | refine n1 ?_ | refine n2 ?_ | refine n3 ?_ | refine n4 ?_ | refine n5 ?_ | refine n6 ?_ | refine n7 ?_ | refine n8 ?_ | refine n9 (by decide) ?_))
  refine Tr.cond rfl (fun h1 => ?_) (fun h1 => ?_)
  · (repeat (first | ((first | refine r1 ?_ | refine r2 ?_ | refine r3 ?_); intro K hK; simp only [go_sem, hP, hn]; (repeat (refine ⟨by first | trivial | omega | (simp <;> omega) | (simp +contextual; done) | (clear hK; grind), ?_⟩)); refine hK _ ?_; clear K hK) | refine Tr.seq ?_ | refine Tr.skip ?_ | refine Tr.label ?_ | refine Tr.block ?_ | refine Tr.scope ?_ | refine gs1 ?_ | refine gs2 ?_ | refine gs3 ?_ | refine Tr.exit ?_ | refine Tr.goto ?_ | refine Tr.ret ?_ | refine n1 ?_ | refine n2 ?_ | refine n3 ?_ | refine n4 ?_ | refine n5 ?_ | refine n6 ?_ | refine n7 ?_ | refine n8 ?_ | refine n9 (by decide) ?_))
    simp only [RetG, go_sem]; (repeat (with_reducible refine And.intro ?_ ?_; (· first | trivial | omega | (simp <;> omega) | (simp +contextual; done) | (clear hK; grind))))
    exact ⟨wd, lo, hi, out, ns, rfl, by have := hG.1; omega, fun n hn => by have := hG.2 n hn; omega⟩
  have hN : 1 ≤ ns.length ∧ ns.length ≤ b := by
    have h2 : ¬ ((ns.length : Int) = 0) := by simpa using h1
    have := hG.1
    omega
  clear h1
  (repeat (first | ((first | refine r1 ?_ | refine r2 ?_ | refine r3 ?_); intro K hK; simp only [go_sem, hP, hn]; (repeat (refine ⟨by first | trivial | omega | (simp <;> omega) | (simp +contextual; done) | (clear hK; grind), ?_⟩)); refine hK _ ?_; clear K hK) | refine Tr.seq ?_ | refine Tr.skip ?_ | refine Tr.label ?_ | refine Tr.block ?_ | refine Tr.scope ?_ | refine gs1 ?_ | refine gs2 ?_ | refine gs3 ?_ | refine Tr.exit ?_ | refine Tr.goto ?_ | refine Tr.ret ?_ | refine n1 ?_ | refine n2 ?_ | refine n3 ?_ | refine n4 ?_ | refine n5 ?_ | refine n6 ?_ | refine n7 ?_ | refine n8 ?_ | refine n9 (by decide) ?_))
  refine Tr.le (Le.keep [2, 3, 4]) ?_; simp only [List.map_cons, List.map_nil, lk, Nat.reduceEqDiff, reduceIte]
  (first | refine d1 (.p true 0 (.p true 1 (.p true 2 (.p true 3 (.p true 4 (.p true 5 (.p true 6 (.p true 7 (.p true 8 (.p true 9 (.p true 10 (.p true 11 (.p true 12 (.p true 13 (.p true 14 .nil))))))))))))))) [] (by rw [hP]; kernel_rfl) (by kernel_rfl) (by simp only [go_sem, hP, hn]; try simp) (fun _ _ h => h) fun K hK => ?_ | refine d2 (.p true 0 (.p true 1 (.p true 2 (.p true 3 (.p true 4 (.p true 5 (.p true 6 (.p true 7 (.p true 8 (.p true 9 (.p true 10 (.p true 11 (.p true 12 (.p true 13 (.p true 14 .nil))))))))))))))) [] (by rw [hP]; kernel_rfl) (by kernel_rfl) (by simp only [go_sem, hP, hn]; try simp) (fun _ _ h => h) fun K hK => ?_ | refine d4 (.p true 0 (.p true 1 (.p true 2 (.p true 3 (.p true 4 (.p true 5 (.p true 6 (.p true 7 (.p true 8 (.p true 9 (.p true 10 (.p true 11 (.p true 12 (.p true 13 (.p true 14 .nil))))))))))))))) [] (by rw [hP]; kernel_rfl) (by kernel_rfl) (by simp only [go_sem, hP, hn]; try simp) (fun _ _ h => h) fun K hK => ?_); simp only [go_sem, hP, hn]
  (repeat (refine ⟨by first | trivial | omega | (simp <;> omega) | (simp +contextual; done) | (clear hK; grind), ?_⟩))
  have hir := next_num at_ ns.length (by omega) (by omega)
  generalize (wrap64 (at_.tmod ns.length + ns.length)).tmod ns.length = i at hir ⊢
  refine hK _ ?_; clear K hK
  refine Tr.le (Le.keep [2, 3, 4, 5]) ?_; simp only [List.map_cons, List.map_nil, lk, Nat.reduceEqDiff, reduceIte]
  have hnd := rw_nd ns i hir.1 hir.2
  have hq := hG.2 _ (nd_mem (ns := ns) hir.1 hir.2)
  (repeat (first | refine Tr.seq ?_ | refine Tr.skip ?_ | refine Tr.label ?_ | refine Tr.block ?_ | refine Tr.scope ?_ | refine gs1 ?_ | refine gs2 ?_ | refine gs3 ?_ | refine Tr.exit ?_ | refine Tr.goto ?_ | refine Tr.ret ?_ | refine n1 ?_ | refine n2 ?_ | refine n3 ?_ | refine n4 ?_ | refine n5 ?_ | refine n6 ?_ | refine n7 ?_ | refine n8 ?_ | refine n9 (by decide) ?_))
  (first | refine r1 ?_ | refine r2 ?_ | refine r3 ?_); intro K hK; simp only [hnd, go_sem, hP, hn]; (repeat (refine ⟨by first | trivial | omega | (simp <;> omega) | (simp +contextual; done) | (clear hK; grind), ?_⟩)); refine hK _ ?_; clear K hK
  generalize nd ns i = q0 at hq ⊢
  (repeat (first | refine Tr.seq ?_ | refine Tr.skip ?_ | refine Tr.label ?_ | refine Tr.block ?_ | refine Tr.scope ?_ | refine gs1 ?_ | refine gs2 ?_ | refine gs3 ?_ | refine Tr.exit ?_ | refine Tr.goto ?_ | refine Tr.ret ?_ | refine n1 ?_ | refine n2 ?_ | refine n3 ?_ | refine n4 ?_ | refine n5 ?_ | refine n6 ?_ | refine n7 ?_ | refine n8 ?_ | refine n9 (by decide) ?_))
  (first | refine r1 ?_ | refine r2 ?_ | refine r3 ?_); intro K hK; simp only [go_sem, hP, hn]; (repeat (refine ⟨by first | trivial | omega | (simp <;> omega) | (simp +contextual; done) | (clear hK; grind), ?_⟩)); refine hK _ ?_; clear K hK
  (repeat (first | refine Tr.seq ?_ | refine Tr.skip ?_ | refine Tr.label ?_ | refine Tr.block ?_ | refine Tr.scope ?_ | refine gs1 ?_ | refine gs2 ?_ | refine gs3 ?_ | refine Tr.exit ?_ | refine Tr.goto ?_ | refine Tr.ret ?_ | refine n1 ?_ | refine n2 ?_ | refine n3 ?_ | refine n4 ?_ | refine n5 ?_ | refine n6 ?_ | refine n7 ?_ | refine n8 ?_ | refine n9 (by decide) ?_))
  (first | refine r1 ?_ | refine r2 ?_ | refine r3 ?_); intro K hK; simp only [go_sem, hP, hn]; (repeat (refine ⟨by first | trivial | omega | (simp <;> omega) | (simp +contextual; done) | (clear hK; grind), ?_⟩)); refine hK _ ?_; clear K hK
  refine Tr.le (Le.keep [2, 3, 4, 5, 6, 7, 43]) ?_; simp only [List.map_cons, List.map_nil, lk, Nat.reduceEqDiff, reduceIte]
  refine Tr.meet (fun s => ∃ (wd lo hi out : Int) (q : Nd) (inl : List Int), s = ⟨[(2, .ptr 2 0), (3, .ptr 3 0), (4, .ptr 4 0), (5, .d (.i .i64 i)), (6, .ptr 6 0), (7, .d (.row [.i .i64 0] (inl.map intC)))], [(2, .box 48 (gcs wd lo hi out (.own 16))), (3, .box 53 [.d (.i .i64 how), .d (.i .i64 at_), .d (.i .i64 nn)]), (4, .box 48 (gcs 0 0 0 0 (.d .nil))), (6, .box 29 q.cs), (16, .row 29 e0N (ns.map Nd.ds))]⟩ ∧ inl.length ≤ b + 1 ∧ q.ws.length ≤ 4096 ∧ q.bs.length ≤ 4096) ?_ ?_
  rotate_left
  · (repeat (first | ((first | refine r1 ?_ | refine r2 ?_ | refine r3 ?_); intro K hK; simp only [go_sem, hP, hn]; (repeat (refine ⟨by first | trivial | omega | (simp <;> omega) | (simp +contextual; done) | (clear hK; grind), ?_⟩)); refine hK _ ?_; clear K hK) | refine Tr.seq ?_ | refine Tr.skip ?_ | refine Tr.label ?_ | refine Tr.block ?_ | refine Tr.scope ?_ | refine gs1 ?_ | refine gs2 ?_ | refine gs3 ?_ | refine Tr.exit ?_ | refine Tr.goto ?_ | refine Tr.ret ?_ | refine n1 ?_ | refine n2 ?_ | refine n3 ?_ | refine n4 ?_ | refine n5 ?_ | refine n6 ?_ | refine n7 ?_ | refine n8 ?_ | refine n9 (by decide) ?_))
    refine Tr.cond rfl (fun c0 => ?_) (fun c0 => ?_)
    · (repeat (first | ((first | refine r1 ?_ | refine r2 ?_ | refine r3 ?_); intro K hK; simp only [go_sem, hP, hn]; (repeat (refine ⟨by first | trivial | omega | (simp <;> omega) | (simp +contextual; done) | (clear hK; grind), ?_⟩)); refine hK _ ?_; clear K hK) | refine Tr.seq ?_ | refine Tr.skip ?_ | refine Tr.label ?_ | refine Tr.block ?_ | refine Tr.scope ?_ | refine gs1 ?_ | refine gs2 ?_ | refine gs3 ?_ | refine Tr.exit ?_ | refine Tr.goto ?_ | refine Tr.ret ?_ | refine n1 ?_ | refine n2 ?_ | refine n3 ?_ | refine n4 ?_ | refine n5 ?_ | refine n6 ?_ | refine n7 ?_ | refine n8 ?_ | refine n9 (by decide) ?_))
      refine Tr.cond rfl (fun hl => ?_) (fun hl => ?_)
      · have hl0 : 0 < q0.inn.length := by 
          have : (0 : Int) < q0.inn.length := by simpa using hl
          omega
        (repeat (first | ((first | refine r1 ?_ | refine r2 ?_ | refine r3 ?_); intro K hK; simp only [go_sem, hP, hn]; (repeat (refine ⟨by first | trivial | omega | (simp <;> omega) | (simp +contextual; done) | (clear hK; grind), ?_⟩)); refine hK _ ?_; clear K hK) | refine Tr.seq ?_ | refine Tr.skip ?_ | refine Tr.label ?_ | refine Tr.block ?_ | refine Tr.scope ?_ | refine gs1 ?_ | refine gs2 ?_ | refine gs3 ?_ | refine Tr.exit ?_ | refine Tr.goto ?_ | refine Tr.ret ?_ | refine n1 ?_ | refine n2 ?_ | refine n3 ?_ | refine n4 ?_ | refine n5 ?_ | refine n6 ?_ | refine n7 ?_ | refine n8 ?_ | refine n9 (by decide) ?_))
        exact ⟨_, (Le.freeze 40).trans (Le.mv (by simp only [go_sem, hP, hn]; first | done | (simp; done) | (simp [intC]; done) | (repeat (first | rfl | constructor))) (by simp only [go_sem, hP, hn]; first | done | (simp; done) | (simp [intC]; done) | (repeat (first | rfl | constructor)))), wd, lo, hi, out, q0, q0.inn.set 0 nn, rfl, by rw [List.length_set]; omega, hq.2.1, hq.2.2⟩
      · (repeat (first | ((first | refine r1 ?_ | refine r2 ?_ | refine r3 ?_); intro K hK; simp only [go_sem, hP, hn]; (repeat (refine ⟨by first | trivial | omega | (simp <;> omega) | (simp +contextual; done) | (clear hK; grind), ?_⟩)); refine hK _ ?_; clear K hK) | refine Tr.seq ?_ | refine Tr.skip ?_ | refine Tr.label ?_ | refine Tr.block ?_ | refine Tr.scope ?_ | refine gs1 ?_ | refine gs2 ?_ | refine gs3 ?_ | refine Tr.exit ?_ | refine Tr.goto ?_ | refine Tr.ret ?_ | refine n1 ?_ | refine n2 ?_ | refine n3 ?_ | refine n4 ?_ | refine n5 ?_ | refine n6 ?_ | refine n7 ?_ | refine n8 ?_ | refine n9 (by decide) ?_))
        exact ⟨_, (Le.freeze 40).trans (Le.mv (by simp only [go_sem, hP, hn]; first | done | (simp; done) | (simp [intC]; done) | (repeat (first | rfl | constructor))) (by simp only [go_sem, hP, hn]; first | done | (simp; done) | (simp [intC]; done) | (repeat (first | rfl | constructor)))), wd, lo, hi, out, q0, q0.inn, rfl, by omega, hq.2.1, hq.2.2⟩
    (repeat (first | ((first | refine r1 ?_ | refine r2 ?_ | refine r3 ?_); intro K hK; simp only [go_sem, hP, hn]; (repeat (refine ⟨by first | trivial | omega | (simp <;> omega) | (simp +contextual; done) | (clear hK; grind), ?_⟩)); refine hK _ ?_; clear K hK) | refine Tr.seq ?_ | refine Tr.skip ?_ | refine Tr.label ?_ | refine Tr.block ?_ | refine Tr.scope ?_ | refine gs1 ?_ | refine gs2 ?_ | refine gs3 ?_ | refine Tr.exit ?_ | refine Tr.goto ?_ | refine Tr.ret ?_ | refine n1 ?_ | refine n2 ?_ | refine n3 ?_ | refine n4 ?_ | refine n5 ?_ | refine n6 ?_ | refine n7 ?_ | refine n8 ?_ | refine n9 (by decide) ?_))
    refine Tr.cond rfl (fun c1 => ?_) (fun c1 => ?_)
    · (repeat (first | ((first | refine r1 ?_ | refine r2 ?_ | refine r3 ?_); intro K hK; simp only [go_sem, hP, hn]; (repeat (refine ⟨by first | trivial | omega | (simp <;> omega) | (simp +contextual; done) | (clear hK; grind), ?_⟩)); refine hK _ ?_; clear K hK) | refine Tr.seq ?_ | refine Tr.skip ?_ | refine Tr.label ?_ | refine Tr.block ?_ | refine Tr.scope ?_ | refine gs1 ?_ | refine gs2 ?_ | refine gs3 ?_ | refine Tr.exit ?_ | refine Tr.goto ?_ | refine Tr.ret ?_ | refine n1 ?_ | refine n2 ?_ | refine n3 ?_ | refine n4 ?_ | refine n5 ?_ | refine n6 ?_ | refine n7 ?_ | refine n8 ?_ | refine n9 (by decide) ?_))
      exact ⟨_, (Le.freeze 40).trans (Le.mv (by simp only [go_sem, hP, hn]; first | done | (simp; done) | (simp [intC]; done) | (repeat (first | rfl | constructor))) (by simp only [go_sem, hP, hn]; first | done | (simp; done) | (simp [intC]; done) | (repeat (first | rfl | constructor)))), wd, lo, hi, out, { q0 with k := nn }, q0.inn, rfl, by omega, hq.2.1, hq.2.2⟩
    (repeat (first | ((first | refine r1 ?_ | refine r2 ?_ | refine r3 ?_); intro K hK; simp only [go_sem, hP, hn]; (repeat (refine ⟨by first | trivial | omega | (simp <;> omega) | (simp +contextual; done) | (clear hK; grind), ?_⟩)); refine hK _ ?_; clear K hK) | refine Tr.seq ?_ | refine Tr.skip ?_ | refine Tr.label ?_ | refine Tr.block ?_ | refine Tr.scope ?_ | refine gs1 ?_ | refine gs2 ?_ | refine gs3 ?_ | refine Tr.exit ?_ | refine Tr.goto ?_ | refine Tr.ret ?_ | refine n1 ?_ | refine n2 ?_ | refine n3 ?_ | refine n4 ?_ | refine n5 ?_ | refine n6 ?_ | refine n7 ?_ | refine n8 ?_ | refine n9 (by decide) ?_))
    refine Tr.cond rfl (fun c2 => ?_) (fun c2 => ?_)
    · (repeat (first | ((first | refine r1 ?_ | refine r2 ?_ | refine r3 ?_); intro K hK; simp only [go_sem, hP, hn]; (repeat (refine ⟨by first | trivial | omega | (simp <;> omega) | (simp +contextual; done) | (clear hK; grind), ?_⟩)); refine hK _ ?_; clear K hK) | refine Tr.seq ?_ | refine Tr.skip ?_ | refine Tr.label ?_ | refine Tr.block ?_ | refine Tr.scope ?_ | refine gs1 ?_ | refine gs2 ?_ | refine gs3 ?_ | refine Tr.exit ?_ | refine Tr.goto ?_ | refine Tr.ret ?_ | refine n1 ?_ | refine n2 ?_ | refine n3 ?_ | refine n4 ?_ | refine n5 ?_ | refine n6 ?_ | refine n7 ?_ | refine n8 ?_ | refine n9 (by decide) ?_))
      exact ⟨_, (Le.freeze 40).trans (Le.mv (by simp only [go_sem, hP, hn]; first | done | (simp; done) | (simp [intC]; done) | (repeat (first | rfl | constructor))) (by simp only [go_sem, hP, hn]; first | done | (simp; done) | (simp [intC]; done) | (repeat (first | rfl | constructor)))), wd, lo, hi, out, { q0 with step := nn }, q0.inn, rfl, by omega, hq.2.1, hq.2.2⟩
    (repeat (first | ((first | refine r1 ?_ | refine r2 ?_ | refine r3 ?_); intro K hK; simp only [go_sem, hP, hn]; (repeat (refine ⟨by first | trivial | omega | (simp <;> omega) | (simp +contextual; done) | (clear hK; grind), ?_⟩)); refine hK _ ?_; clear K hK) | refine Tr.seq ?_ | refine Tr.skip ?_ | refine Tr.label ?_ | refine Tr.block ?_ | refine Tr.scope ?_ | refine gs1 ?_ | refine gs2 ?_ | refine gs3 ?_ | refine Tr.exit ?_ | refine Tr.goto ?_ | refine Tr.ret ?_ | refine n1 ?_ | refine n2 ?_ | refine n3 ?_ | refine n4 ?_ | refine n5 ?_ | refine n6 ?_ | refine n7 ?_ | refine n8 ?_ | refine n9 (by decide) ?_))
    refine Tr.cond rfl (fun c3 => ?_) (fun c3 => ?_)
    · (repeat (first | ((first | refine r1 ?_ | refine r2 ?_ | refine r3 ?_); intro K hK; simp only [go_sem, hP, hn]; (repeat (refine ⟨by first | trivial | omega | (simp <;> omega) | (simp +contextual; done) | (clear hK; grind), ?_⟩)); refine hK _ ?_; clear K hK) | refine Tr.seq ?_ | refine Tr.skip ?_ | refine Tr.label ?_ | refine Tr.block ?_ | refine Tr.scope ?_ | refine gs1 ?_ | refine gs2 ?_ | refine gs3 ?_ | refine Tr.exit ?_ | refine Tr.goto ?_ | refine Tr.ret ?_ | refine n1 ?_ | refine n2 ?_ | refine n3 ?_ | refine n4 ?_ | refine n5 ?_ | refine n6 ?_ | refine n7 ?_ | refine n8 ?_ | refine n9 (by decide) ?_))
      exact ⟨_, (Le.freeze 40).trans (Le.mv (by simp only [go_sem, hP, hn]; first | done | (simp; done) | (simp [intC]; done) | (repeat (first | rfl | constructor))) (by simp only [go_sem, hP, hn]; first | done | (simp; done) | (simp [intC]; done) | (repeat (first | rfl | constructor)))), wd, lo, hi, out, { q0 with wid := nn }, q0.inn, rfl, by omega, hq.2.1, hq.2.2⟩
    (repeat (first | ((first | refine r1 ?_ | refine r2 ?_ | refine r3 ?_); intro K hK; simp only [go_sem, hP, hn]; (repeat (refine ⟨by first | trivial | omega | (simp <;> omega) | (simp +contextual; done) | (clear hK; grind), ?_⟩)); refine hK _ ?_; clear K hK) | refine Tr.seq ?_ | refine Tr.skip ?_ | refine Tr.label ?_ | refine Tr.block ?_ | refine Tr.scope ?_ | refine gs1 ?_ | refine gs2 ?_ | refine gs3 ?_ | refine Tr.exit ?_ | refine Tr.goto ?_ | refine Tr.ret ?_ | refine n1 ?_ | refine n2 ?_ | refine n3 ?_ | refine n4 ?_ | refine n5 ?_ | refine n6 ?_ | refine n7 ?_ | refine n8 ?_ | refine n9 (by decide) ?_))
    refine Tr.cond rfl (fun c4 => ?_) (fun c4 => ?_)
    · (repeat (first | ((first | refine r1 ?_ | refine r2 ?_ | refine r3 ?_); intro K hK; simp only [go_sem, hP, hn]; (repeat (refine ⟨by first | trivial | omega | (simp <;> omega) | (simp +contextual; done) | (clear hK; grind), ?_⟩)); refine hK _ ?_; clear K hK) | refine Tr.seq ?_ | refine Tr.skip ?_ | refine Tr.label ?_ | refine Tr.block ?_ | refine Tr.scope ?_ | refine gs1 ?_ | refine gs2 ?_ | refine gs3 ?_ | refine Tr.exit ?_ | refine Tr.goto ?_ | refine Tr.ret ?_ | refine n1 ?_ | refine n2 ?_ | refine n3 ?_ | refine n4 ?_ | refine n5 ?_ | refine n6 ?_ | refine n7 ?_ | refine n8 ?_ | refine n9 (by decide) ?_))
      exact ⟨_, (Le.freeze 40).trans (Le.mv (by simp only [go_sem, hP, hn]; first | done | (simp; done) | (simp [intC]; done) | (repeat (first | rfl | constructor))) (by simp only [go_sem, hP, hn]; first | done | (simp; done) | (simp [intC]; done) | (repeat (first | rfl | constructor)))), wd, lo, hi, out, { q0 with post := nn }, q0.inn, rfl, by omega, hq.2.1, hq.2.2⟩
    (repeat (first | ((first | refine r1 ?_ | refine r2 ?_ | refine r3 ?_); intro K hK; simp only [go_sem, hP, hn]; (repeat (refine ⟨by first | trivial | omega | (simp <;> omega) | (simp +contextual; done) | (clear hK; grind), ?_⟩)); refine hK _ ?_; clear K hK) | refine Tr.seq ?_ | refine Tr.skip ?_ | refine Tr.label ?_ | refine Tr.block ?_ | refine Tr.scope ?_ | refine gs1 ?_ | refine gs2 ?_ | refine gs3 ?_ | refine Tr.exit ?_ | refine Tr.goto ?_ | refine Tr.ret ?_ | refine n1 ?_ | refine n2 ?_ | refine n3 ?_ | refine n4 ?_ | refine n5 ?_ | refine n6 ?_ | refine n7 ?_ | refine n8 ?_ | refine n9 (by decide) ?_))
    refine Tr.cond rfl (fun c5 => ?_) (fun c5 => ?_)
    · (repeat (first | ((first | refine r1 ?_ | refine r2 ?_ | refine r3 ?_); intro K hK; simp only [go_sem, hP, hn]; (repeat (refine ⟨by first | trivial | omega | (simp <;> omega) | (simp +contextual; done) | (clear hK; grind), ?_⟩)); refine hK _ ?_; clear K hK) | refine Tr.seq ?_ | refine Tr.skip ?_ | refine Tr.label ?_ | refine Tr.block ?_ | refine Tr.scope ?_ | refine gs1 ?_ | refine gs2 ?_ | refine gs3 ?_ | refine Tr.exit ?_ | refine Tr.goto ?_ | refine Tr.ret ?_ | refine n1 ?_ | refine n2 ?_ | refine n3 ?_ | refine n4 ?_ | refine n5 ?_ | refine n6 ?_ | refine n7 ?_ | refine n8 ?_ | refine n9 (by decide) ?_))
      exact ⟨_, (Le.freeze 79).trans (Le.mv (by simp only [go_sem, hP, hn]; first | done | (simp; done) | (simp [intC]; done) | (repeat (first | rfl | constructor))) (by simp only [go_sem, hP, hn]; first | done | (simp; done) | (simp [intC]; done) | (repeat (first | rfl | constructor)))), wd, lo, hi, out, q0, q0.inn ++ [nn], rfl, by simp; omega, hq.2.1, hq.2.2⟩
    (repeat (first | ((first | refine r1 ?_ | refine r2 ?_ | refine r3 ?_); intro K hK; simp only [go_sem, hP, hn]; (repeat (refine ⟨by first | trivial | omega | (simp <;> omega) | (simp +contextual; done) | (clear hK; grind), ?_⟩)); refine hK _ ?_; clear K hK) | refine Tr.seq ?_ | refine Tr.skip ?_ | refine Tr.label ?_ | refine Tr.block ?_ | refine Tr.scope ?_ | refine gs1 ?_ | refine gs2 ?_ | refine gs3 ?_ | refine Tr.exit ?_ | refine Tr.goto ?_ | refine Tr.ret ?_ | refine n1 ?_ | refine n2 ?_ | refine n3 ?_ | refine n4 ?_ | refine n5 ?_ | refine n6 ?_ | refine n7 ?_ | refine n8 ?_ | refine n9 (by decide) ?_))
    refine Tr.cond rfl (fun c6 => ?_) (fun c6 => ?_)
    · (repeat (first | ((first | refine r1 ?_ | refine r2 ?_ | refine r3 ?_); intro K hK; simp only [go_sem, hP, hn]; (repeat (refine ⟨by first | trivial | omega | (simp <;> omega) | (simp +contextual; done) | (clear hK; grind), ?_⟩)); refine hK _ ?_; clear K hK) | refine Tr.seq ?_ | refine Tr.skip ?_ | refine Tr.label ?_ | refine Tr.block ?_ | refine Tr.scope ?_ | refine gs1 ?_ | refine gs2 ?_ | refine gs3 ?_ | refine Tr.exit ?_ | refine Tr.goto ?_ | refine Tr.ret ?_ | refine n1 ?_ | refine n2 ?_ | refine n3 ?_ | refine n4 ?_ | refine n5 ?_ | refine n6 ?_ | refine n7 ?_ | refine n8 ?_ | refine n9 (by decide) ?_))
      exact ⟨_, (Le.freeze 40).trans (Le.mv (by simp only [go_sem, hP, hn]; first | done | (simp; done) | (simp [intC]; done) | (repeat (first | rfl | constructor))) (by simp only [go_sem, hP, hn]; first | done | (simp; done) | (simp [intC]; done) | (repeat (first | rfl | constructor)))), wd, lo, hi, nn, q0, q0.inn, rfl, by omega, hq.2.1, hq.2.2⟩
    (repeat (first | ((first | refine r1 ?_ | refine r2 ?_ | refine r3 ?_); intro K hK; simp only [go_sem, hP, hn]; (repeat (refine ⟨by first | trivial | omega | (simp <;> omega) | (simp +contextual; done) | (clear hK; grind), ?_⟩)); refine hK _ ?_; clear K hK) | refine Tr.seq ?_ | refine Tr.skip ?_ | refine Tr.label ?_ | refine Tr.block ?_ | refine Tr.scope ?_ | refine gs1 ?_ | refine gs2 ?_ | refine gs3 ?_ | refine Tr.exit ?_ | refine Tr.goto ?_ | refine Tr.ret ?_ | refine n1 ?_ | refine n2 ?_ | refine n3 ?_ | refine n4 ?_ | refine n5 ?_ | refine n6 ?_ | refine n7 ?_ | refine n8 ?_ | refine n9 (by decide) ?_))
    refine Tr.cond rfl (fun c7 => ?_) (fun c7 => ?_)
    · (repeat (first | ((first | refine r1 ?_ | refine r2 ?_ | refine r3 ?_); intro K hK; simp only [go_sem, hP, hn]; (repeat (refine ⟨by first | trivial | omega | (simp <;> omega) | (simp +contextual; done) | (clear hK; grind), ?_⟩)); refine hK _ ?_; clear K hK) | refine Tr.seq ?_ | refine Tr.skip ?_ | refine Tr.label ?_ | refine Tr.block ?_ | refine Tr.scope ?_ | refine gs1 ?_ | refine gs2 ?_ | refine gs3 ?_ | refine Tr.exit ?_ | refine Tr.goto ?_ | refine Tr.ret ?_ | refine n1 ?_ | refine n2 ?_ | refine n3 ?_ | refine n4 ?_ | refine n5 ?_ | refine n6 ?_ | refine n7 ?_ | refine n8 ?_ | refine n9 (by decide) ?_))
      exact ⟨_, (Le.freeze 40).trans (Le.mv (by simp only [go_sem, hP, hn]; first | done | (simp; done) | (simp [intC]; done) | (repeat (first | rfl | constructor))) (by simp only [go_sem, hP, hn]; first | done | (simp; done) | (simp [intC]; done) | (repeat (first | rfl | constructor)))), nn, lo, hi, out, q0, q0.inn, rfl, by omega, hq.2.1, hq.2.2⟩
    (repeat (first | ((first | refine r1 ?_ | refine r2 ?_ | refine r3 ?_); intro K hK; simp only [go_sem, hP, hn]; (repeat (refine ⟨by first | trivial | omega | (simp <;> omega) | (simp +contextual; done) | (clear hK; grind), ?_⟩)); refine hK _ ?_; clear K hK) | refine Tr.seq ?_ | refine Tr.skip ?_ | refine Tr.label ?_ | refine Tr.block ?_ | refine Tr.scope ?_ | refine gs1 ?_ | refine gs2 ?_ | refine gs3 ?_ | refine Tr.exit ?_ | refine Tr.goto ?_ | refine Tr.ret ?_ | refine n1 ?_ | refine n2 ?_ | refine n3 ?_ | refine n4 ?_ | refine n5 ?_ | refine n6 ?_ | refine n7 ?_ | refine n8 ?_ | refine n9 (by decide) ?_))
    refine Tr.cond rfl (fun c8 => ?_) (fun c8 => ?_)
    · (repeat (first | ((first | refine r1 ?_ | refine r2 ?_ | refine r3 ?_); intro K hK; simp only [go_sem, hP, hn]; (repeat (refine ⟨by first | trivial | omega | (simp <;> omega) | (simp +contextual; done) | (clear hK; grind), ?_⟩)); refine hK _ ?_; clear K hK) | refine Tr.seq ?_ | refine Tr.skip ?_ | refine Tr.label ?_ | refine Tr.block ?_ | refine Tr.scope ?_ | refine gs1 ?_ | refine gs2 ?_ | refine gs3 ?_ | refine Tr.exit ?_ | refine Tr.goto ?_ | refine Tr.ret ?_ | refine n1 ?_ | refine n2 ?_ | refine n3 ?_ | refine n4 ?_ | refine n5 ?_ | refine n6 ?_ | refine n7 ?_ | refine n8 ?_ | refine n9 (by decide) ?_))
      exact ⟨_, (Le.freeze 40).trans (Le.mv (by simp only [go_sem, hP, hn]; first | done | (simp; done) | (simp [intC]; done) | (repeat (first | rfl | constructor))) (by simp only [go_sem, hP, hn]; first | done | (simp; done) | (simp [intC]; done) | (repeat (first | rfl | constructor)))), wd, nn, hi, out, q0, q0.inn, rfl, by omega, hq.2.1, hq.2.2⟩
    (repeat (first | ((first | refine r1 ?_ | refine r2 ?_ | refine r3 ?_); intro K hK; simp only [go_sem, hP, hn]; (repeat (refine ⟨by first | trivial | omega | (simp <;> omega) | (simp +contextual; done) | (clear hK; grind), ?_⟩)); refine hK _ ?_; clear K hK) | refine Tr.seq ?_ | refine Tr.skip ?_ | refine Tr.label ?_ | refine Tr.block ?_ | refine Tr.scope ?_ | refine gs1 ?_ | refine gs2 ?_ | refine gs3 ?_ | refine Tr.exit ?_ | refine Tr.goto ?_ | refine Tr.ret ?_ | refine n1 ?_ | refine n2 ?_ | refine n3 ?_ | refine n4 ?_ | refine n5 ?_ | refine n6 ?_ | refine n7 ?_ | refine n8 ?_ | refine n9 (by decide) ?_))
    refine Tr.cond rfl (fun c9 => ?_) (fun c9 => ?_)
    · (repeat (first | ((first | refine r1 ?_ | refine r2 ?_ | refine r3 ?_); intro K hK; simp only [go_sem, hP, hn]; (repeat (refine ⟨by first | trivial | omega | (simp <;> omega) | (simp +contextual; done) | (clear hK; grind), ?_⟩)); refine hK _ ?_; clear K hK) | refine Tr.seq ?_ | refine Tr.skip ?_ | refine Tr.label ?_ | refine Tr.block ?_ | refine Tr.scope ?_ | refine gs1 ?_ | refine gs2 ?_ | refine gs3 ?_ | refine Tr.exit ?_ | refine Tr.goto ?_ | refine Tr.ret ?_ | refine n1 ?_ | refine n2 ?_ | refine n3 ?_ | refine n4 ?_ | refine n5 ?_ | refine n6 ?_ | refine n7 ?_ | refine n8 ?_ | refine n9 (by decide) ?_))
      exact ⟨_, (Le.freeze 40).trans (Le.mv (by simp only [go_sem, hP, hn]; first | done | (simp; done) | (simp [intC]; done) | (repeat (first | rfl | constructor))) (by simp only [go_sem, hP, hn]; first | done | (simp; done) | (simp [intC]; done) | (repeat (first | rfl | constructor)))), wd, lo, nn, out, q0, q0.inn, rfl, by omega, hq.2.1, hq.2.2⟩
    (repeat (first | ((first | refine r1 ?_ | refine r2 ?_ | refine r3 ?_); intro K hK; simp only [go_sem, hP, hn]; (repeat (refine ⟨by first | trivial | omega | (simp <;> omega) | (simp +contextual; done) | (clear hK; grind), ?_⟩)); refine hK _ ?_; clear K hK) | refine Tr.seq ?_ | refine Tr.skip ?_ | refine Tr.label ?_ | refine Tr.block ?_ | refine Tr.scope ?_ | refine gs1 ?_ | refine gs2 ?_ | refine gs3 ?_ | refine Tr.exit ?_ | refine Tr.goto ?_ | refine Tr.ret ?_ | refine n1 ?_ | refine n2 ?_ | refine n3 ?_ | refine n4 ?_ | refine n5 ?_ | refine n6 ?_ | refine n7 ?_ | refine n8 ?_ | refine n9 (by decide) ?_))
    refine Tr.cond rfl (fun c12 => ?_) (fun c12 => ?_)
    · refine Tr.le (Le.freeze 40) ?_
      simp only [go_sem, hP, hn]
      (repeat (first | ((first | refine r1 ?_ | refine r2 ?_ | refine r3 ?_); intro K hK; simp only [go_sem, hP, hn]; (repeat (refine ⟨by first | trivial | omega | (simp <;> omega) | (simp +contextual; done) | (clear hK; grind), ?_⟩)); refine hK _ ?_; clear K hK) | refine Tr.seq ?_ | refine Tr.skip ?_ | refine Tr.label ?_ | refine Tr.block ?_ | refine Tr.scope ?_ | refine gs1 ?_ | refine gs2 ?_ | refine gs3 ?_ | refine Tr.exit ?_ | refine Tr.goto ?_ | refine Tr.ret ?_ | refine n1 ?_ | refine n2 ?_ | refine n3 ?_ | refine n4 ?_ | refine n5 ?_ | refine n6 ?_ | refine n7 ?_ | refine n8 ?_ | refine n9 (by decide) ?_))
      refine Tr.le (Le.wbox 6 (Nd.mk 5 [] 0 0 0 0 0 0 [] [] 0 0 0 0 0).cs rfl (by simp [wk, Nd.cs])) ?_
      simp only [go_sem, hP, hn]
      refine Tr.cond rfl (fun hl => ?_) (fun hl => ?_)
      · have hl0 : 1 < q0.inn.length := by
          have : (1 : Int) < q0.inn.length := by simpa using hl
          omega
        (repeat (first | ((first | refine r1 ?_ | refine r2 ?_ | refine r3 ?_); intro K hK; simp only [go_sem, hP, hn]; (repeat (refine ⟨by first | trivial | omega | (simp <;> omega) | (simp +contextual; done) | (clear hK; grind), ?_⟩)); refine hK _ ?_; clear K hK) | refine Tr.seq ?_ | refine Tr.skip ?_ | refine Tr.label ?_ | refine Tr.block ?_ | refine Tr.scope ?_ | refine gs1 ?_ | refine gs2 ?_ | refine gs3 ?_ | refine Tr.exit ?_ | refine Tr.goto ?_ | refine Tr.ret ?_ | refine n1 ?_ | refine n2 ?_ | refine n3 ?_ | refine n4 ?_ | refine n5 ?_ | refine n6 ?_ | refine n7 ?_ | refine n8 ?_ | refine n9 (by decide) ?_))
        exact ⟨_, (Le.mv (by simp only [go_sem, hP, hn]; first | done | (simp; done) | (simp [intC]; done) | (repeat (first | rfl | constructor))) (by simp only [go_sem, hP, hn]; first | done | (simp; done) | (simp [intC]; done) | (repeat (first | rfl | constructor)))), wd, lo, hi, out, Nd.mk 5 [] 0 0 0 0 0 0 [] [] 0 0 0 0 0, q0.inn.take 1, rfl, by simp; omega, by simp, by simp⟩
      · (repeat (first | ((first | refine r1 ?_ | refine r2 ?_ | refine r3 ?_); intro K hK; simp only [go_sem, hP, hn]; (repeat (refine ⟨by first | trivial | omega | (simp <;> omega) | (simp +contextual; done) | (clear hK; grind), ?_⟩)); refine hK _ ?_; clear K hK) | refine Tr.seq ?_ | refine Tr.skip ?_ | refine Tr.label ?_ | refine Tr.block ?_ | refine Tr.scope ?_ | refine gs1 ?_ | refine gs2 ?_ | refine gs3 ?_ | refine Tr.exit ?_ | refine Tr.goto ?_ | refine Tr.ret ?_ | refine n1 ?_ | refine n2 ?_ | refine n3 ?_ | refine n4 ?_ | refine n5 ?_ | refine n6 ?_ | refine n7 ?_ | refine n8 ?_ | refine n9 (by decide) ?_))
        exact ⟨_, (Le.mv (by simp only [go_sem, hP, hn]; first | done | (simp; done) | (simp [intC]; done) | (repeat (first | rfl | constructor))) (by simp only [go_sem, hP, hn]; first | done | (simp; done) | (simp [intC]; done) | (repeat (first | rfl | constructor)))), wd, lo, hi, out, Nd.mk 5 [] 0 0 0 0 0 0 [] [] 0 0 0 0 0, q0.inn, rfl, by omega, by simp, by simp⟩
    (repeat (first | ((first | refine r1 ?_ | refine r2 ?_ | refine r3 ?_); intro K hK; simp only [go_sem, hP, hn]; (repeat (refine ⟨by first | trivial | omega | (simp <;> omega) | (simp +contextual; done) | (clear hK; grind), ?_⟩)); refine hK _ ?_; clear K hK) | refine Tr.seq ?_ | refine Tr.skip ?_ | refine Tr.label ?_ | refine Tr.block ?_ | refine Tr.scope ?_ | refine gs1 ?_ | refine gs2 ?_ | refine gs3 ?_ | refine Tr.exit ?_ | refine Tr.goto ?_ | refine Tr.ret ?_ | refine n1 ?_ | refine n2 ?_ | refine n3 ?_ | refine n4 ?_ | refine n5 ?_ | refine n6 ?_ | refine n7 ?_ | refine n8 ?_ | refine n9 (by decide) ?_))
    refine Tr.cond rfl (fun c13 => ?_) (fun c13 => ?_)
    · (repeat (first | ((first | refine r1 ?_ | refine r2 ?_ | refine r3 ?_); intro K hK; simp only [go_sem, hP, hn]; (repeat (refine ⟨by first | trivial | omega | (simp <;> omega) | (simp +contextual; done) | (clear hK; grind), ?_⟩)); refine hK _ ?_; clear K hK) | refine Tr.seq ?_ | refine Tr.skip ?_ | refine Tr.label ?_ | refine Tr.block ?_ | refine Tr.scope ?_ | refine gs1 ?_ | refine gs2 ?_ | refine gs3 ?_ | refine Tr.exit ?_ | refine Tr.goto ?_ | refine Tr.ret ?_ | refine n1 ?_ | refine n2 ?_ | refine n3 ?_ | refine n4 ?_ | refine n5 ?_ | refine n6 ?_ | refine n7 ?_ | refine n8 ?_ | refine n9 (by decide) ?_))
      exact ⟨_, (Le.freeze 40).trans (Le.mv (by simp only [go_sem, hP, hn]; first | done | (simp; done) | (simp [intC]; done) | (repeat (first | rfl | constructor))) (by simp only [go_sem, hP, hn]; first | done | (simp; done) | (simp [intC]; done) | (repeat (first | rfl | constructor)))), wd, lo, hi, out, { q0 with low := nn }, q0.inn, rfl, by omega, hq.2.1, hq.2.2⟩
    · (repeat (first | ((first | refine r1 ?_ | refine r2 ?_ | refine r3 ?_); intro K hK; simp only [go_sem, hP, hn]; (repeat (refine ⟨by first | trivial | omega | (simp <;> omega) | (simp +contextual; done) | (clear hK; grind), ?_⟩)); refine hK _ ?_; clear K hK) | refine Tr.seq ?_ | refine Tr.skip ?_ | refine Tr.label ?_ | refine Tr.block ?_ | refine Tr.scope ?_ | refine gs1 ?_ | refine gs2 ?_ | refine gs3 ?_ | refine Tr.exit ?_ | refine Tr.goto ?_ | refine Tr.ret ?_ | refine n1 ?_ | refine n2 ?_ | refine n3 ?_ | refine n4 ?_ | refine n5 ?_ | refine n6 ?_ | refine n7 ?_ | refine n8 ?_ | refine n9 (by decide) ?_))
      exact ⟨_, (Le.freeze 40).trans (Le.mv (by simp only [go_sem, hP, hn]; first | done | (simp; done) | (simp [intC]; done) | (repeat (first | rfl | constructor))) (by simp only [go_sem, hP, hn]; first | done | (simp; done) | (simp [intC]; done) | (repeat (first | rfl | constructor)))), wd, lo, hi, out, q0, q0.inn, rfl, by omega, hq.2.1, hq.2.2⟩
  clear hq hnd q0 wd lo hi out
  rintro s ⟨wd, lo, hi, out, q, inl, rfl, hl1, hl2, hl3⟩
  (repeat (first | refine Tr.seq ?_ | refine Tr.skip ?_ | refine Tr.label ?_ | refine Tr.block ?_ | refine Tr.scope ?_ | refine gs1 ?_ | refine gs2 ?_ | refine gs3 ?_ | refine Tr.exit ?_ | refine Tr.goto ?_ | refine Tr.ret ?_ | refine n1 ?_ | refine n2 ?_ | refine n3 ?_ | refine n4 ?_ | refine n5 ?_ | refine n6 ?_ | refine n7 ?_ | refine n8 ?_ | refine n9 (by decide) ?_))
  (first | refine r1 ?_ | refine r2 ?_ | refine r3 ?_); intro K hK; simp only [go_sem, hP, hn]; (repeat (refine ⟨by first | trivial | omega | (simp <;> omega) | (simp +contextual; done) | (clear hK; grind), ?_⟩)); refine hK _ ?_; clear K hK
  refine Tr.le (Le.keep [2, 3, 4, 5, 6]) ?_; simp only [List.map_cons, List.map_nil, lk, Nat.reduceEqDiff, reduceIte]
  have he15 : ∀ e ∈ ns.map Nd.ds, e.length = 15 := fun e he => by
    simp only [List.mem_map] at he
    obtain ⟨n, _, rfl⟩ := he
    rfl
  have hset : (ns.map Nd.ds).set i.toNat ({ q with inn := inl } : Nd).ds = (ns.set i.toNat { q with inn := inl }).map Nd.ds := by rw [List.map_set]
  have hG1 : GB (b + 1) (ns.set i.toNat { q with inn := inl }) ∧ (ns.set i.toNat { q with inn := inl }).length = ns.length := by
    refine ⟨⟨by rw [List.length_set]; omega, fun n hn => ?_⟩, by rw [List.length_set]⟩
    rcases List.mem_or_eq_of_mem_set hn with h | rfl
    · have := hG.2 n h; omega
    · exact ⟨hl1, hl2, hl3⟩
  (repeat (first | refine Tr.seq ?_ | refine Tr.skip ?_ | refine Tr.label ?_ | refine Tr.block ?_ | refine Tr.scope ?_ | refine gs1 ?_ | refine gs2 ?_ | refine gs3 ?_ | refine Tr.exit ?_ | refine Tr.goto ?_ | refine Tr.ret ?_ | refine n1 ?_ | refine n2 ?_ | refine n3 ?_ | refine n4 ?_ | refine n5 ?_ | refine n6 ?_ | refine n7 ?_ | refine n8 ?_ | refine n9 (by decide) ?_))
  (first | refine r1 ?_ | refine r2 ?_ | refine r3 ?_); intro K hK; simp only [rw_setN _ he15, go_sem, hP, hn]
  (repeat (refine ⟨by first | trivial | omega | (simp <;> omega) | (simp +contextual; done) | (clear hK; grind), ?_⟩))
  refine hK _ (Tr.le (s' := ⟨[(2, .ptr 2 0), (3, .ptr 3 0), (4, .ptr 4 0), (5, .d (.i .i64 i)), (6, .ptr 6 0)], [(2, .box 48 (gcs wd lo hi out (.own 16))), (3, .box 53 [.d (.i .i64 how), .d (.i .i64 at_), .d (.i .i64 nn)]), (4, .box 48 (gcs 0 0 0 0 (.d .nil))), (6, .box 29 ({ q with inn := inl } : Nd).cs), (16, .row 29 e0N ((ns.map Nd.ds).set i.toNat ({ q with inn := inl } : Nd).ds))]⟩) (Le.mv (by simp only [go_sem, hP, hn]; first | done | (simp; done) | (simp [intC]; done) | (repeat (first | rfl | constructor))) (by simp only [go_sem, hP, hn]; first | done | (simp; done) | (simp [intC]; done) | (repeat (first | rfl | constructor)))) ?_)
  clear K hK
  rw [hset]
  obtain ⟨hGB, hsl⟩ := hG1
  have hq1 : ({ q with inn := inl } : Nd).inn.length ≤ b + 1 ∧ ({ q with inn := inl } : Nd).ws.length ≤ 4096 ∧ ({ q with inn := inl } : Nd).bs.length ≤ 4096 := ⟨hl1, hl2, hl3⟩
  clear he15 hset hl1 hl2 hl3
  generalize ({ q with inn := inl } : Nd) = q1 at hGB hsl hq1 ⊢
  generalize ns.set i.toNat q1 = ns1 at hGB hsl ⊢
  (repeat (first | refine Tr.seq ?_ | refine Tr.skip ?_ | refine Tr.label ?_ | refine Tr.block ?_ | refine Tr.scope ?_ | refine gs1 ?_ | refine gs2 ?_ | refine gs3 ?_ | refine Tr.exit ?_ | refine Tr.goto ?_ | refine Tr.ret ?_ | refine n1 ?_ | refine n2 ?_ | refine n3 ?_ | refine n4 ?_ | refine n5 ?_ | refine n6 ?_ | refine n7 ?_ | refine n8 ?_ | refine n9 (by decide) ?_))
  (first | refine r1 ?_ | refine r2 ?_ | refine r3 ?_); intro K hK; simp only [go_sem, hP, hn]; (repeat (refine ⟨by first | trivial | omega | (simp <;> omega) | (simp +contextual; done) | (clear hK; grind), ?_⟩)); refine hK _ ?_; clear K hK
  refine Tr.meet (fun s => ∃ (ns2 : List Nd), s = ⟨[(2, .ptr 2 0), (3, .ptr 3 0), (4, .ptr 4 0), (5, .d (.i .i64 i)), (6, .ptr 6 0)], [(2, .box 48 (gcs wd lo hi out (.own 3001))), (3, .box 53 [.d (.i .i64 how), .d (.i .i64 at_), .d (.i .i64 nn)]), (4, .box 48 (gcs 0 0 0 0 (.d .nil))), (6, .box 29 q1.cs), (3001, .row 29 e0N (ns2.map Nd.ds))]⟩ ∧ ns2.length ≤ b ∧ GB (b + 1) ns2) ?_ ?_
  rotate_left
  · refine Tr.cond rfl (fun hc => ?_) (fun hc => ?_)
    · refine Tr.le (Le.freeze 16) ?_
      simp only [go_sem, hP, hn]
      refine Tr.le (Le.keep [2, 3, 4, 5, 6]) ?_; simp only [List.map_cons, List.map_nil, lk, Nat.reduceEqDiff, reduceIte]
      have w1 : wrap64 (i + 1) = i + 1 := w64 (by omega) (by omega)
      have hGd : GB (b + 1) (ns1.take i.toNat ++ ns1.drop (i + 1).toNat) := ⟨by simp; omega, fun n hn => by
        rcases List.mem_append.1 hn with h | h
        · exact hGB.2 n (List.mem_of_mem_take h)
        · exact hGB.2 n (List.mem_of_mem_drop h)⟩
      have hLr : Le E ⟨[(2, .ptr 2 0), (3, .ptr 3 0), (4, .ptr 4 0), (5, .d (.i .i64 i)), (6, .ptr 6 0)], [(2, .box 48 (gcs wd lo hi out (.own 135))), (3, .box 53 [.d (.i .i64 how), .d (.i .i64 at_), .d (.i .i64 nn)]), (4, .box 48 (gcs 0 0 0 0 (.d .nil))), (6, .box 29 q1.cs), (135, .row 29 e0N ((ns1.take i.toNat ++ ns1.drop (i + 1).toNat).map Nd.ds))]⟩ ⟨[(2, .ptr 2 0), (3, .ptr 3 0), (4, .ptr 4 0), (5, .d (.i .i64 i)), (6, .ptr 6 0)], [(2, .box 48 (gcs wd lo hi out (.own 3001))), (3, .box 53 [.d (.i .i64 how), .d (.i .i64 at_), .d (.i .i64 nn)]), (4, .box 48 (gcs 0 0 0 0 (.d .nil))), (6, .box 29 q1.cs), (3001, .row 29 e0N ((ns1.take i.toNat ++ ns1.drop (i + 1).toNat).map Nd.ds))]⟩ := by
        refine Le.trans (Le.ren 135 3001 (by rw [hpn] <;> rfl) rfl rfl) ?_; simp only [renT, renH, renO, renS, renL, rn, go_sem, hP, hn]
        exact (Le.mv (by simp only [go_sem, hP, hn]; first | done | (simp; done) | (simp [intC]; done) | (repeat (first | rfl | constructor))) (by simp only [go_sem, hP, hn]; first | done | (simp; done) | (simp [intC]; done) | (repeat (first | rfl | constructor))))
      have hes : List.take i.toNat (ns1.map Nd.ds) ++ List.drop (i + 1).toNat (List.take ns1.length (ns1.map Nd.ds)) = (ns1.take i.toNat ++ ns1.drop (i + 1).toNat).map Nd.ds := by
        rw [show List.take ns1.length (ns1.map Nd.ds) = ns1.map Nd.ds from List.take_of_length_le (by simp), List.map_append, List.map_take, List.map_drop]
      have hlt : (List.take i.toNat (ns1.map Nd.ds)).length = i.toNat := by simp; omega
      have hld : (List.drop (i + 1).toNat (List.take ns1.length (ns1.map Nd.ds))).length = ns1.length - (i + 1).toNat := by simp
      (first | refine d1 (.p true 1 (.p true 3 (.p true 6 (.p true 8 (.p true 9 (.alt 0 (.alt 2 (.p false 4 (.alt 5 (.alt 7 (.p false 10 (.alt 11 (.p true 12 (.alt 13 .nil .nil)) .nil)) .nil) (.alt 7 (.p false 10 (.alt 5 (.alt 11 (.p true 12 (.alt 13 .nil .nil)) .nil) .nil)) .nil))) (.alt 7 (.p false 10 (.alt 2 (.p false 4 (.alt 5 (.alt 11 (.p true 12 (.alt 13 .nil .nil)) .nil) .nil)) .nil)) .nil)) (.alt 2 (.p false 4 (.alt 0 (.alt 5 (.alt 7 (.p false 10 (.alt 11 (.p true 12 (.alt 13 .nil .nil)) .nil)) .nil) (.alt 7 (.p false 10 (.alt 5 (.alt 11 (.p true 12 (.alt 13 .nil .nil)) .nil) .nil)) .nil)) (.alt 7 (.p false 10 (.alt 0 (.alt 5 (.alt 11 (.p true 12 (.alt 13 .nil .nil)) .nil) .nil) .nil)) .nil))) (.alt 7 (.p false 10 (.alt 0 (.alt 2 (.p false 4 (.alt 5 (.alt 11 (.p true 12 (.alt 13 .nil .nil)) .nil) .nil)) .nil) (.alt 2 (.p false 4 (.alt 0 (.alt 5 (.alt 11 (.p true 12 (.alt 13 .nil .nil)) .nil) .nil) .nil)) .nil))) .nil)))))))) [2] (by rw [hP]; kernel_rfl) (by kernel_rfl) (by simp only [go_sem, hP, hn]; try simp) (fun _ _ h => h) fun K hK => ?_ | refine d2 (.p true 1 (.p true 3 (.p true 6 (.p true 8 (.p true 9 (.alt 0 (.alt 2 (.p false 4 (.alt 5 (.alt 7 (.p false 10 (.alt 11 (.p true 12 (.alt 13 .nil .nil)) .nil)) .nil) (.alt 7 (.p false 10 (.alt 5 (.alt 11 (.p true 12 (.alt 13 .nil .nil)) .nil) .nil)) .nil))) (.alt 7 (.p false 10 (.alt 2 (.p false 4 (.alt 5 (.alt 11 (.p true 12 (.alt 13 .nil .nil)) .nil) .nil)) .nil)) .nil)) (.alt 2 (.p false 4 (.alt 0 (.alt 5 (.alt 7 (.p false 10 (.alt 11 (.p true 12 (.alt 13 .nil .nil)) .nil)) .nil) (.alt 7 (.p false 10 (.alt 5 (.alt 11 (.p true 12 (.alt 13 .nil .nil)) .nil) .nil)) .nil)) (.alt 7 (.p false 10 (.alt 0 (.alt 5 (.alt 11 (.p true 12 (.alt 13 .nil .nil)) .nil) .nil) .nil)) .nil))) (.alt 7 (.p false 10 (.alt 0 (.alt 2 (.p false 4 (.alt 5 (.alt 11 (.p true 12 (.alt 13 .nil .nil)) .nil) .nil)) .nil) (.alt 2 (.p false 4 (.alt 0 (.alt 5 (.alt 11 (.p true 12 (.alt 13 .nil .nil)) .nil) .nil) .nil)) .nil))) .nil)))))))) [2] (by rw [hP]; kernel_rfl) (by kernel_rfl) (by simp only [go_sem, hP, hn]; try simp) (fun _ _ h => h) fun K hK => ?_ | refine d4 (.p true 1 (.p true 3 (.p true 6 (.p true 8 (.p true 9 (.alt 0 (.alt 2 (.p false 4 (.alt 5 (.alt 7 (.p false 10 (.alt 11 (.p true 12 (.alt 13 .nil .nil)) .nil)) .nil) (.alt 7 (.p false 10 (.alt 5 (.alt 11 (.p true 12 (.alt 13 .nil .nil)) .nil) .nil)) .nil))) (.alt 7 (.p false 10 (.alt 2 (.p false 4 (.alt 5 (.alt 11 (.p true 12 (.alt 13 .nil .nil)) .nil) .nil)) .nil)) .nil)) (.alt 2 (.p false 4 (.alt 0 (.alt 5 (.alt 7 (.p false 10 (.alt 11 (.p true 12 (.alt 13 .nil .nil)) .nil)) .nil) (.alt 7 (.p false 10 (.alt 5 (.alt 11 (.p true 12 (.alt 13 .nil .nil)) .nil) .nil)) .nil)) (.alt 7 (.p false 10 (.alt 0 (.alt 5 (.alt 11 (.p true 12 (.alt 13 .nil .nil)) .nil) .nil) .nil)) .nil))) (.alt 7 (.p false 10 (.alt 0 (.alt 2 (.p false 4 (.alt 5 (.alt 11 (.p true 12 (.alt 13 .nil .nil)) .nil) .nil)) .nil) (.alt 2 (.p false 4 (.alt 0 (.alt 5 (.alt 11 (.p true 12 (.alt 13 .nil .nil)) .nil) .nil) .nil)) .nil))) .nil)))))))) [2] (by rw [hP]; kernel_rfl) (by kernel_rfl) (by simp only [go_sem, hP, hn]; try simp) (fun _ _ h => h) fun K hK => ?_); simp only [go_sem, hP, hn]
      simp only [w1, hlt, hld, hes]
      (repeat' (refine And.intro ?_ ?_)); all_goals (first | (refine hK _ ?_; (refine ⟨_, ?_, ns1.take i.toNat ++ ns1.drop (i + 1).toNat, rfl, by simp; omega, hGd⟩; exact ((Le.mv (by simp only [go_sem, hP, hn]; first | done | (simp; done) | (simp [intC]; done) | (repeat (first | rfl | constructor))) (by simp only [go_sem, hP, hn]; first | done | (simp; done) | (simp [intC]; done) | (repeat (first | rfl | constructor)))) : Le E _ ⟨[(2, .ptr 2 0), (3, .ptr 3 0), (4, .ptr 4 0), (5, .d (.i .i64 i)), (6, .ptr 6 0)], [(2, .box 48 (gcs wd lo hi out (.own 135))), (3, .box 53 [.d (.i .i64 how), .d (.i .i64 at_), .d (.i .i64 nn)]), (4, .box 48 (gcs 0 0 0 0 (.d .nil))), (6, .box 29 q1.cs), (135, .row 29 e0N ((ns1.take i.toNat ++ ns1.drop (i + 1).toNat).map Nd.ds))]⟩).trans hLr)) | (first | trivial | omega | (simp <;> omega) | (simp +contextual; done) | (clear hK; grind)))
    · (repeat (first | ((first | refine r1 ?_ | refine r2 ?_ | refine r3 ?_); intro K hK; simp only [go_sem, hP, hn]; (repeat (refine ⟨by first | trivial | omega | (simp <;> omega) | (simp +contextual; done) | (clear hK; grind), ?_⟩)); refine hK _ ?_; clear K hK) | refine Tr.seq ?_ | refine Tr.skip ?_ | refine Tr.label ?_ | refine Tr.block ?_ | refine Tr.scope ?_ | refine gs1 ?_ | refine gs2 ?_ | refine gs3 ?_ | refine Tr.exit ?_ | refine Tr.goto ?_ | refine Tr.ret ?_ | refine n1 ?_ | refine n2 ?_ | refine n3 ?_ | refine n4 ?_ | refine n5 ?_ | refine n6 ?_ | refine n7 ?_ | refine n8 ?_ | refine n9 (by decide) ?_))
      refine ⟨_, ?_, ns1, rfl, by omega, hGB⟩
      refine Le.trans (b := ⟨[(2, .ptr 2 0), (3, .ptr 3 0), (4, .ptr 4 0), (5, .d (.i .i64 i)), (6, .ptr 6 0)], [(2, .box 48 (gcs wd lo hi out (.own 16))), (3, .box 53 [.d (.i .i64 how), .d (.i .i64 at_), .d (.i .i64 nn)]), (4, .box 48 (gcs 0 0 0 0 (.d .nil))), (6, .box 29 q1.cs), (16, .row 29 e0N (ns1.map Nd.ds))]⟩) (Le.mv (by simp only [go_sem, hP, hn]; first | done | (simp; done) | (simp [intC]; done) | (repeat (first | rfl | constructor))) (by simp only [go_sem, hP, hn]; first | done | (simp; done) | (simp [intC]; done) | (repeat (first | rfl | constructor)))) ?_
      refine Le.trans (Le.ren 16 3001 (by rw [hpn] <;> rfl) rfl rfl) ?_; simp only [renT, renH, renO, renS, renL, rn, go_sem, hP, hn]
      exact (Le.mv (by simp only [go_sem, hP, hn]; first | done | (simp; done) | (simp [intC]; done) | (repeat (first | rfl | constructor))) (by simp only [go_sem, hP, hn]; first | done | (simp; done) | (simp [intC]; done) | (repeat (first | rfl | constructor))))
  rintro s ⟨ns2, rfl, hn2, hG2⟩
  (repeat (first | ((first | refine r1 ?_ | refine r2 ?_ | refine r3 ?_); intro K hK; simp only [go_sem, hP, hn]; (repeat (refine ⟨by first | trivial | omega | (simp <;> omega) | (simp +contextual; done) | (clear hK; grind), ?_⟩)); refine hK _ ?_; clear K hK) | refine Tr.seq ?_ | refine Tr.skip ?_ | refine Tr.label ?_ | refine Tr.block ?_ | refine Tr.scope ?_ | refine gs1 ?_ | refine gs2 ?_ | refine gs3 ?_ | refine Tr.exit ?_ | refine Tr.goto ?_ | refine Tr.ret ?_ | refine n1 ?_ | refine n2 ?_ | refine n3 ?_ | refine n4 ?_ | refine n5 ?_ | refine n6 ?_ | refine n7 ?_ | refine n8 ?_ | refine n9 (by decide) ?_))
  refine Tr.cond rfl (fun hd => ?_) (fun hd => ?_)
  · (repeat (first | ((first | refine r1 ?_ | refine r2 ?_ | refine r3 ?_); intro K hK; simp only [go_sem, hP, hn]; (repeat (refine ⟨by first | trivial | omega | (simp <;> omega) | (simp +contextual; done) | (clear hK; grind), ?_⟩)); refine hK _ ?_; clear K hK) | refine Tr.seq ?_ | refine Tr.skip ?_ | refine Tr.label ?_ | refine Tr.block ?_ | refine Tr.scope ?_ | refine gs1 ?_ | refine gs2 ?_ | refine gs3 ?_ | refine Tr.exit ?_ | refine Tr.goto ?_ | refine Tr.ret ?_ | refine n1 ?_ | refine n2 ?_ | refine n3 ?_ | refine n4 ?_ | refine n5 ?_ | refine n6 ?_ | refine n7 ?_ | refine n8 ?_ | refine n9 (by decide) ?_))
    simp only [RetG, go_sem]; (repeat (with_reducible refine And.intro ?_ ?_; (· first | trivial | omega | (simp <;> omega) | (simp +contextual; done) | (clear hK; grind))))
    exact ⟨wd, lo, hi, out, ns2 ++ [q1], by simp [gcs, rowN, Nd.ds, e0N], by simp; omega, fun n hn => by
      rcases List.mem_append.1 hn with h | h
      · exact hG2.2 n h
      · simp at h; subst h; exact hq1⟩
  · (repeat (first | ((first | refine r1 ?_ | refine r2 ?_ | refine r3 ?_); intro K hK; simp only [go_sem, hP, hn]; (repeat (refine ⟨by first | trivial | omega | (simp <;> omega) | (simp +contextual; done) | (clear hK; grind), ?_⟩)); refine hK _ ?_; clear K hK) | refine Tr.seq ?_ | refine Tr.skip ?_ | refine Tr.label ?_ | refine Tr.block ?_ | refine Tr.scope ?_ | refine gs1 ?_ | refine gs2 ?_ | refine gs3 ?_ | refine Tr.exit ?_ | refine Tr.goto ?_ | refine Tr.ret ?_ | refine n1 ?_ | refine n2 ?_ | refine n3 ?_ | refine n4 ?_ | refine n5 ?_ | refine n6 ?_ | refine n7 ?_ | refine n8 ?_ | refine n9 (by decide) ?_))
    simp only [RetG, go_sem]; (repeat (with_reducible refine And.intro ?_ ?_; (· first | trivial | omega | (simp <;> omega) | (simp +contextual; done) | (clear hK; grind))))
    exact ⟨wd, lo, hi, out, ns2, rfl, hG2⟩
theorem GraphChecks_c {T : World → Prop} (Tk : KT T) (l : List Int) (h0 a0 n0 h1 a1 n1 h2 a2 n2 : Int) : Cg Go.Proofs.Tryd.prog T 9 [] [.d (.row [.i .i64 0] (l.map intC)), .agg [.d (.i .i64 h0), .d (.i .i64 a0), .d (.i .i64 n0), .d (.i .i64 h1), .d (.i .i64 a1), .d (.i .i64 n1), .d (.i .i64 h2), .d (.i .i64 a2), .d (.i .i64 n2)]] (fun r H => H = [] ∧ r = .d (.b true)) := by
  refine Cg_of [] Tk.m Go.Proofs.Tryd.func9 rfl rfl Go.Proofs.Tryd.ntmps9 (by simp) rfl (rs := [.tmp 4]) rfl fun E hP hn hT hpn => ?_
  (repeat (first | refine Tr.seq ?_ | refine Tr.skip ?_ | refine Tr.label ?_ | refine Tr.block ?_ | refine Tr.scope ?_ | refine gs1 ?_ | refine gs2 ?_ | refine gs3 ?_ | refine Tr.exit ?_ | refine Tr.goto ?_ | refine Tr.ret ?_ | refine n1 ?_ | refine n2 ?_ | refine n3 ?_ | refine n4 ?_ | refine n5 ?_ | refine n6 ?_ | refine n7 ?_ | refine n8 ?_ | refine n9 (by decide) ?_))
  (first | refine r1 ?_ | refine r2 ?_ | refine r3 ?_); intro K hK; simp only [go_sem, hP, hn]; (repeat (refine ⟨by first | trivial | omega | (simp <;> omega) | (simp +contextual; done) | (clear hK; grind), ?_⟩)); refine hK _ ?_; clear K hK
  (repeat (first | refine Tr.seq ?_ | refine Tr.skip ?_ | refine Tr.label ?_ | refine Tr.block ?_ | refine Tr.scope ?_ | refine gs1 ?_ | refine gs2 ?_ | refine gs3 ?_ | refine Tr.exit ?_ | refine Tr.goto ?_ | refine Tr.ret ?_ | refine n1 ?_ | refine n2 ?_ | refine n3 ?_ | refine n4 ?_ | refine n5 ?_ | refine n6 ?_ | refine n7 ?_ | refine n8 ?_ | refine n9 (by decide) ?_))
  (first | refine r1 ?_ | refine r2 ?_ | refine r3 ?_); intro K hK; simp only [go_sem, hP, hn]
  (repeat (refine ⟨by first | trivial | omega | (simp <;> omega) | (simp +contextual; done) | (clear hK; grind), ?_⟩))
  refine CallN_cs (Hi := [] ) (by rw [hP, hT]; exact  awake16_c Tk) rfl rfl rfl trivial (by simp only [go_sem, hP, hn]; try trivial) (by simp only [go_sem, hP, hn]; try rfl) (by simp only [inH, go_sem, hP, hn]; try simp) (by rw [hn]; decide) ?_; simp only [go_sem, hP, hn]; (repeat (refine ⟨by first | trivial | omega | (simp <;> omega) | (simp +contextual; done) | (clear hK; grind), ?_⟩))
  refine hK _ ?_; clear K hK
  (repeat (first | refine Tr.seq ?_ | refine Tr.skip ?_ | refine Tr.label ?_ | refine Tr.block ?_ | refine Tr.scope ?_ | refine gs1 ?_ | refine gs2 ?_ | refine gs3 ?_ | refine Tr.exit ?_ | refine Tr.goto ?_ | refine Tr.ret ?_ | refine n1 ?_ | refine n2 ?_ | refine n3 ?_ | refine n4 ?_ | refine n5 ?_ | refine n6 ?_ | refine n7 ?_ | refine n8 ?_ | refine n9 (by decide) ?_))
  (first | refine r1 ?_ | refine r2 ?_ | refine r3 ?_); intro K hK; simp only [go_sem, hP, hn]
  (repeat (refine ⟨by first | trivial | omega | (simp <;> omega) | (simp +contextual; done) | (clear hK; grind), ?_⟩))
  refine CallN_cx (Hi := []) (by rw [hP, hT]; exact Made16_c Tk.m l ) rfl rfl rfl trivial (by simp only [go_sem, hP, hn]; try trivial) (by simp only [go_sem, hP, hn]; try rfl) trivial (by rw [hn]; decide) (fun r Ho hr => ?_); obtain  ⟨wd, lo, hi, out, ns, rfl, rfl, hG⟩ := hr; refine ⟨fun k _ => hpn k rfl, ?_⟩; simp only [cgS, newK, touK, go_sem, hP, hn]; (repeat (refine ⟨by first | trivial | omega | (simp <;> omega) | (simp +contextual; done) | (clear hK; grind), ?_⟩))
  refine hK _ ?_; clear K hK
  have hn0 := hG.n0
  have hinn := hG.inn
  have hB : GB 6 ns := ⟨hn0.2, fun n hn => by have := hinn n hn; omega⟩
  have hl1 : ns.length ≤ 1000 := by omega
  have hi1 : ∀ n ∈ ns, n.inn.length ≤ 4096 ∧ n.ws.length ≤ 65536 ∧ n.bs.length ≤ 65536 := fun n hn => by have := hinn n hn; omega
  clear hG hn0 hinn
  refine Tr.le (Le.freeze 2000) ?_
  simp only [go_sem, hP, hn]
  refine Tr.le (Le.keep [3, 5, 6]) ?_; simp only [List.map_cons, List.map_nil, lk, Nat.reduceEqDiff, reduceIte]
  (repeat (first | refine Tr.seq ?_ | refine Tr.skip ?_ | refine Tr.label ?_ | refine Tr.block ?_ | refine Tr.scope ?_ | refine gs1 ?_ | refine gs2 ?_ | refine gs3 ?_ | refine Tr.exit ?_ | refine Tr.goto ?_ | refine Tr.ret ?_ | refine n1 ?_ | refine n2 ?_ | refine n3 ?_ | refine n4 ?_ | refine n5 ?_ | refine n6 ?_ | refine n7 ?_ | refine n8 ?_ | refine n9 (by decide) ?_))
  (first | refine r1 ?_ | refine r2 ?_ | refine r3 ?_); intro K hK; simp only [go_sem, hP, hn]
  (repeat (refine ⟨by first | trivial | omega | (simp <;> omega) | (simp +contextual; done) | (clear hK; grind), ?_⟩))
  refine CallN_cx (Hi := []) (by rw [hP, hT]; exact spoilt16_c Tk.m wd lo hi out h0 a0 n0 ns 6 (by decide) hB ) rfl rfl rfl trivial (by simp only [go_sem, hP, hn]; try trivial) (by simp only [go_sem, hP, hn]; try rfl) trivial (by rw [hn]; decide) (fun r Ho hr => ?_); obtain  ⟨rfl, wd1, lo1, hi1', out1, ns1, rfl, hB1⟩ := hr; refine ⟨fun k _ => hpn k rfl, ?_⟩; simp only [cgS, newK, touK, go_sem, hP, hn]; (repeat (refine ⟨by first | trivial | omega | (simp <;> omega) | (simp +contextual; done) | (clear hK; grind), ?_⟩))
  refine hK _ ?_; clear K hK
  have hl2 : ns1.length ≤ 1000 := by have := hB1.1; omega
  have hi2 : ∀ n ∈ ns1, n.inn.length ≤ 4096 ∧ n.ws.length ≤ 65536 ∧ n.bs.length ≤ 65536 := fun n hn => by have := hB1.2 n hn; omega
  refine Tr.le (Le.keep [3, 5, 6, 7]) ?_; simp only [List.map_cons, List.map_nil, lk, Nat.reduceEqDiff, reduceIte]
  (repeat (first | refine Tr.seq ?_ | refine Tr.skip ?_ | refine Tr.label ?_ | refine Tr.block ?_ | refine Tr.scope ?_ | refine gs1 ?_ | refine gs2 ?_ | refine gs3 ?_ | refine Tr.exit ?_ | refine Tr.goto ?_ | refine Tr.ret ?_ | refine n1 ?_ | refine n2 ?_ | refine n3 ?_ | refine n4 ?_ | refine n5 ?_ | refine n6 ?_ | refine n7 ?_ | refine n8 ?_ | refine n9 (by decide) ?_))
  (first | refine r1 ?_ | refine r2 ?_ | refine r3 ?_); intro K hK; simp only [go_sem, hP, hn]
  (repeat (refine ⟨by first | trivial | omega | (simp <;> omega) | (simp +contextual; done) | (clear hK; grind), ?_⟩))
  refine CallN_cx (Hi := []) (by rw [hP, hT]; exact spoilt16_c Tk.m wd1 lo1 hi1' out1 h1 a1 n1 ns1 7 (by decide) hB1 ) rfl rfl rfl trivial (by simp only [go_sem, hP, hn]; try trivial) (by simp only [go_sem, hP, hn]; try rfl) trivial (by rw [hn]; decide) (fun r Ho hr => ?_); obtain  ⟨rfl, wd2, lo2, hi2', out2, ns2, rfl, hB2⟩ := hr; refine ⟨fun k _ => hpn k rfl, ?_⟩; simp only [cgS, newK, touK, go_sem, hP, hn]; (repeat (refine ⟨by first | trivial | omega | (simp <;> omega) | (simp +contextual; done) | (clear hK; grind), ?_⟩))
  refine hK _ ?_; clear K hK
  have hl3 : ns2.length ≤ 1000 := by have := hB2.1; omega
  have hi3 : ∀ n ∈ ns2, n.inn.length ≤ 4096 ∧ n.ws.length ≤ 65536 ∧ n.bs.length ≤ 65536 := fun n hn => by have := hB2.2 n hn; omega
  refine Tr.le (Le.keep [3, 5, 6, 7, 8]) ?_; simp only [List.map_cons, List.map_nil, lk, Nat.reduceEqDiff, reduceIte]
  (repeat (first | refine Tr.seq ?_ | refine Tr.skip ?_ | refine Tr.label ?_ | refine Tr.block ?_ | refine Tr.scope ?_ | refine gs1 ?_ | refine gs2 ?_ | refine gs3 ?_ | refine Tr.exit ?_ | refine Tr.goto ?_ | refine Tr.ret ?_ | refine n1 ?_ | refine n2 ?_ | refine n3 ?_ | refine n4 ?_ | refine n5 ?_ | refine n6 ?_ | refine n7 ?_ | refine n8 ?_ | refine n9 (by decide) ?_))
  (first | refine r1 ?_ | refine r2 ?_ | refine r3 ?_); intro K hK; simp only [beq_self_eq_true, go_sem, hP, hn]
  (repeat (refine ⟨by first | trivial | omega | (simp <;> omega) | (simp +contextual; done) | (clear hK; grind), ?_⟩))
  refine CallN_gs (Hi := [] ) (fun hg => by rw [hP, hT]; exact  looks_c Tk wd lo hi out ns hl1 hi1) rfl rfl rfl (fun hg => trivial) (fun hg => by clear hK; revert hg; simp only [go_sem, hP, hn] <;> first | trivial | omega | (simp; done) | (simp +contextual; done) | grind) (fun hg => by simp only [go_sem, hP, hn]; try rfl) (by simp only [inH, go_sem, hP, hn]; try simp) (by rw [hn]; decide) ?_; simp only [go_sem, hP, hn]; (repeat (refine ⟨by first | trivial | omega | (simp <;> omega) | (simp +contextual; done) | (clear hK; grind), ?_⟩))
  simp only [beq_self_eq_true]
  refine CallN_gs (Hi := [] ) (fun hg => by rw [hP, hT]; exact  looks_c Tk wd1 lo1 hi1' out1 ns1 hl2 hi2) rfl rfl rfl (fun hg => trivial) (fun hg => by clear hK; revert hg; simp only [go_sem, hP, hn] <;> first | trivial | omega | (simp; done) | (simp +contextual; done) | grind) (fun hg => by simp only [go_sem, hP, hn]; try rfl) (by simp only [inH, go_sem, hP, hn]; try simp) (by rw [hn]; decide) ?_; simp only [go_sem, hP, hn]; (repeat (refine ⟨by first | trivial | omega | (simp <;> omega) | (simp +contextual; done) | (clear hK; grind), ?_⟩))
  simp only [beq_self_eq_true]
  refine CallN_gs (Hi := [] ) (fun hg => by rw [hP, hT]; exact  looks_c Tk wd2 lo2 hi2' out2 ns2 hl3 hi3) rfl rfl rfl (fun hg => trivial) (fun hg => by clear hK; revert hg; simp only [go_sem, hP, hn] <;> first | trivial | omega | (simp; done) | (simp +contextual; done) | grind) (fun hg => by simp only [go_sem, hP, hn]; try rfl) (by simp only [inH, go_sem, hP, hn]; try simp) (by rw [hn]; decide) ?_; simp only [go_sem, hP, hn]; (repeat (refine ⟨by first | trivial | omega | (simp <;> omega) | (simp +contextual; done) | (clear hK; grind), ?_⟩))
  simp only [beq_self_eq_true]
  refine CallN_tx (by rw [hP, hT]; exact spoilt16_c Tk.m wd2 lo2 hi2' out2 h2 a2 n2 ns2 8 (by decide) hB2 ) rfl rfl rfl trivial (by simp only [go_sem, hP, hn]; try trivial) (by simp only [go_sem, hP, hn]; try rfl) (by rw [hn]; decide) (fun r hr => ?_); obtain  ⟨wd3, lo3, hi3', out3, ns3, rfl, hB3⟩ := hr; simp only [beq_self_eq_true, go_sem, hP, hn]; (repeat (refine ⟨by first | trivial | omega | (simp <;> omega) | (simp +contextual; done) | (clear hK; grind), ?_⟩))
  have hl4 : ns3.length ≤ 1000 := by have := hB3.1; omega
  have hi4 : ∀ n ∈ ns3, n.inn.length ≤ 4096 ∧ n.ws.length ≤ 65536 ∧ n.bs.length ≤ 65536 := fun n hn => by have := hB3.2 n hn; omega
  refine CallN_gs (Hi := [] ) (fun hg => by rw [hP, hT]; exact  looks_c Tk wd3 lo3 hi3' out3 ns3 hl4 hi4) rfl rfl rfl (fun hg => trivial) (fun hg => by clear hK; revert hg; simp only [go_sem, hP, hn] <;> first | trivial | omega | (simp; done) | (simp +contextual; done) | grind) (fun hg => by simp only [go_sem, hP, hn]; try rfl) (by simp only [inH, go_sem, hP, hn]; try simp) (by rw [hn]; decide) ?_; simp only [go_sem, hP, hn]; (repeat (refine ⟨by first | trivial | omega | (simp <;> omega) | (simp +contextual; done) | (clear hK; grind), ?_⟩))
  refine hK _ ?_; clear K hK
  (repeat (first | ((first | refine r1 ?_ | refine r2 ?_ | refine r3 ?_); intro K hK; simp only [go_sem, hP, hn]; (repeat (refine ⟨by first | trivial | omega | (simp <;> omega) | (simp +contextual; done) | (clear hK; grind), ?_⟩)); refine hK _ ?_; clear K hK) | refine Tr.seq ?_ | refine Tr.skip ?_ | refine Tr.label ?_ | refine Tr.block ?_ | refine Tr.scope ?_ | refine gs1 ?_ | refine gs2 ?_ | refine gs3 ?_ | refine Tr.exit ?_ | refine Tr.goto ?_ | refine Tr.ret ?_ | refine n1 ?_ | refine n2 ?_ | refine n3 ?_ | refine n4 ?_ | refine n5 ?_ | refine n6 ?_ | refine n7 ?_ | refine n8 ?_ | refine n9 (by decide) ?_))
  simp only [RetG, go_sem]; (repeat (with_reducible refine And.intro ?_ ?_; (· first | trivial | omega | (simp <;> omega) | (simp +contextual; done) | (clear hK; grind))))
end Go.Proofs.YtohhaonjckfkaaaDoor.Aw
namespace Go.Proofs.YtohhaonjckfkaaaDoor.Aw
open Go.RowKit
/-! from contracts to rows -/
theorem Tab.size {w : World} (h : Tab w) : G0 ≤ w.heap.size := by
  have h0 := h 0 0 rfl
  unfold World.cell? at h0
  simp only at h0
  rcases Nat.lt_or_ge 0 w.heap.size with hl | hl
  · exact hl
  · rw [Array.getElem?_eq_none hl] at h0; cases h0
theorem KTab : KT Tab := ⟨⟨fun _ _ hb h => h.below hb, fun _ h => h.size⟩, fun _ h => h⟩
theorem Cg.calls {P : Program} {T : World → Prop} {f : Nat} {xs : List S} {R0 : S} {v0 : Value} (C : Cg P T f [] xs (fun r H => H = [] ∧ r = R0)) (hv : ∀ η F w v, RS η F w R0 v → v = v0) {w : World} (vs : List Value) (hT : T w) (hx : RSL η0 (fun _ => True) w xs vs) :
    Calls P f vs.toArray w fun e w' => e = .returned v0 ∧ Below w.heap.size w w' := by
  refine (C.2 (fun _ => True) w η0 vs hT (show In w (fun _ => True) [] η0 from ⟨fun k o hk => (by simp [lh] at hk), fun k o g hk => (by simp [lh] at hk), fun k k' o o' _ hk => (by simp [lh] at hk)⟩) hx).mono ?_
  rintro e w' ⟨r, v, Ho, η', rfl, ⟨rfl, rfl⟩, h1, h2⟩
  refine ⟨by rw [hv _ _ _ _ h1], h2.bel.below fun b ⟨k, o, hk, _⟩ => by simp [lh] at hk⟩
/-- a row of numbers that came in -/
theorem Rd_ints {w : World} {a : Option Addr} {len cap : Nat} {zs : List Int} (h : (a = none ∧ len = 0 ∧ cap = 0 ∧ zs = []) ∨ ∃ x, a = some x ∧ len ≤ cap ∧ cap ≤ maxLen ∧ zs.length = cap ∧ ∀ i, i < zs.length → w.cell? (x.add i) = some (.int .i64 (zs.getD i 0))) :
    Rd (fun _ => True) w (.row [.i .i64 0] ((zs.take len).map intC)) (.slice a len cap) := by
  simp only [Rd]
  rcases h with ⟨rfl, rfl, rfl, rfl⟩ | ⟨x, rfl, hl, hm, hz, hc⟩
  · exact ⟨none, 0, rfl, Nat.le_refl _, .inl ⟨rfl, fun _ => rfl⟩⟩
  · have hlen : ((zs.take len).map intC).length = len := by simp; omega
    refine ⟨some x, cap, by rw [hlen], by rw [hlen]; exact hl, ?_⟩
    rcases Nat.eq_zero_or_pos len with h0 | h0
    · subst h0
      exact .inl ⟨by simp, fun e => by cases e⟩
    · right
      have c0 := hc 0 (by omega)
      rw [show x.add 0 = x from if_pos rfl] at c0
      have hadd : ∀ i, x.add i = if i = 0 then x else { x with off := x.off + i, spot := none } := fun i => rfl
      unfold World.cell? at c0
      cases hq : w.heap[x.block]? with
      | none => rw [hq] at c0; cases c0
      | some o =>
        rw [hq] at c0
        cases o <;> simp only at c0 <;> try (cases c0; done)
        rename_i cs t fr
        have hsp : x.spot = none := by
          cases hs : x.spot with
          | none => rfl
          | some q => rw [hs] at c0; cases c0
        refine ⟨x, cs, t, fr, rfl, hsp, trivial, hq, RdE.of fun j e he => ?_⟩
        have hj : j < len := by
          have := (List.getElem?_eq_some_iff.1 he).1
          omega
        have hcj := hc j (by omega)
        have he2 : e = intC (zs.getD j 0) := by
          rw [List.getElem?_map, List.getElem?_take, if_pos hj] at he
          cases hz2 : zs[j]? with
          | none => rw [hz2] at he; cases he
          | some z =>
            rw [hz2] at he
            simp only [Option.map_some, Option.some.injEq] at he
            rw [← he, List.getD_eq_getElem?_getD, hz2]; rfl
        subst he2
        refine ⟨rfl, ?_⟩
        simp only [intC, RdC, and_true]
        refine ⟨_, ?_, rfl⟩
        unfold World.cell? at hcj
        rw [hadd] at hcj
        by_cases hj0 : j = 0
        · subst hj0
          rw [if_pos rfl, hq] at hcj
          simp only [hsp, Option.isSome_none, Bool.false_eq_true, if_false] at hcj
          simpa using hcj
        · rw [if_neg hj0] at hcj
          simp only [hq, Option.isSome_none, Bool.false_eq_true, if_false] at hcj
          simpa using hcj
section
variable {η : Nat → Value} {F : Nat → Prop} {w : World}
theorem RSL_nil : RSL η F w [] [] := by simp only [RSL]
theorem RSL_cons {c : S} {cs : List S} {v : Value} {r : List Value} (h : RS η F w c v) (k : RSL η F w cs r) : RSL η F w (c :: cs) (v :: r) := by
  simp only [RSL]; exact ⟨v, r, rfl, h, k⟩
theorem RS_int (k : IntKind) (n : Int) : RS η F w (.d (.i k n)) (.int k n) := by simp only [RS, Rd]
theorem RS_d {x : D} {v : Value} (h : Rd F w x v) : RS η F w (.d x) v := by simp only [RS]; exact h
theorem RS_true {v : Value} (h : RS η F w (.d (.b true)) v) : v = .bool true := by simpa only [RS, Rd] using h
theorem RS_agg {cs : List S} {vs : List Value} (h : RSL η F w cs vs) : RS η F w (.agg cs) (.agg vs.toArray) := by simp only [RS]; exact ⟨_, rfl, h⟩
end
end Go.Proofs.YtohhaonjckfkaaaDoor.Aw
