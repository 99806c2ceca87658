/- The abstract walk, and contracts of Go functions: each call returns what the Lean function named tells. Conditions: those that each theorem names, none else. -/
import Derived.Test.YtohhaonjckfkaaaDoorZGraphCycle6
set_option linter.unusedVariables false
set_option linter.unusedSimpArgs false
set_option linter.unusedSectionVars false
set_option maxRecDepth 100000
set_option maxHeartbeats 4000000
namespace Go.Proofs.YtohhaonjckfkaaaDoor.Aw
open Go.RowKit
/-! graphs that ref15.Made makes are right: their order is whole, and what is told goes along it -/
structure NodeG (N : Int) (n : Nd) (W R : Int → Int) (rk : Int → Nat) (i : Int) : Prop where
  l1 : 1 ≤ n.inn.length
  l2 : n.inn.length ≤ 2
  inn : ∀ j ∈ n.inn, 0 ≤ j ∧ j ≤ N ∧ rk j < rk i
  chk : n.rchk (n.inn.map W) = 0
  wd : W i = n.rwide (n.inn.map W)
  rt : R i = n.rate (n.inn.map R)
  same : ∀ j ∈ n.inn, ∀ j' ∈ n.inn, R j = R j'
  still : ∀ j ∈ n.inn, R j = 0 → rWin n.k = false ∧ n.k ≠ 5
  wl : n.ws.length ≤ 4096
  bl : n.bs.length ≤ 4096
  st0 : 1 ≤ n.rStp
  st1 : n.rStp ≤ 3
  sp0 : 1 ≤ n.rSpan
  sp1 : n.rSpan ≤ 10
  post : n.post = 0
structure GG (wd : Int) (ns : List Nd) (W R : Int → Int) (rk : Int → Nat) : Prop where
  W0 : W 0 = wd
  R0 : R 0 = 1
  k0 : rk 0 = 0
  node : ∀ i : Int, 1 ≤ i → i ≤ ns.length → NodeG ns.length (nd ns (i - 1)) W R rk i ∧ rk i ≤ ns.length
theorem NodeG.congr {N N' : Int} {n : Nd} {W R W' R' : Int → Int} {rk : Int → Nat} {i : Int} (h : NodeG N n W R rk i) (hN : N ≤ N') (hi : W' i = W i ∧ R' i = R i) (hj : ∀ j ∈ n.inn, W' j = W j ∧ R' j = R j) : NodeG N' n W' R' rk i := by
  have e1 : n.inn.map W' = n.inn.map W := List.map_congr_left fun j h => (hj j h).1
  have e2 : n.inn.map R' = n.inn.map R := List.map_congr_left fun j h => (hj j h).2
  exact ⟨h.l1, h.l2, fun j hm => by have := h.inn j hm; omega, by rw [e1]; exact h.chk, by rw [e1, hi.1]; exact h.wd, by rw [e2, hi.2]; exact h.rt,
    fun j hm j' hm' => by rw [(hj j hm).2, (hj j' hm').2]; exact h.same j hm j' hm', fun j hm => by rw [(hj j hm).2]; exact h.still j hm, h.wl, h.bl, h.st0, h.st1, h.sp0, h.sp1, h.post⟩
theorem rd_app {l : List Int} {x j : Int} (h0 : 0 ≤ j) (h1 : j < l.length) : rd (l ++ [x]) j = rd l j := by
  unfold rd
  rw [List.getD_eq_getElem?_getD, List.getD_eq_getElem?_getD, List.getElem?_append_left (by omega)]
theorem rd_last (l : List Int) (x : Int) : rd (l ++ [x]) l.length = x := by
  unfold rd
  simp [List.getD_eq_getElem?_getD]
theorem nd_app {l : List Nd} {x : Nd} {j : Int} (h1 : j.toNat < l.length) : nd (l ++ [x]) j = nd l j := by
  unfold nd
  rw [List.getD_eq_getElem?_getD, List.getD_eq_getElem?_getD, List.getElem?_append_left h1]
theorem nd_last (l : List Nd) (x : Nd) : nd (l ++ [x]) l.length = x := by
  unfold nd
  simp [List.getD_eq_getElem?_getD]
theorem MadeL.gg {wd : Int} {ns : List Nd} {W R : List Int} (h : MadeL wd ns W R) : GG wd ns (rd W) (rd R) Int.toNat := by
  induction h with
  | base => exact ⟨rfl, rfl, rfl, fun i h0 h1 => by simp at h1; omega⟩
  | @step ns W R n w r hM hs ih =>
    have hl := hM.len
    refine ⟨by rw [rd_app (by omega) (by omega)]; exact ih.W0, by rw [rd_app (by omega) (by omega)]; exact ih.R0, rfl, fun i h0 h1 => ?_⟩
    rw [List.length_append, List.length_singleton] at h1 ⊢
    refine ⟨?_, by omega⟩
    rcases Int.lt_or_le (ns.length : Int) i with hlt | hle
    · obtain rfl : i = ns.length + 1 := by omega
      rw [show ((ns.length : Int) + 1 - 1) = ns.length by omega, nd_last]
      have hW : ∀ j ∈ n.inn, rd (W ++ [w]) j = rd W j ∧ rd (R ++ [r]) j = rd R j := fun j hj => by
        have := hs.inn j hj
        exact ⟨rd_app (by omega) (by omega), rd_app (by omega) (by omega)⟩
      have hwi : rd (W ++ [w]) ((ns.length : Int) + 1) = w := by rw [show ((ns.length : Int) + 1) = W.length by omega, rd_last]
      have hri : rd (R ++ [r]) ((ns.length : Int) + 1) = r := by rw [show ((ns.length : Int) + 1) = R.length by omega, rd_last]
      have h0m : rd n.inn 0 ∈ n.inn := rd_mem (by omega) (by have := hs.l1; omega)
      have e1 : n.inn.map (rd (W ++ [w])) = n.inn.map (rd W) := List.map_congr_left fun j h => (hW j h).1
      have e2 : n.inn.map (rd (R ++ [r])) = n.inn.map (rd R) := List.map_congr_left fun j h => (hW j h).2
      exact ⟨hs.l1, hs.l2, fun j hj => by have := hs.inn j hj; omega, by rw [e1]; exact hs.chk, by rw [hwi, e1]; exact hs.wd, by rw [hri, e2]; exact hs.rt,
        fun j hj j' hj' => by rw [(hW j hj).2, (hW j' hj').2, hs.same j hj, hs.same j' hj'], fun j hj => by rw [(hW j hj).2, hs.same j hj]; exact hs.still, hs.wl, hs.bl, hs.st0, hs.st1, hs.sp0, hs.sp1, hs.post⟩
    · rw [nd_app (by omega)]
      have hn := (ih.node i h0 hle).1
      exact hn.congr (by omega) ⟨rd_app (by omega) (by omega), rd_app (by omega) (by omega)⟩ fun j hj => by
        have := hn.inn j hj
        exact ⟨rd_app (by omega) (by omega), rd_app (by omega) (by omega)⟩
section
variable {n : Nd} {X : List Int}
theorem chkL_inn : ∀ (l : List Int) (v s : Int), ({ n with inn := X } : Nd).chkL v s l = n.chkL v s l
  | [], v, s => by unfold Nd.chkL; rfl
  | x :: l, v, s => by
    unfold Nd.chkL
    rw [chkL_inn l]
theorem rchk_inn (h : X.length = n.inn.length) (l : List Int) : ({ n with inn := X } : Nd).rchk l = n.rchk l := by
  unfold Nd.rchk
  rw [show ({ n with inn := X } : Nd).chk1 l = n.chk1 l by unfold Nd.chk1; rw [h], chkL_inn]
  rfl
theorem rwide_inn (h : X.length = n.inn.length) (l : List Int) : ({ n with inn := X } : Nd).rwide l = n.rwide l := by
  unfold Nd.rwide
  rw [rchk_inn h]
theorem rate_inn (l : List Int) : ({ n with inn := X } : Nd).rate l = n.rate l := rfl
end
/-- nodes get other numbers -/
theorem GG.ren {wd : Int} {ns : List Nd} {W R : Int → Int} {rk : Int → Nat} (h : GG wd ns W R rk) (ns' : List Nd) (σ τ : Int → Int) (hl : ns'.length = ns.length) (h0 : τ 0 = 0) (hσ : ∀ j : Int, 0 ≤ j → j ≤ ns.length → 0 ≤ σ j ∧ σ j ≤ ns.length ∧ τ (σ j) = j)
    (hτ : ∀ i : Int, 1 ≤ i → i ≤ ns.length → 1 ≤ τ i ∧ τ i ≤ ns.length) (hn : ∀ i : Int, 1 ≤ i → i ≤ ns.length → nd ns' (i - 1) = { nd ns (τ i - 1) with inn := (nd ns (τ i - 1)).inn.map σ }) : GG wd ns' (fun i => W (τ i)) (fun i => R (τ i)) (fun i => rk (τ i)) := by
  refine ⟨by rw [h0]; exact h.W0, by rw [h0]; exact h.R0, by rw [h0]; exact h.k0, fun i i1 i2 => ?_⟩
  rw [hl] at i2 ⊢
  obtain ⟨hm, hk⟩ := h.node (τ i) (hτ i i1 i2).1 (hτ i i1 i2).2
  refine ⟨?_, hk⟩
  rw [hn i i1 i2]
  generalize nd ns (τ i - 1) = n at hm ⊢
  have hj : ∀ j ∈ n.inn, τ (σ j) = j := fun j hj => by have := hm.inn j hj; exact (hσ j (by omega) (by omega)).2.2
  have e1 : (n.inn.map σ).map (fun i => W (τ i)) = n.inn.map W := by rw [List.map_map]; exact List.map_congr_left fun j h => by simp only [Function.comp, hj j h]
  have e2 : (n.inn.map σ).map (fun i => R (τ i)) = n.inn.map R := by rw [List.map_map]; exact List.map_congr_left fun j h => by simp only [Function.comp, hj j h]
  have hX : (n.inn.map σ).length = n.inn.length := by simp
  refine ⟨by simpa using hm.l1, by simpa using hm.l2, ?_, ?_, ?_, ?_, ?_, ?_, hm.wl, hm.bl, hm.st0, hm.st1, hm.sp0, hm.sp1, hm.post⟩
  · intro j' hj'
    simp only [List.mem_map] at hj'
    obtain ⟨j, hjm, rfl⟩ := hj'
    have h1 := hm.inn j hjm
    have h2 := hσ j (by omega) (by omega)
    exact ⟨h2.1, h2.2.1, by rw [h2.2.2]; exact h1.2.2⟩
  · rw [rchk_inn hX, e1]; exact hm.chk
  · rw [rwide_inn hX, e1]; exact hm.wd
  · rw [rate_inn, e2]; exact hm.rt
  · intro j1 h1 j2 h2
    simp only [List.mem_map] at h1 h2
    obtain ⟨j1, h1, rfl⟩ := h1
    obtain ⟨j2, h2, rfl⟩ := h2
    rw [hj j1 h1, hj j2 h2]
    exact hm.same j1 h1 j2 h2
  · intro j1 h1
    simp only [List.mem_map] at h1
    obtain ⟨j1, h1, rfl⟩ := h1
    rw [hj j1 h1]
    exact hm.still j1 h1
theorem nd_rev {ns : List Nd} {f : Nd → Nd} {i : Int} (h1 : 1 ≤ i) (h2 : i ≤ ns.length) : nd (ns.map f).reverse (i - 1) = f (nd ns (ns.length - i)) := by
  have a1 : (i - 1).toNat < ((ns.map f).reverse).length := by simp; omega
  have a2 : ((ns.length : Int) - i).toNat < ns.length := by omega
  unfold nd
  rw [List.getD_eq_getElem?_getD, List.getElem?_eq_getElem a1, List.getD_eq_getElem?_getD, List.getElem?_eq_getElem a2]
  simp only [Option.getD_some, List.getElem_reverse, List.getElem_map, List.length_map]
  congr 2
  omega
theorem GM.gg {wd lo hi out : Int} {ns : List Nd} (h : GM wd lo hi out ns) : ∃ W R rk, GG wd ns W R rk := by
  obtain ⟨ns0, W, R, hM, e⟩ := h.made
  rcases e with rfl | rfl
  · exact ⟨_, _, _, hM.gg⟩
  · have hlen : (ns0.map (turnN ns0.length)).reverse.length = ns0.length := by simp
    refine ⟨_, _, _, hM.gg.ren _ (fun x => if 0 < x then (ns0.length : Int) + 1 - x else x) (fun x => if 0 < x then (ns0.length : Int) + 1 - x else x) hlen rfl (fun j j0 j1 => ?_) (fun i i1 i2 => ?_) (fun i i1 i2 => ?_)⟩
    · by_cases hj : 0 < j
      · simp only [if_pos hj]
        rw [if_pos (by omega)]
        omega
      · simp only [if_neg hj]
        exact ⟨j0, j1, by first | rfl | trivial⟩
    · simp only [if_pos (show 0 < i by omega)]
      omega
    · rw [nd_rev i1 i2]
      simp only [if_pos (show 0 < i by omega)]
      rw [show (ns0.length : Int) + 1 - i - 1 = ns0.length - i by omega]
      rfl
/-! a right graph's order is whole; widths and rates go along it -/
theorem nextO_none {ns : List Nd} {o : List Int} : ∀ (m : Nat) (l : Int), nextO ns o m l = none → ∀ x, l ≤ x → x < l + m → mayO ns o x = false
  | 0, l, _, x, h1, h2 => by omega
  | m + 1, l, h, x, h1, h2 => by
    unfold nextO at h
    split at h
    · cases h
    · rename_i hm
      rcases Int.lt_or_le l x with h3 | h3
      · exact nextO_none m (l + 1) h x (by omega) (by omega)
      · obtain rfl : l = x := by omega
        simpa using hm
section
variable {wd : Int} {ns : List Nd} {W R : Int → Int} {rk : Int → Nat} (h : GG wd ns W R rk)
include h
theorem GG.next {o : List Int} (ho : o.length < ns.length) : ∃ i, nextO ns o ns.length 1 = some i := by
  cases hn : nextO ns o ns.length 1 with
  | some i => exact ⟨i, rfl⟩
  | none =>
    exfalso
    have hf := nextO_none _ _ hn
    have key : ∀ (r : Nat) (i : Int), rk i ≤ r → 1 ≤ i → i ≤ ns.length → i ∈ o := by
      intro r
      induction r with
      | zero =>
        intro i hr i1 i2
        have hm := (h.node i i1 i2).1
        by_cases hi : i ∈ o
        · exact hi
        · have h1 := hf i i1 (by omega)
          rw [mayO_iff.2 ⟨hi, fun j hj => by have := hm.inn j hj; omega⟩] at h1
          cases h1
      | succ r ih =>
        intro i hr i1 i2
        have hm := (h.node i i1 i2).1
        by_cases hi : i ∈ o
        · exact hi
        · have h1 := hf i i1 (by omega)
          rw [mayO_iff.2 ⟨hi, fun j hj => by
            have h2 := hm.inn j hj
            rcases Int.lt_or_le 0 j with h3 | h3
            · exact .inr (ih j (by omega) (by omega) h2.2.1)
            · exact .inl (by omega)⟩] at h1
          cases h1
    have := all_len ns.length o fun x h1 h2 => key _ x (Nat.le_refl _) h1 h2
    omega
theorem GG.ordR_len : ∀ (k : Nat) (o : List Int), o.length + k = ns.length → (ordR ns k o).length = ns.length
  | 0, o, e => by simpa [ordR] using e
  | k + 1, o, e => by
    obtain ⟨i, hi⟩ := h.next (o := o) (by omega)
    unfold ordR
    rw [hi]
    exact GG.ordR_len k (o ++ [i]) (by simp; omega)
theorem GG.order_len : (order ns).length = ns.length := h.ordR_len ns.length [] (by simp)
end
theorem order_top (ns : List Nd) : ∀ (o1 : List Int) (i : Int) (r : List Int), order ns = o1 ++ i :: r → mayO ns o1 i = true ∧ (∀ x : Int, 1 ≤ x → x ≤ ns.length → mayO ns o1 x = true → i ≤ x) ∧ 1 ≤ i ∧ i ≤ ns.length :=
  ordR_inv (fun o => ∀ (o1 : List Int) (i : Int) (r : List Int), o = o1 ++ i :: r → mayO ns o1 i = true ∧ (∀ x : Int, 1 ≤ x → x ≤ ns.length → mayO ns o1 x = true → i ≤ x) ∧ 1 ≤ i ∧ i ≤ ns.length) (fun o x ho h1 h2 h3 h4 o1 i r e => by
    rcases List.eq_nil_or_concat r with rfl | ⟨L, b, rfl⟩
    · have e2 := List.append_inj' e rfl
      obtain ⟨rfl, e3⟩ := e2
      obtain rfl : x = i := by simpa using e3
      exact ⟨h3, h4, h1, h2⟩
    · rw [show o1 ++ i :: (L.concat b) = (o1 ++ i :: L) ++ [b] by simp] at e
      exact ho o1 i L (List.append_inj' e rfl).1) ns.length [] (fun o1 i r e => by simp at e)
theorem gwin_eq {n : Nd} (hk : inB n.k 1 12 = true) (h0 : rWin n.k = false) : n.gwin = false := by
  have hs : n.span = 1 := by
    rw [span_eqW]
    unfold Nd.rSpan
    have h1 : (n.k == 12) = false := by unfold rWin at h0; simp only [Bool.or_eq_false_iff] at h0; exact h0.2
    rw [if_neg (by rw [h1]; decide), if_pos (by rw [h0]; rfl)]
  unfold Nd.gwin
  rw [hs]
  have h2 := inB_iff.1 hk
  unfold rWin at h0
  simp only [Bool.or_eq_false_iff, beq_eq_false_iff_ne] at h0
  simp only [Bool.or_eq_false_iff, decide_eq_false_iff_not, beq_eq_false_iff_ne]
  omega
theorem grate_eq {n : Nd} {l : List Int} (hk : inB n.k 1 12 = true) (hall : ∀ x ∈ l, x = rd l 0) (hst : rd l 0 = 0 → rWin n.k = false ∧ n.k ≠ 5) : n.grate l = (n.rate l, true) := by
  have ha : l.all (· == rd l 0) = true := List.all_eq_true.2 fun x hx => by simpa using hall x hx
  have hb : l.any (· != rd l 0) = false := by
    rw [List.any_eq_false]
    exact fun x hx => by simpa using hall x hx
  have hz : (rd l 0 == 0 && (n.gwin || n.k == 5)) = false := by
    cases e : (rd l 0 == 0) with
    | false => rfl
    | true =>
      have := hst (by simpa using e)
      rw [gwin_eq hk this.1, show (n.k == 5) = false by simpa using this.2]; rfl
  have hz2 : (rd l 0 == 0 && (rWin n.k || n.k == 5)) = false := by
    cases e : (rd l 0 == 0) with
    | false => rfl
    | true =>
      have := hst (by simpa using e)
      rw [this.1, show (n.k == 5) = false by simpa using this.2]; rfl
  unfold Nd.grate Nd.rate
  rw [hb, hz, ha, hz2, stp_eqW]
  simp only [Bool.or_self, Bool.false_eq_true, if_false, Bool.true_eq_false]
  split <;> rfl
theorem rd_set {l : List Int} {i j v : Int} (hi : 0 ≤ i) (hi2 : i < l.length) (hj : 0 ≤ j) : rd (l.set i.toNat v) j = if j = i then v else rd l j := by
  unfold rd
  rw [List.getD_eq_getElem?_getD, List.getD_eq_getElem?_getD, List.getElem?_set]
  by_cases e : j = i
  · subst e
    rw [if_pos rfl, if_pos rfl, if_pos (by omega)]; rfl
  · rw [if_neg (by omega), if_neg e]
theorem rd_map {l : List Int} {f : Int → Int} (h : 0 < l.length) : rd (l.map f) 0 = f (rd l 0) := by
  cases l with
  | nil => simp at h
  | cons x l => rfl
section
variable {wd : Int} {ns : List Nd} {W R : Int → Int} {rk : Int → Nat} (h : GG wd ns W R rk)
include h
theorem GG.lookL : ∀ (r o W1 R1 : List Int), order ns = o ++ r → W1.length = ns.length + 1 → R1.length = ns.length + 1 → (∀ x, x = 0 ∨ x ∈ o → rd W1 x = W x ∧ rd R1 x = R x) →
    ∃ W2 R2, lookL ns r W1 R1 = (0, W2, R2) ∧ W2.length = ns.length + 1 ∧ R2.length = ns.length + 1 ∧ ∀ x, x = 0 ∨ x ∈ o ++ r → rd W2 x = W x ∧ rd R2 x = R x
  | [], o, W1, R1, ho, hW, hR, hx => ⟨W1, R1, rfl, hW, hR, by simpa using hx⟩
  | i :: r, o, W1, R1, ho, hW, hR, hx => by
    obtain ⟨hm, _, i1, i2⟩ := order_top ns o i r ho
    have hN := (h.node i i1 i2).1
    have hin := (mayO_iff.1 hm).2
    rw [lookL_cons]
    generalize nd ns (i - 1) = n at hN hin ⊢
    have e1 : n.inn.map (rd W1) = n.inn.map W := List.map_congr_left fun j hj => (hx j (hin j hj)).1
    have e2 : n.inn.map (rd R1) = n.inn.map R := List.map_congr_left fun j hj => (hx j (hin j hj)).2
    obtain ⟨_, h7, _⟩ := rchk_unpack hN.chk
    have hk : inB n.k 1 12 = true := by
      unfold Nd.r7 at h7
      simp only [Bool.or_eq_false_iff, Bool.not_eq_false'] at h7
      exact h7.1.1
    have h0m : rd n.inn 0 ∈ n.inn := rd_mem (by omega) (by have := hN.l1; omega)
    have hr0 : rd (n.inn.map R) 0 = R (rd n.inn 0) := rd_map hN.l1
    have hg : n.grate (n.inn.map R) = (R i, true) := by
      rw [grate_eq hk (fun x hx => by
        simp only [List.mem_map] at hx
        obtain ⟨j, hj, rfl⟩ := hx
        rw [hr0]; exact hN.same j hj _ h0m) (by rw [hr0]; exact hN.still _ h0m), ← hN.rt]
    have hw : n.wide (n.inn.map W) = W i := by
      have := both_eq n (n.inn.map W)
      unfold Nd.both at this
      simp only [Bool.and_eq_true, beq_iff_eq] at this
      rw [this.2]; exact hN.wd.symm
    rw [e1, e2, chk_eq, hN.chk, hg, hw]
    simp only [bne_self_eq_false, Bool.false_eq_true, if_false, Bool.not_true]
    have := GG.lookL r (o ++ [i]) (W1.set i.toNat (W i)) (R1.set i.toNat (R i)) (by rw [ho]; simp) (by simpa using hW) (by simpa using hR) (fun x hx' => by
      have hx0 : 0 ≤ x := by
        rcases hx' with rfl | hx'
        · omega
        · have := ordR_range (ns := ns) (k := ns.length) (o := []) (by simp) x (show x ∈ order ns by
            rw [ho]
            rcases List.mem_append.1 hx' with hx' | hx'
            · exact List.mem_append_left _ hx'
            · exact List.mem_append_right _ (by simp at hx'; subst hx'; simp))
          omega
      rw [rd_set (by omega) (by omega) hx0, rd_set (by omega) (by omega) hx0]
      by_cases e : x = i
      · subst e; rw [if_pos rfl, if_pos rfl]; exact ⟨rfl, rfl⟩
      · rw [if_neg e, if_neg e]
        refine hx x ?_
        rcases hx' with hx' | hx'
        · exact .inl hx'
        · rcases List.mem_append.1 hx' with hx' | hx'
          · exact .inr hx'
          · simp at hx'; exact absurd hx' e)
    obtain ⟨W2, R2, e3, e4, e5, e6⟩ := this
    exact ⟨W2, R2, e3, e4, e5, by simpa using e6⟩
theorem GG.mem_order (x : Int) (h1 : 1 ≤ x) (h2 : x ≤ ns.length) : x ∈ order ns := by
  by_cases hx : x ∈ order ns
  · exact hx
  · exfalso
    have hl := h.order_len
    have hnd : (x :: order ns).Nodup := List.nodup_cons.2 ⟨hx, order_nodup ns⟩
    have := nodup_len ns.length (x :: order ns) hnd fun y hy => by
      rcases List.mem_cons.1 hy with rfl | hy
      · exact ⟨h1, h2⟩
      · exact ordR_range (ns := ns) (k := ns.length) (o := []) (by simp) y hy
    simp at this
    omega
/-- what graph.look tells of a right graph -/
theorem GG.lookG {lo hi out : Int} (hm : mayG wd lo hi out ns = 0) : ∃ W2 R2, lookG wd lo hi out ns = (0, order ns, W2, R2) ∧ W2.length = ns.length + 1 ∧ R2.length = ns.length + 1 ∧ ∀ x : Int, 0 ≤ x → x ≤ ns.length → rd W2 x = W x ∧ rd R2 x = R x := by
  obtain ⟨W2, R2, e1, e2, e3, e4⟩ := h.lookL (order ns) [] (wd :: List.replicate ns.length 0) (1 :: List.replicate ns.length 0) rfl (by simp) (by simp) (fun x hx => by
    simp only [List.not_mem_nil, or_false] at hx
    subst hx
    exact ⟨h.W0.symm, h.R0.symm⟩)
  refine ⟨W2, R2, ?_, e2, e3, fun x h1 h2 => e4 x ?_⟩
  · unfold Aw.lookG
    rw [if_neg (by rw [hm]; decide), if_neg (by rw [h.order_len]; simp), e1]
    rfl
  · rcases Int.lt_or_le 0 x with h3 | h3
    · exact .inr (by simpa using h.mem_order x h3 h2)
    · exact .inl (by omega)
end
theorem GM.may {wd lo hi out : Int} {ns : List Nd} (h : GM wd lo hi out ns) : mayG wd lo hi out ns = 0 := by
  have hn := h.n0
  unfold mayG
  rw [if_neg (by simp; omega), if_neg, if_pos]
  · exact List.all_eq_true.2 fun n hm => List.all_eq_true.2 fun j hj => inB_iff.2 ((h.inn n hm).1.2 j hj)
  · have := h.wd0; have := h.lo0; have := h.hi0; have := h.out0
    unfold mayQ
    simp only [Bool.or_eq_true, decide_eq_true_eq]
    omega
/-! where numbers stand in a right graph's order -/
structure OP (ns : List Nd) (o : List Int) : Prop where
  len : o.length = ns.length
  inj : ∀ p q : Int, 0 ≤ p → p < o.length → 0 ≤ q → q < o.length → rd o p = rd o q → p = q
  rng : ∀ p : Int, 0 ≤ p → p < o.length → 1 ≤ rd o p ∧ rd o p ≤ ns.length
  all : ∀ i : Int, 1 ≤ i → i ≤ ns.length → ∃ p : Int, 0 ≤ p ∧ p < o.length ∧ rd o p = i
  inn : ∀ p : Int, 0 ≤ p → p < o.length → ∀ j ∈ (nd ns (rd o p - 1)).inn, j = 0 ∨ ∃ q : Int, 0 ≤ q ∧ q < p ∧ rd o q = j
  least : ∀ p i : Int, 0 ≤ p → p < o.length → 1 ≤ i → i ≤ ns.length → (∀ q : Int, 0 ≤ q → q < p → rd o q ≠ i) → (∀ j ∈ (nd ns (i - 1)).inn, j = 0 ∨ ∃ q : Int, 0 ≤ q ∧ q < p ∧ rd o q = j) → rd o p ≤ i
theorem rd_get {l : List Int} {p : Int} (h0 : 0 ≤ p) (h1 : p < l.length) : l[p.toNat]? = some (rd l p) := by
  unfold rd
  rw [List.getD_eq_getElem?_getD, List.getElem?_eq_getElem (by omega)]; rfl
theorem mem_take_rd {l : List Int} {p x : Int} (h0 : 0 ≤ p) (h1 : p ≤ l.length) : x ∈ l.take p.toNat ↔ ∃ q : Int, 0 ≤ q ∧ q < p ∧ rd l q = x := by
  constructor
  · intro h
    obtain ⟨k, hk, e⟩ := List.getElem_of_mem h
    rw [List.length_take] at hk
    refine ⟨k, by omega, by omega, ?_⟩
    rw [List.getElem_take] at e
    unfold rd
    rw [Int.toNat_natCast, List.getD_eq_getElem?_getD, List.getElem?_eq_getElem (by omega), Option.getD_some]
    exact e
  · rintro ⟨q, hq0, hq1, rfl⟩
    have := rd_get hq0 (show q < l.length by omega)
    exact List.mem_of_getElem? (i := q.toNat) (by rw [List.getElem?_take, if_pos (by omega)]; exact this)
theorem split_rd {l : List Int} {p : Int} (h0 : 0 ≤ p) (h1 : p < l.length) : l = l.take p.toNat ++ rd l p :: l.drop (p + 1).toNat := by
  rw [← drop_rd h0 h1, List.take_append_drop]
theorem GG.op {wd : Int} {ns : List Nd} {W R : Int → Int} {rk : Int → Nat} (h : GG wd ns W R rk) : OP ns (order ns) := by
  have hl := h.order_len
  have hnd := order_nodup ns
  have htop : ∀ p : Int, 0 ≤ p → p < (order ns).length → _ := fun p h0 h1 => order_top ns _ _ _ (split_rd h0 h1)
  refine ⟨hl, fun p q p0 p1 q0 q1 e => ?_, fun p p0 p1 => ?_, fun i i1 i2 => ?_, fun p p0 p1 j hj => ?_, fun p i p0 p1 i1 i2 hq hj => ?_⟩
  · have e1 := rd_get p0 p1
    have e2 := rd_get q0 q1
    rw [e] at e1
    have := (List.getElem?_inj (by omega) hnd).1 (e1.trans e2.symm)
    omega
  · have := htop p p0 p1
    omega
  · have := h.mem_order i i1 i2
    rw [← List.take_length (l := order ns)] at this
    have h2 := (mem_take_rd (l := order ns) (p := (order ns).length) (by omega) (by omega)).1 (by simpa using this)
    exact h2
  · have := (mayO_iff.1 (htop p p0 p1).1).2 j hj
    rcases this with h1 | h1
    · exact .inl h1
    · exact .inr ((mem_take_rd p0 (by omega)).1 h1)
  · refine (htop p p0 p1).2.1 i i1 i2 (mayO_iff.2 ⟨fun hm => ?_, fun j hm => ?_⟩)
    · obtain ⟨q, q0, q1, e⟩ := (mem_take_rd p0 (by omega)).1 hm
      exact hq q q0 q1 e
    · rcases hj j hm with h1 | h1
      · exact .inl h1
      · exact .inr ((mem_take_rd p0 (by omega)).2 h1)
/-! what is told of a right graph's nodes -/
structure ToldN (n : Nd) (W R : List Int) (i : Int) : Prop where
  l1 : 1 ≤ n.inn.length
  l2 : n.inn.length ≤ 2
  inn : ∀ j ∈ n.inn, 0 ≤ j ∧ j < W.length ∧ j < R.length
  wd : rd W i = n.wide (n.inn.map (rd W))
  w1 : 1 ≤ rd W i ∧ rd W i ≤ 16
  rt : rd R i = if (n.k == 5) = true then 0 else wrap64 (rd R (rd n.inn 0) * n.stp)
  same : ∀ j ∈ n.inn, rd R j = rd R (rd n.inn 0)
  wl : n.ws.length ≤ 4096
  bl : n.bs.length ≤ 4096
theorem GG.told {wd : Int} {ns : List Nd} {W R : Int → Int} {rk : Int → Nat} (h : GG wd ns W R rk) {W2 R2 : List Int} (hW : W2.length = ns.length + 1) (hR : R2.length = ns.length + 1) (hx : ∀ x : Int, 0 ≤ x → x ≤ ns.length → rd W2 x = W x ∧ rd R2 x = R x) (i : Int) (i1 : 1 ≤ i) (i2 : i ≤ ns.length) : ToldN (nd ns (i - 1)) W2 R2 i := by
  have hN := (h.node i i1 i2).1
  generalize nd ns (i - 1) = n at hN ⊢
  have e1 : n.inn.map (rd W2) = n.inn.map W := List.map_congr_left fun j hj => by have := hN.inn j hj; exact (hx j this.1 this.2.1).1
  have h0m : rd n.inn 0 ∈ n.inn := rd_mem (by omega) (by have := hN.l1; omega)
  have hRj : ∀ j ∈ n.inn, rd R2 j = R j := fun j hj => by have := hN.inn j hj; exact (hx j this.1 this.2.1).2
  have hr0 : rd (n.inn.map R) 0 = R (rd n.inn 0) := rd_map hN.l1
  have hb := both_eq n (n.inn.map W)
  unfold Nd.both at hb
  simp only [Bool.and_eq_true, beq_iff_eq] at hb
  refine ⟨hN.l1, hN.l2, fun j hj => by have := hN.inn j hj; omega, by rw [(hx i (by omega) i2).1, e1, hN.wd, hb.2], by rw [(hx i (by omega) i2).1, hN.wd]; exact rwide_pos hN.chk, ?_, fun j hj => by rw [hRj j hj, hRj _ h0m]; exact hN.same j hj _ h0m, hN.wl, hN.bl⟩
  rw [(hx i (by omega) i2).2, hN.rt, hRj _ h0m, stp_eqW]
  have ha : (n.inn.map R).all (· == rd (n.inn.map R) 0) = true := List.all_eq_true.2 fun x hx => by
    simp only [List.mem_map] at hx
    obtain ⟨j, hj, rfl⟩ := hx
    rw [hr0]; simpa using hN.same j hj _ h0m
  have hz2 : (rd (n.inn.map R) 0 == 0 && (rWin n.k || n.k == 5)) = false := by
    rw [hr0]
    cases e : (R (rd n.inn 0) == 0) with
    | false => rfl
    | true =>
      have := hN.still _ h0m (by simpa using e)
      rw [this.1, show (n.k == 5) = false by simpa using this.2]; rfl
  unfold Nd.rate
  rw [ha, hz2, hr0]
  simp only [Bool.true_eq_false, Bool.false_eq_true, if_false]
/-! numbers that are changed round -/
def turnR (N b : Int) (n : Nd) : Nd := { n with inn := n.inn.map fun x => if 0 < x then (x - 1 + b) % N + 1 else x }
def hsL (b : Int) (ns : List Nd) : List Nd := (List.range ns.length).map fun (k : Nat) => turnR ns.length b (nd ns (((k : Int) - b) % ns.length))
theorem hsL_len (b : Int) (ns : List Nd) : (hsL b ns).length = ns.length := by simp [hsL]
theorem hsL_nd {b : Int} {ns : List Nd} {k : Int} (h0 : 0 ≤ k) (h1 : k < ns.length) : nd (hsL b ns) k = turnR ns.length b (nd ns ((k - b) % ns.length)) := by
  have hk : k.toNat < ns.length := by omega
  unfold hsL
  unfold nd
  rw [List.getD_eq_getElem?_getD, List.getElem?_map, List.getElem?_range hk]
  simp only [Option.map_some, Option.getD_some]
  rw [show ((k.toNat : Nat) : Int) = k by omega]
theorem round_back {N b i : Int} (hN : 0 < N) (h0 : 0 ≤ i) (h1 : i < N) : ((i + b) % N - b) % N = i := by
  rw [Int.emod_sub_emod, show i + b - b = i by omega, Int.emod_eq_of_lt h0 h1]
theorem round_to {N b i : Int} (hN : 0 < N) (h0 : 0 ≤ i) (h1 : i < N) : ((i - b) % N + b) % N = i := by
  rw [Int.emod_add_emod, show i - b + b = i by omega, Int.emod_eq_of_lt h0 h1]
theorem GG.turn {wd : Int} {ns : List Nd} {W R : Int → Int} {rk : Int → Nat} (h : GG wd ns W R rk) (hN : 0 < ns.length) (b : Int) : GG wd (hsL b ns) (fun i => W (if 0 < i then (i - 1 - b) % ns.length + 1 else i)) (fun i => R (if 0 < i then (i - 1 - b) % ns.length + 1 else i)) (fun i => rk (if 0 < i then (i - 1 - b) % ns.length + 1 else i)) := by
  have hN' : (0 : Int) < ns.length := by omega
  refine h.ren _ (fun x => if 0 < x then (x - 1 + b) % ns.length + 1 else x) _ (hsL_len b ns) rfl (fun j j0 j1 => ?_) (fun i i1 i2 => ?_) (fun i i1 i2 => ?_)
  · by_cases hj : 0 < j
    · have h2 := Int.emod_nonneg (j - 1 + b) (show (ns.length : Int) ≠ 0 by omega)
      have h3 := Int.emod_lt_of_pos (j - 1 + b) hN'
      simp only [if_pos hj]
      rw [if_pos (by omega), show (j - 1 + b) % (ns.length : Int) + 1 - 1 - b = (j - 1 + b) % (ns.length : Int) - b by omega, round_back hN' (by omega) (by omega)]
      omega
    · simp only [if_neg hj]
      exact ⟨j0, j1, by first | rfl | trivial⟩
  · have h2 := Int.emod_nonneg (i - 1 - b) (show (ns.length : Int) ≠ 0 by omega)
    have h3 := Int.emod_lt_of_pos (i - 1 - b) hN'
    rw [if_pos (by omega)]
    omega
  · rw [hsL_nd (by omega) (by omega)]
    simp only [if_pos (show 0 < i by omega)]
    rw [show (i - 1 - b) % (ns.length : Int) + 1 - 1 = (i - 1 - b) % (ns.length : Int) by omega]
    rfl
theorem hsL_ds {b : Int} {ns : List Nd} {es : List (List D)} (hl : es.length = ns.length) (hN : 0 < ns.length) (h : ∀ i : Int, 0 ≤ i → i < ns.length → es[((i + b) % ns.length).toNat]? = some (turnR ns.length b (nd ns i)).ds) : es = (hsL b ns).map Nd.ds := by
  apply List.ext_getElem?
  intro k
  rcases Nat.lt_or_ge k ns.length with hk | hk
  · have h2 := Int.emod_nonneg ((k : Int) - b) (show (ns.length : Int) ≠ 0 by omega)
    have h3 := Int.emod_lt_of_pos ((k : Int) - b) (show (0 : Int) < ns.length by omega)
    have h4 := h (((k : Int) - b) % ns.length) h2 h3
    rw [round_to (by omega) (by omega) (by omega), Int.toNat_natCast] at h4
    rw [h4, List.getElem?_map]
    unfold hsL
    rw [List.getElem?_map, List.getElem?_range hk]; rfl
  · rw [List.getElem?_eq_none (by omega), List.getElem?_eq_none (by simp [hsL]; omega)]
theorem rw_setN (es : List (List D)) (h : ∀ e ∈ es, e.length = 15) (i : Nat) (a0 a1 a2 a3 a4 a5 a6 a7 a8 a9 b0 b1 b2 b3 b4 : D) : setE es i 0 [a0, a1, a2, a3, a4, a5, a6, a7, a8, a9, b0, b1, b2, b3, b4] = es.set i [a0, a1, a2, a3, a4, a5, a6, a7, a8, a9, b0, b1, b2, b3, b4] := by
  unfold setE
  apply List.ext_getElem?
  intro j
  rw [List.getElem?_modify, List.getElem?_set]
  by_cases hij : i = j
  · subst hij
    rw [if_pos rfl]
    cases he : es[i]? with
    | none =>
      rw [if_neg (by intro hlt; rw [List.getElem?_eq_getElem hlt] at he; cases he)]; simp
    | some e =>
      have hlt := (List.getElem?_eq_some_iff.1 he).1
      have hm := h e (List.mem_of_getElem? he)
      rw [if_pos hlt]
      show some _ = some _
      simp only [if_true, List.take_zero, List.nil_append]
      rw [List.drop_eq_nil_of_le (by simp; omega), List.append_nil]
  · simp [hij]
theorem mayG_of {wd lo hi out : Int} {ns : List Nd} (h1 : 1 ≤ ns.length ∧ ns.length ≤ 12) (h2 : 1 ≤ wd ∧ wd ≤ 16) (h3 : lo ≤ hi ∧ -32768 ≤ lo ∧ hi ≤ 32767) (h4 : 1 ≤ out ∧ out ≤ ns.length) (h5 : ∀ n ∈ ns, ∀ j ∈ n.inn, 0 ≤ j ∧ j ≤ ns.length) : mayG wd lo hi out ns = 0 := by
  unfold mayG
  rw [if_neg (by simp; omega), if_neg, if_pos]
  · exact List.all_eq_true.2 fun n hm => List.all_eq_true.2 fun j hj => inB_iff.2 (h5 n hm j hj)
  · unfold mayQ
    simp only [Bool.or_eq_true, decide_eq_true_eq]
    omega
end Go.Proofs.YtohhaonjckfkaaaDoor.Aw
namespace Go.Proofs.YtohhaonjckfkaaaDoor.Aw
open Go.RowKit
attribute [local go_sem] initT SQ so pe he ev lk constS stp stc gdS nth pickS pickD loadS cellsAt okAt fieldAddrS fieldS partS indexAddrS indexS extractS binS binD binI isShift unS convS lenS sliceS bndI bndC mmS mm2 mmD builtS fillS okCells cellsS splS solid aliveL alive okS boxS allocS makeS bsliceS elemsOf dcells stF storeS frzA frz frzT frzS frzL frzO frzH appS srcS appVC killS killT killC killH killO k1 k2 S.has S.hasL St.add St.upd dropH lh cond_or cond_and rw_intC rw_intC0 rw_set rw_app rw_apps rw_rep rw_slice wr64 cond_true cond_false true_and and_true List.map_cons List.map_nil List.length_cons List.length_nil List.drop_succ_cons List.drop_zero List.take_succ_cons List.take_zero List.nil_append List.cons_append List.getD_cons_zero List.getD_cons_succ List.headD_cons List.length_map ite_true ite_false if_true if_false Bool.false_eq_true and_self forall_const List.drop_nil List.take_nil List.append_nil Option.map_some Option.map_none List.mapM_cons List.mapM_nil Option.bind_eq_bind Option.bind_some Option.pure_def knows resL resV oneS freshS freshL cv cvL stpL stcL or_true true_or or_false false_or List.all_cons List.all_nil Bool.and_self Bool.or_self Bool.true_and Bool.and_true Bool.or_false Bool.false_or implies_true flatD allm_nil allm_cons List.getElem?_cons_zero List.getElem?_cons_succ Nd.cs Nd.ds ml mln Option.isSome_some Option.isSome_none eq_self Int.toNat_natCast AP ldOk isLd inL subL crt chg chgS chgP idxs aliveW Option.toList_some Option.toList_none Option.toList RetG Nd.win frzA offK keepH aliveK nkH closedH closedO keysK inH St.upd rowO List.contains_cons List.contains_nil Bool.or_self Option.isNone_none Option.isNone_some Bool.not_true Bool.not_false gcs rowN e0N frzC
attribute [local go_sem] sz2 ag2 ok2 kk2 iu2 zc2 zd2 by2 sz3 ag3 ok3 kk3 iu3 zc3 zd3 by3 sz4 ag4 ok4 bo4 zc4 zd4 by4 sz5 ag5 ok5 kk5 iu5 zc5 zd5 by5 sz9 ag9 ok9 st9 zc9 zd9 by9 sz12 ag12 ok12 kk12 iu12 zc12 zd12 by12 sz15 ag15 ok15 zc15 by15 sz16 ag16 ok16 zc16 by16 sz21 ag21 ok21 kk21 iu21 zc21 zd21 by21 sz22 ag22 ok22 sl22 zc22 zd22 by22 sz23 ag23 ok23 zc23 zd23 pl23 by23 fl23_0 fl23_1 fl23_2 sz24 ag24 ok24 zc24 zd24 pl24 by24 fl24_0 fl24_1 fl24_2 sz25 ag25 ok25 zc25 zd25 pl25 by25 fl25_0 fl25_1 sz26 ag26 ok26 zc26 zd26 pl26 by26 fl26_0 fl26_1 sz28 ag28 ok28 zc28 zd28 pl28 by28 fl28_0 fl28_1 fl28_2 fl28_3 fl28_4 fl28_5 fl28_6 fl28_7 fl28_8 fl28_9 fl28_10 fl28_11 fl28_12 fl28_13 fl28_14 sz29 ag29 ok29 zc29 zd29 pl29 by29 fl29_0 fl29_1 fl29_2 fl29_3 fl29_4 fl29_5 fl29_6 fl29_7 fl29_8 fl29_9 fl29_10 fl29_11 fl29_12 fl29_13 fl29_14 sz39 ag39 ok39 kk39 iu39 zc39 zd39 by39 sz43 ag43 ok43 sl43 ar43 zc43 zd43 pl43 by43 sz46 ag46 ok46 sl46 zc46 zd46 by46 sz47 ag47 ok47 zc47 zd47 pl47 by47 fl47_0 fl47_1 fl47_2 fl47_3 fl47_4 sz48 ag48 ok48 zc48 zd48 pl48 by48 fl48_0 fl48_1 fl48_2 fl48_3 fl48_4 sz52 ag52 ok52 zc52 zd52 pl52 by52 fl52_0 fl52_1 fl52_2 sz53 ag53 ok53 zc53 zd53 pl53 by53 fl53_0 fl53_1 fl53_2 sz54 ag54 ok54 sl54 ar54 zc54 zd54 pl54 by54 sz58 ag58 ok58 sl58 zc58 zd58 by58 sz59 ag59 ok59 kk59 iu59 zc59 zd59 by59 sz62 ag62 ok62 sl62 ar62 zc62 zd62 pl62 by62 sz67 ag67 ok67 zc67 by67 sz68 ag68 ok68 zc68 zd68 pl68 by68 fl68_0 fl68_1 sz69 ag69 ok69 zc69 zd69 pl69 by69 fl69_0 fl69_1 sz75 ag75 ok75 zc75 zd75 pl75 by75 fl75_0 fl75_1 fl75_2 sz76 ag76 ok76 zc76 zd76 pl76 by76 fl76_0 fl76_1 fl76_2 sz79 ag79 ok79 zc79 zd79 pl79 by79 fl79_0 fl79_1 fl79_2 fl79_3 sz80 ag80 ok80 zc80 zd80 pl80 by80 fl80_0 fl80_1 fl80_2 fl80_3 sz82 ag82 ok82 zc82 by82 sz84 ag84 ok84 kk84 iu84 zc84 zd84 by84 sz88 ag88 ok88 zc88 zd88 pl88 by88 fl88_0 fl88_1 fl88_2 sz89 ag89 ok89 zc89 zd89 pl89 by89 fl89_0 fl89_1 fl89_2 sz94 ag94 ok94 sl94 ar94 zc94 zd94 pl94 by94 sz98 ag98 ok98 sl98 ar98 zc98 zd98 pl98 by98 sz105 ag105 ok105 sl105 ar105 zc105 zd105 pl105 by105 sz107 ag107 ok107 zc107 zd107 pl107 by107 fl107_0 fl107_1 sz108 ag108 ok108 sl108 ar108 zc108 zd108 pl108 by108 sz109 ag109 ok109 zc109 by109 sz118 ag118 ok118 kk118 iu118 zc118 zd118 by118 sz122 ag122 ok122 zc122 by122
section
def csO (n : Nd) (h : Nat) : List S := [.d (.i .i64 n.k), .own h, .d (.i .i64 n.wid), .d (.i .i64 n.size), .d (.i .i64 n.step), .d (.i .i64 n.gap), .d (.i .i64 n.left), .d (.i .i64 n.right), .d (.row [.i .i64 0] (n.ws.map intC)), .d (.row [.i .i64 0] (n.bs.map intC)), .d (.i .i64 n.mult), .d (.i .i64 n.shift), .d (.i .i64 n.low), .d (.i .i64 n.high), .d (.i .i64 n.post)]
attribute [local go_sem] csO turnR
theorem tmod_pos {a n : Int} (h : 0 ≤ a) : Int.tmod a n = a % n := Int.tmod_eq_emod_of_nonneg h
theorem GraphTurned_c {T : World → Prop} (Tk : KT T) (l : List Int) (turn : Int) : Cg Go.Proofs.Tryd.prog T 13 [] [.d (.row [.i .i64 0] (l.map intC)), .d (.i .i64 turn)] (fun r H => H = [] ∧ r = .d (.b true)) := by
  refine Cg_of [] Tk.m Go.Proofs.Tryd.func13 rfl rfl Go.Proofs.Tryd.ntmps13 (by simp) rfl (rs := [.tmp 4]) rfl fun E hP hn hT hpn => ?_
  (repeat (first | refine Tr.seq ?_ | refine Tr.skip ?_ | refine Tr.label ?_ | refine Tr.block ?_ | refine Tr.scope ?_ | refine gs1 ?_ | refine gs2 ?_ | refine gs3 ?_ | refine Tr.exit ?_ | refine Tr.goto ?_ | refine Tr.ret ?_ | refine n1 ?_ | refine n2 ?_ | refine n3 ?_ | refine n4 ?_ | refine n5 ?_ | refine n6 ?_ | refine n7 ?_ | refine n8 ?_ | refine n9 (by decide) ?_))
  (first | refine r1 fun K hK => ?_ | refine r2 fun K hK => ?_ | refine r3 fun K hK => ?_); simp only [go_sem, hP, hn, Nat.reduceAdd, Nat.reduceMul, Nat.reduceSub, Nat.reduceEqDiff, Nat.reduceLeDiff, Nat.reduceBEq, Nat.reduceBNe, Int.reduceToNat, reduceIte, reduceCtorEq]; (repeat (refine ⟨by first | trivial | omega | (simp; done) | (simp; omega) | (simp +contextual; done) | (clear hK; grind), ?_⟩)); refine hK _ ?_; clear K hK
  (repeat (first | refine Tr.seq ?_ | refine Tr.skip ?_ | refine Tr.label ?_ | refine Tr.block ?_ | refine Tr.scope ?_ | refine gs1 ?_ | refine gs2 ?_ | refine gs3 ?_ | refine Tr.exit ?_ | refine Tr.goto ?_ | refine Tr.ret ?_ | refine n1 ?_ | refine n2 ?_ | refine n3 ?_ | refine n4 ?_ | refine n5 ?_ | refine n6 ?_ | refine n7 ?_ | refine n8 ?_ | refine n9 (by decide) ?_))
  (first | refine r1 fun K hK => ?_ | refine r2 fun K hK => ?_ | refine r3 fun K hK => ?_); simp only [go_sem, hP, hn, Nat.reduceAdd, Nat.reduceMul, Nat.reduceSub, Nat.reduceEqDiff, Nat.reduceLeDiff, Nat.reduceBEq, Nat.reduceBNe, Int.reduceToNat, reduceIte, reduceCtorEq]
  (repeat (refine ⟨by first | trivial | omega | (simp; done) | (simp; omega) | (simp +contextual; done) | (clear hK; grind), ?_⟩))
  refine CallN_cs (Hi := [] ) (by rw [hP, hT]; exact  awake16_c Tk) rfl rfl rfl trivial (by simp only [go_sem, hP, hn, Nat.reduceAdd, Nat.reduceMul, Nat.reduceSub, Nat.reduceEqDiff, Nat.reduceLeDiff, Nat.reduceBEq, Nat.reduceBNe, Int.reduceToNat, reduceIte, reduceCtorEq]; try trivial) (by simp only [go_sem, hP, hn, Nat.reduceAdd, Nat.reduceMul, Nat.reduceSub, Nat.reduceEqDiff, Nat.reduceLeDiff, Nat.reduceBEq, Nat.reduceBNe, Int.reduceToNat, reduceIte, reduceCtorEq]; try rfl) (by simp only [inH, go_sem, hP, hn, Nat.reduceAdd, Nat.reduceMul, Nat.reduceSub, Nat.reduceEqDiff, Nat.reduceLeDiff, Nat.reduceBEq, Nat.reduceBNe, Int.reduceToNat, reduceIte, reduceCtorEq]; try simp) (by rw [hn]; decide) ?_; simp only [go_sem, hP, hn, Nat.reduceAdd, Nat.reduceMul, Nat.reduceSub, Nat.reduceEqDiff, Nat.reduceLeDiff, Nat.reduceBEq, Nat.reduceBNe, Int.reduceToNat, reduceIte, reduceCtorEq]; (repeat (refine ⟨by first | trivial | omega | (simp; done) | (simp; omega) | (simp +contextual; done) | (clear hK; grind), ?_⟩))
  refine hK _ ?_; clear K hK
  (repeat (first | refine Tr.seq ?_ | refine Tr.skip ?_ | refine Tr.label ?_ | refine Tr.block ?_ | refine Tr.scope ?_ | refine gs1 ?_ | refine gs2 ?_ | refine gs3 ?_ | refine Tr.exit ?_ | refine Tr.goto ?_ | refine Tr.ret ?_ | refine n1 ?_ | refine n2 ?_ | refine n3 ?_ | refine n4 ?_ | refine n5 ?_ | refine n6 ?_ | refine n7 ?_ | refine n8 ?_ | refine n9 (by decide) ?_))
  (first | refine r1 fun K hK => ?_ | refine r2 fun K hK => ?_ | refine r3 fun K hK => ?_); simp only [go_sem, hP, hn, Nat.reduceAdd, Nat.reduceMul, Nat.reduceSub, Nat.reduceEqDiff, Nat.reduceLeDiff, Nat.reduceBEq, Nat.reduceBNe, Int.reduceToNat, reduceIte, reduceCtorEq]
  (repeat (refine ⟨by first | trivial | omega | (simp; done) | (simp; omega) | (simp +contextual; done) | (clear hK; grind), ?_⟩))
  refine CallN_cx (Hi := []) (by rw [hP, hT]; exact Made16_c Tk.m l ) rfl rfl rfl trivial (by simp only [go_sem, hP, hn, Nat.reduceAdd, Nat.reduceMul, Nat.reduceSub, Nat.reduceEqDiff, Nat.reduceLeDiff, Nat.reduceBEq, Nat.reduceBNe, Int.reduceToNat, reduceIte, reduceCtorEq]; try trivial) (by simp only [go_sem, hP, hn, Nat.reduceAdd, Nat.reduceMul, Nat.reduceSub, Nat.reduceEqDiff, Nat.reduceLeDiff, Nat.reduceBEq, Nat.reduceBNe, Int.reduceToNat, reduceIte, reduceCtorEq]; try rfl) trivial (by rw [hn]; decide) (fun r Ho hr => ?_); obtain  ⟨wd, lo, hi, out, ns, rfl, rfl, hG⟩ := hr; refine ⟨fun k _ => hpn k rfl, ?_⟩; simp only [cgS, newK, touK, go_sem, hP, hn, Nat.reduceAdd, Nat.reduceMul, Nat.reduceSub, Nat.reduceEqDiff, Nat.reduceLeDiff, Nat.reduceBEq, Nat.reduceBNe, Int.reduceToNat, reduceIte, reduceCtorEq]; (repeat (refine ⟨by first | trivial | omega | (simp; done) | (simp; omega) | (simp +contextual; done) | (clear hK; grind), ?_⟩))
  refine hK _ ?_; clear K hK
  have hn0 := hG.n0
  have hinn := hG.inn
  have hNz : (ns.length : Int) ≠ 0 := by omega
  refine Tr.le (Le.freeze 2000) ?_
  simp only [go_sem, hP, hn, Nat.reduceAdd, Nat.reduceMul, Nat.reduceSub, Nat.reduceEqDiff, Nat.reduceLeDiff, Nat.reduceBEq, Nat.reduceBNe, Int.reduceToNat, reduceIte, reduceCtorEq]
  refine Tr.le (Le.keep [1, 5, 6]) ?_; simp only [List.map_cons, List.map_nil, lk, Nat.reduceEqDiff, reduceIte]
  (repeat (first | refine Tr.seq ?_ | refine Tr.skip ?_ | refine Tr.label ?_ | refine Tr.block ?_ | refine Tr.scope ?_ | refine gs1 ?_ | refine gs2 ?_ | refine gs3 ?_ | refine Tr.exit ?_ | refine Tr.goto ?_ | refine Tr.ret ?_ | refine n1 ?_ | refine n2 ?_ | refine n3 ?_ | refine n4 ?_ | refine n5 ?_ | refine n6 ?_ | refine n7 ?_ | refine n8 ?_ | refine n9 (by decide) ?_))
  (first | refine r1 fun K hK => ?_ | refine r2 fun K hK => ?_ | refine r3 fun K hK => ?_); simp only [go_sem, hP, hn, Nat.reduceAdd, Nat.reduceMul, Nat.reduceSub, Nat.reduceEqDiff, Nat.reduceLeDiff, Nat.reduceBEq, Nat.reduceBNe, Int.reduceToNat, reduceIte, reduceCtorEq]; (repeat (refine ⟨by first | trivial | omega | (simp; done) | (simp; omega) | (simp +contextual; done) | (clear hK; grind), ?_⟩)); refine hK _ ?_; clear K hK
  (repeat (first | refine Tr.seq ?_ | refine Tr.skip ?_ | refine Tr.label ?_ | refine Tr.block ?_ | refine Tr.scope ?_ | refine gs1 ?_ | refine gs2 ?_ | refine gs3 ?_ | refine Tr.exit ?_ | refine Tr.goto ?_ | refine Tr.ret ?_ | refine n1 ?_ | refine n2 ?_ | refine n3 ?_ | refine n4 ?_ | refine n5 ?_ | refine n6 ?_ | refine n7 ?_ | refine n8 ?_ | refine n9 (by decide) ?_))
  (first | refine r1 fun K hK => ?_ | refine r2 fun K hK => ?_ | refine r3 fun K hK => ?_); simp only [go_sem, hP, hn, Nat.reduceAdd, Nat.reduceMul, Nat.reduceSub, Nat.reduceEqDiff, Nat.reduceLeDiff, Nat.reduceBEq, Nat.reduceBNe, Int.reduceToNat, reduceIte, reduceCtorEq]
  (repeat (refine ⟨by first | trivial | omega | (simp; done) | (simp; omega) | (simp +contextual; done) | (clear hK; grind), ?_⟩))
  have hb := next_num turn ns.length (by omega) (by omega)
  generalize (wrap64 (turn.tmod ns.length + ns.length)).tmod ns.length = b at hb ⊢
  refine hK _ ?_; clear K hK
  refine Tr.le (Le.keep [5, 6, 7, 8]) ?_; simp only [List.map_cons, List.map_nil, lk, Nat.reduceEqDiff, reduceIte]
  have hout := hG.out0
  have w1 : wrap64 (out - 1) = out - 1 := w64 (by omega) (by omega)
  have w2 : wrap64 (out - 1 + b) = out - 1 + b := w64 (by omega) (by omega)
  have hmo : 0 ≤ (out - 1 + b) % (ns.length : Int) ∧ (out - 1 + b) % (ns.length : Int) < ns.length := ⟨Int.emod_nonneg _ hNz, Int.emod_lt_of_pos _ (by omega)⟩
  have w3 : wrap64 ((out - 1 + b) % (ns.length : Int) + 1) = (out - 1 + b) % (ns.length : Int) + 1 := w64 (by omega) (by omega)
  (repeat (first | refine Tr.seq ?_ | refine Tr.skip ?_ | refine Tr.label ?_ | refine Tr.block ?_ | refine Tr.scope ?_ | refine gs1 ?_ | refine gs2 ?_ | refine gs3 ?_ | refine Tr.exit ?_ | refine Tr.goto ?_ | refine Tr.ret ?_ | refine n1 ?_ | refine n2 ?_ | refine n3 ?_ | refine n4 ?_ | refine n5 ?_ | refine n6 ?_ | refine n7 ?_ | refine n8 ?_ | refine n9 (by decide) ?_))
  refine Tr.meet (fun s => s = ⟨[(5, .d (.b true)), (6, .ptr 6 0), (7, .d (.i .i64 ns.length)), (8, .d (.i .i64 b)), (9, .ptr 9 0)], [(6, .box 48 (gcs wd lo hi out (.d (rowN ns)))), (9, .box 48 (gcs wd lo hi ((out - 1 + b) % ns.length + 1) (.own 47))), (47, .row 29 e0N (List.replicate ns.length e0N))]⟩) ?_ ?_
  rotate_left
  · (first | refine d1 (.p true 0 (.p true 1 (.p true 2 (.p true 3 (.p true 4 (.p true 5 (.p true 6 (.p true 7 (.p true 8 (.p true 9 (.p true 10 (.p true 11 (.p true 12 (.p true 13 (.p true 14 (.alt 15 (.p false 16 (.alt 17 (.alt 18 .nil .nil) .nil)) (.alt 17 (.alt 15 (.p false 16 (.alt 18 .nil .nil)) .nil) .nil))))))))))))))))) [] (by rw [hP]; kernel_rfl) (by kernel_rfl) (by simp only [go_sem, hP, hn, Nat.reduceAdd, Nat.reduceMul, Nat.reduceSub, Nat.reduceEqDiff, Nat.reduceLeDiff, Nat.reduceBEq, Nat.reduceBNe, Int.reduceToNat, reduceIte, reduceCtorEq]; try simp) (fun _ _ h => h) fun K hK => ?_ | refine d2 (.p true 0 (.p true 1 (.p true 2 (.p true 3 (.p true 4 (.p true 5 (.p true 6 (.p true 7 (.p true 8 (.p true 9 (.p true 10 (.p true 11 (.p true 12 (.p true 13 (.p true 14 (.alt 15 (.p false 16 (.alt 17 (.alt 18 .nil .nil) .nil)) (.alt 17 (.alt 15 (.p false 16 (.alt 18 .nil .nil)) .nil) .nil))))))))))))))))) [] (by rw [hP]; kernel_rfl) (by kernel_rfl) (by simp only [go_sem, hP, hn, Nat.reduceAdd, Nat.reduceMul, Nat.reduceSub, Nat.reduceEqDiff, Nat.reduceLeDiff, Nat.reduceBEq, Nat.reduceBNe, Int.reduceToNat, reduceIte, reduceCtorEq]; try simp) (fun _ _ h => h) fun K hK => ?_ | refine d4 (.p true 0 (.p true 1 (.p true 2 (.p true 3 (.p true 4 (.p true 5 (.p true 6 (.p true 7 (.p true 8 (.p true 9 (.p true 10 (.p true 11 (.p true 12 (.p true 13 (.p true 14 (.alt 15 (.p false 16 (.alt 17 (.alt 18 .nil .nil) .nil)) (.alt 17 (.alt 15 (.p false 16 (.alt 18 .nil .nil)) .nil) .nil))))))))))))))))) [] (by rw [hP]; kernel_rfl) (by kernel_rfl) (by simp only [go_sem, hP, hn, Nat.reduceAdd, Nat.reduceMul, Nat.reduceSub, Nat.reduceEqDiff, Nat.reduceLeDiff, Nat.reduceBEq, Nat.reduceBNe, Int.reduceToNat, reduceIte, reduceCtorEq]; try simp) (fun _ _ h => h) fun K hK => ?_); simp only [go_sem, hP, hn, Nat.reduceAdd, Nat.reduceMul, Nat.reduceSub, Nat.reduceEqDiff, Nat.reduceLeDiff, Nat.reduceBEq, Nat.reduceBNe, Int.reduceToNat, reduceIte, reduceCtorEq]
    simp only [w1, w2, tmod_pos (show 0 ≤ out - 1 + b by omega), w3, Int.toNat_natCast]
    (repeat' (refine And.intro ?_ ?_)); all_goals (first | (first | trivial | omega | (simp; done) | (simp; omega) | (simp +contextual; done) | (clear hK; grind)) | (refine hK _ ?_; (refine ⟨_, ?_, rfl⟩; exact (Le.mv (by simp only [go_sem, hP, hn, Nat.reduceAdd, Nat.reduceMul, Nat.reduceSub, Nat.reduceEqDiff, Nat.reduceLeDiff, Nat.reduceBEq, Nat.reduceBNe, Int.reduceToNat, reduceIte, reduceCtorEq]; first | done | (simp; done) | (simp [intC]; done) | (repeat (first | rfl | constructor))) (by simp only [go_sem, hP, hn, Nat.reduceAdd, Nat.reduceMul, Nat.reduceSub, Nat.reduceEqDiff, Nat.reduceLeDiff, Nat.reduceBEq, Nat.reduceBNe, Int.reduceToNat, reduceIte, reduceCtorEq]; first | done | (simp; done) | (simp [intC]; done) | (repeat (first | rfl | constructor)))))))
  rintro s rfl
  (repeat (first | refine Tr.seq ?_ | refine Tr.skip ?_ | refine Tr.label ?_ | refine Tr.block ?_ | refine Tr.scope ?_ | refine gs1 ?_ | refine gs2 ?_ | refine gs3 ?_ | refine Tr.exit ?_ | refine Tr.goto ?_ | refine Tr.ret ?_ | refine n1 ?_ | refine n2 ?_ | refine n3 ?_ | refine n4 ?_ | refine n5 ?_ | refine n6 ?_ | refine n7 ?_ | refine n8 ?_ | refine n9 (by decide) ?_))
  (first | refine r1 fun K hK => ?_ | refine r2 fun K hK => ?_ | refine r3 fun K hK => ?_); simp only [go_sem, hP, hn, Nat.reduceAdd, Nat.reduceMul, Nat.reduceSub, Nat.reduceEqDiff, Nat.reduceLeDiff, Nat.reduceBEq, Nat.reduceBNe, Int.reduceToNat, reduceIte, reduceCtorEq]; (repeat (refine ⟨by first | trivial | omega | (simp; done) | (simp; omega) | (simp +contextual; done) | (clear hK; grind), ?_⟩)); refine hK _ ?_; clear K hK
  (repeat (first | refine Tr.seq ?_ | refine Tr.skip ?_ | refine Tr.label ?_ | refine Tr.block ?_ | refine Tr.scope ?_ | refine gs1 ?_ | refine gs2 ?_ | refine gs3 ?_ | refine Tr.exit ?_ | refine Tr.goto ?_ | refine Tr.ret ?_ | refine n1 ?_ | refine n2 ?_ | refine n3 ?_ | refine n4 ?_ | refine n5 ?_ | refine n6 ?_ | refine n7 ?_ | refine n8 ?_ | refine n9 (by decide) ?_))
  refine Tr.loop (fun m s => ∃ (i : Int) (es : List (List D)), s = ⟨[(5, .d (.b true)), (6, .ptr 6 0), (7, .d (.i .i64 ns.length)), (8, .d (.i .i64 b)), (9, .ptr 9 0), (10, .d (.i .i64 i))], [(6, .box 48 (gcs wd lo hi out (.d (rowN ns)))), (9, .box 48 (gcs wd lo hi ((out - 1 + b) % ns.length + 1) (.own 47))), (47, .row 29 e0N es)]⟩ ∧ 0 ≤ i ∧ i + m = ns.length ∧ es.length = ns.length ∧ (∀ e ∈ es, e.length = 15) ∧ ∀ i' : Int, 0 ≤ i' → i' < i → es[((i' + b) % ns.length).toNat]? = some (turnR ns.length b (nd ns i')).ds) ns.length ⟨_, (Le.mv (by simp only [go_sem, hP, hn, Nat.reduceAdd, Nat.reduceMul, Nat.reduceSub, Nat.reduceEqDiff, Nat.reduceLeDiff, Nat.reduceBEq, Nat.reduceBNe, Int.reduceToNat, reduceIte, reduceCtorEq]; first | done | (simp; done) | (simp [intC]; done) | (repeat (first | rfl | constructor))) (by simp only [go_sem, hP, hn, Nat.reduceAdd, Nat.reduceMul, Nat.reduceSub, Nat.reduceEqDiff, Nat.reduceLeDiff, Nat.reduceBEq, Nat.reduceBNe, Int.reduceToNat, reduceIte, reduceCtorEq]; first | done | (simp; done) | (simp [intC]; done) | (repeat (first | rfl | constructor)))), 0, List.replicate ns.length e0N, rfl, by omega, by omega, by simp, fun e he => by rw [List.eq_of_mem_replicate he]; rfl, fun i' h0 h1 => by omega⟩ ?_
  rintro m s ⟨i, es, rfl, i0, him, hel, he15, hes⟩
  (repeat (first | ((first | refine r1 fun K hK => ?_ | refine r2 fun K hK => ?_ | refine r3 fun K hK => ?_); simp only [go_sem, hP, hn, Nat.reduceAdd, Nat.reduceMul, Nat.reduceSub, Nat.reduceEqDiff, Nat.reduceLeDiff, Nat.reduceBEq, Nat.reduceBNe, Int.reduceToNat, reduceIte, reduceCtorEq]; (repeat (refine ⟨by first | trivial | omega | (simp; done) | (simp; omega) | (simp +contextual; done) | (clear hK; grind), ?_⟩)); refine hK _ ?_; clear K hK) | refine Tr.seq ?_ | refine Tr.skip ?_ | refine Tr.label ?_ | refine Tr.block ?_ | refine Tr.scope ?_ | refine gs1 ?_ | refine gs2 ?_ | refine gs3 ?_ | refine Tr.exit ?_ | refine Tr.goto ?_ | refine Tr.ret ?_ | refine n1 ?_ | refine n2 ?_ | refine n3 ?_ | refine n4 ?_ | refine n5 ?_ | refine n6 ?_ | refine n7 ?_ | refine n8 ?_ | refine n9 (by decide) ?_))
  refine Tr.cond rfl (fun hc => ?_) (fun hc => ?_)
  · have i1 : i < ns.length := by simpa using hc
    have hnd := rw_nd ns i i0 i1
    have hqi := hinn _ (nd_mem (ns := ns) (i := i) i0 i1)
    have w4 : wrap64 (i + b) = i + b := w64 (by omega) (by omega)
    have hmi : 0 ≤ (i + b) % (ns.length : Int) ∧ (i + b) % (ns.length : Int) < ns.length := ⟨Int.emod_nonneg _ hNz, Int.emod_lt_of_pos _ (by omega)⟩
    (repeat (first | refine Tr.seq ?_ | refine Tr.skip ?_ | refine Tr.label ?_ | refine Tr.block ?_ | refine Tr.scope ?_ | refine gs1 ?_ | refine gs2 ?_ | refine gs3 ?_ | refine Tr.exit ?_ | refine Tr.goto ?_ | refine Tr.ret ?_ | refine n1 ?_ | refine n2 ?_ | refine n3 ?_ | refine n4 ?_ | refine n5 ?_ | refine n6 ?_ | refine n7 ?_ | refine n8 ?_ | refine n9 (by decide) ?_))
    (first | refine r1 fun K hK => ?_ | refine r2 fun K hK => ?_ | refine r3 fun K hK => ?_); simp only [hnd, go_sem, hP, hn, Nat.reduceAdd, Nat.reduceMul, Nat.reduceSub, Nat.reduceEqDiff, Nat.reduceLeDiff, Nat.reduceBEq, Nat.reduceBNe, Int.reduceToNat, reduceIte, reduceCtorEq]; (repeat (refine ⟨by first | trivial | omega | (simp; done) | (simp; omega) | (simp +contextual; done) | (clear hK; grind), ?_⟩)); refine hK _ ?_; clear K hK
    have hfin : ∀ i' : Int, 0 ≤ i' → i' < i + 1 → (es.set ((i + b) % (ns.length : Int)).toNat (turnR ns.length b (nd ns i)).ds)[((i' + b) % ns.length).toNat]? = some (turnR ns.length b (nd ns i')).ds := fun i' h0 h1 => by
      rw [List.getElem?_set]
      rcases Int.lt_or_le i' i with h2 | h2
      · have hm' : 0 ≤ (i' + b) % (ns.length : Int) ∧ (i' + b) % (ns.length : Int) < ns.length := ⟨Int.emod_nonneg _ hNz, Int.emod_lt_of_pos _ (by omega)⟩
        rw [if_neg (fun e => by
          have e2 : (i + b) % (ns.length : Int) = (i' + b) % (ns.length : Int) := by omega
          have h3 := round_back (b := b) (show (0 : Int) < ns.length by omega) i0 i1
          have h4 := round_back (b := b) (show (0 : Int) < ns.length by omega) h0 (show i' < ns.length by omega)
          rw [e2] at h3
          omega)]
        exact hes i' h0 h2
      · obtain rfl : i' = i := by omega
        rw [if_pos rfl, if_pos (by omega)]
    generalize nd ns i = q at hqi hfin ⊢
    (repeat (first | ((first | refine r1 fun K hK => ?_ | refine r2 fun K hK => ?_ | refine r3 fun K hK => ?_); simp only [go_sem, hP, hn, Nat.reduceAdd, Nat.reduceMul, Nat.reduceSub, Nat.reduceEqDiff, Nat.reduceLeDiff, Nat.reduceBEq, Nat.reduceBNe, Int.reduceToNat, reduceIte, reduceCtorEq]; (repeat (refine ⟨by first | trivial | omega | (simp; done) | (simp; omega) | (simp +contextual; done) | (clear hK; grind), ?_⟩)); refine hK _ ?_; clear K hK) | refine Tr.seq ?_ | refine Tr.skip ?_ | refine Tr.label ?_ | refine Tr.block ?_ | refine Tr.scope ?_ | refine gs1 ?_ | refine gs2 ?_ | refine gs3 ?_ | refine Tr.exit ?_ | refine Tr.goto ?_ | refine Tr.ret ?_ | refine n1 ?_ | refine n2 ?_ | refine n3 ?_ | refine n4 ?_ | refine n5 ?_ | refine n6 ?_ | refine n7 ?_ | refine n8 ?_ | refine n9 (by decide) ?_))
    refine Tr.le (Le.keep [5, 6, 7, 8, 9, 10, 11, 12]) ?_; simp only [List.map_cons, List.map_nil, lk, Nat.reduceEqDiff, reduceIte]
    refine Tr.loop (fun m2 s => ∃ (j : Int) (l2 : List Int), s = ⟨[(5, .d (.b true)), (6, .ptr 6 0), (7, .d (.i .i64 ns.length)), (8, .d (.i .i64 b)), (9, .ptr 9 0), (10, .d (.i .i64 i)), (11, .ptr 11 0), (12, .d (.i .i64 j))], [(62, .row 3 [.i .i64 0] (l2.map intC)), (11, .box 29 (csO q 62)), (6, .box 48 (gcs wd lo hi out (.d (rowN ns)))), (9, .box 48 (gcs wd lo hi ((out - 1 + b) % ns.length + 1) (.own 47))), (47, .row 29 e0N es)]⟩ ∧ 0 ≤ j ∧ j + m2 = q.inn.length ∧ l2.length = q.inn.length ∧ l2.take j.toNat = (q.inn.take j.toNat).map (fun x => if 0 < x then (x - 1 + b) % (ns.length : Int) + 1 else x) ∧ l2.drop j.toNat = q.inn.drop j.toNat) q.inn.length ⟨_, (Le.mv (by simp only [go_sem, hP, hn, Nat.reduceAdd, Nat.reduceMul, Nat.reduceSub, Nat.reduceEqDiff, Nat.reduceLeDiff, Nat.reduceBEq, Nat.reduceBNe, Int.reduceToNat, reduceIte, reduceCtorEq]; first | done | (simp; done) | (simp [intC]; done) | (repeat (first | rfl | constructor))) (by simp only [go_sem, hP, hn, Nat.reduceAdd, Nat.reduceMul, Nat.reduceSub, Nat.reduceEqDiff, Nat.reduceLeDiff, Nat.reduceBEq, Nat.reduceBNe, Int.reduceToNat, reduceIte, reduceCtorEq]; first | done | (simp; done) | (simp [intC]; done) | (repeat (first | rfl | constructor)))), 0, q.inn, rfl, by omega, by omega, rfl, by simp, by simp⟩ ?_
    rintro m2 s ⟨j, l2, rfl, j0, hjm, hll, hta, hdo⟩
    (repeat (first | ((first | refine r1 fun K hK => ?_ | refine r2 fun K hK => ?_ | refine r3 fun K hK => ?_); simp only [go_sem, hP, hn, Nat.reduceAdd, Nat.reduceMul, Nat.reduceSub, Nat.reduceEqDiff, Nat.reduceLeDiff, Nat.reduceBEq, Nat.reduceBNe, Int.reduceToNat, reduceIte, reduceCtorEq]; (repeat (refine ⟨by first | trivial | omega | (simp; done) | (simp; omega) | (simp +contextual; done) | (clear hK; grind), ?_⟩)); refine hK _ ?_; clear K hK) | refine Tr.seq ?_ | refine Tr.skip ?_ | refine Tr.label ?_ | refine Tr.block ?_ | refine Tr.scope ?_ | refine gs1 ?_ | refine gs2 ?_ | refine gs3 ?_ | refine Tr.exit ?_ | refine Tr.goto ?_ | refine Tr.ret ?_ | refine n1 ?_ | refine n2 ?_ | refine n3 ?_ | refine n4 ?_ | refine n5 ?_ | refine n6 ?_ | refine n7 ?_ | refine n8 ?_ | refine n9 (by decide) ?_))
    refine Tr.cond rfl (fun hd => ?_) (fun hd => ?_)
    · have hjl : j < l2.length := by simpa using hd
      have hrd : rd l2 j = rd q.inn j := by
        have e1 := drop_rd j0 hjl
        have e2 := drop_rd (l := q.inn) j0 (by omega)
        rw [hdo, e2] at e1
        exact (List.cons.inj e1).1.symm
      have hd1 : l2.drop (j + 1).toNat = q.inn.drop (j + 1).toNat := by
        have e1 := drop_rd j0 hjl
        have e2 := drop_rd (l := q.inn) j0 (by omega)
        rw [hdo, e2] at e1
        exact (List.cons.inj e1).2.symm
      have hbd := hqi.1.2 _ (rd_mem (l := q.inn) j0 (by omega))
      have hql := hqi.1.1
      (repeat (first | ((first | refine r1 fun K hK => ?_ | refine r2 fun K hK => ?_ | refine r3 fun K hK => ?_); simp only [go_sem, hP, hn, Nat.reduceAdd, Nat.reduceMul, Nat.reduceSub, Nat.reduceEqDiff, Nat.reduceLeDiff, Nat.reduceBEq, Nat.reduceBNe, Int.reduceToNat, reduceIte, reduceCtorEq]; (repeat (refine ⟨by first | trivial | omega | (simp; done) | (simp; omega) | (simp +contextual; done) | (clear hK; grind), ?_⟩)); refine hK _ ?_; clear K hK) | refine Tr.seq ?_ | refine Tr.skip ?_ | refine Tr.label ?_ | refine Tr.block ?_ | refine Tr.scope ?_ | refine gs1 ?_ | refine gs2 ?_ | refine gs3 ?_ | refine Tr.exit ?_ | refine Tr.goto ?_ | refine Tr.ret ?_ | refine n1 ?_ | refine n2 ?_ | refine n3 ?_ | refine n4 ?_ | refine n5 ?_ | refine n6 ?_ | refine n7 ?_ | refine n8 ?_ | refine n9 (by decide) ?_))
      refine Tr.cond rfl (fun hg => ?_) (fun hg => ?_)
      · have hg1 : 0 < rd l2 j := by simpa using hg
        have w5 : wrap64 (rd l2 j - 1) = rd l2 j - 1 := w64 (by omega) (by omega)
        have w6 : wrap64 (rd l2 j - 1 + b) = rd l2 j - 1 + b := w64 (by omega) (by omega)
        have hmj : 0 ≤ (rd l2 j - 1 + b) % (ns.length : Int) ∧ (rd l2 j - 1 + b) % (ns.length : Int) < ns.length := ⟨Int.emod_nonneg _ hNz, Int.emod_lt_of_pos _ (by omega)⟩
        have w7 : wrap64 ((rd l2 j - 1 + b) % (ns.length : Int) + 1) = (rd l2 j - 1 + b) % (ns.length : Int) + 1 := w64 (by omega) (by omega)
        (repeat (first | refine Tr.seq ?_ | refine Tr.skip ?_ | refine Tr.label ?_ | refine Tr.block ?_ | refine Tr.scope ?_ | refine gs1 ?_ | refine gs2 ?_ | refine gs3 ?_ | refine Tr.exit ?_ | refine Tr.goto ?_ | refine Tr.ret ?_ | refine n1 ?_ | refine n2 ?_ | refine n3 ?_ | refine n4 ?_ | refine n5 ?_ | refine n6 ?_ | refine n7 ?_ | refine n8 ?_ | refine n9 (by decide) ?_))
        (first | refine d1 (.p true 0 (.p true 1 (.p true 2 (.p true 3 (.p true 4 (.p true 5 (.p true 6 (.p true 9 (.p true 11 (.alt 7 (.p false 8 (.p false 10 (.p false 12 (.p false 13 (.p true 14 (.alt 15 .nil .nil)))))) .nil)))))))))) [62] (by rw [hP]; kernel_rfl) (by kernel_rfl) (by simp only [go_sem, hP, hn, Nat.reduceAdd, Nat.reduceMul, Nat.reduceSub, Nat.reduceEqDiff, Nat.reduceLeDiff, Nat.reduceBEq, Nat.reduceBNe, Int.reduceToNat, reduceIte, reduceCtorEq]; try simp) (fun _ _ h => h) fun K hK => ?_ | refine d2 (.p true 0 (.p true 1 (.p true 2 (.p true 3 (.p true 4 (.p true 5 (.p true 6 (.p true 9 (.p true 11 (.alt 7 (.p false 8 (.p false 10 (.p false 12 (.p false 13 (.p true 14 (.alt 15 .nil .nil)))))) .nil)))))))))) [62] (by rw [hP]; kernel_rfl) (by kernel_rfl) (by simp only [go_sem, hP, hn, Nat.reduceAdd, Nat.reduceMul, Nat.reduceSub, Nat.reduceEqDiff, Nat.reduceLeDiff, Nat.reduceBEq, Nat.reduceBNe, Int.reduceToNat, reduceIte, reduceCtorEq]; try simp) (fun _ _ h => h) fun K hK => ?_ | refine d4 (.p true 0 (.p true 1 (.p true 2 (.p true 3 (.p true 4 (.p true 5 (.p true 6 (.p true 9 (.p true 11 (.alt 7 (.p false 8 (.p false 10 (.p false 12 (.p false 13 (.p true 14 (.alt 15 .nil .nil)))))) .nil)))))))))) [62] (by rw [hP]; kernel_rfl) (by kernel_rfl) (by simp only [go_sem, hP, hn, Nat.reduceAdd, Nat.reduceMul, Nat.reduceSub, Nat.reduceEqDiff, Nat.reduceLeDiff, Nat.reduceBEq, Nat.reduceBNe, Int.reduceToNat, reduceIte, reduceCtorEq]; try simp) (fun _ _ h => h) fun K hK => ?_); simp only [go_sem, hP, hn, Nat.reduceAdd, Nat.reduceMul, Nat.reduceSub, Nat.reduceEqDiff, Nat.reduceLeDiff, Nat.reduceBEq, Nat.reduceBNe, Int.reduceToNat, reduceIte, reduceCtorEq]
        simp only [w5, w6, tmod_pos (show 0 ≤ rd l2 j - 1 + b by omega), w7]
        (repeat (refine ⟨by first | trivial | omega | (simp; done) | (simp; omega) | (simp +contextual; done) | (clear hK; grind), ?_⟩))
        refine hK _ ?_; clear K hK
        (repeat (first | ((first | refine r1 fun K hK => ?_ | refine r2 fun K hK => ?_ | refine r3 fun K hK => ?_); simp only [go_sem, hP, hn, Nat.reduceAdd, Nat.reduceMul, Nat.reduceSub, Nat.reduceEqDiff, Nat.reduceLeDiff, Nat.reduceBEq, Nat.reduceBNe, Int.reduceToNat, reduceIte, reduceCtorEq]; (repeat (refine ⟨by first | trivial | omega | (simp; done) | (simp; omega) | (simp +contextual; done) | (clear hK; grind), ?_⟩)); refine hK _ ?_; clear K hK) | refine Tr.seq ?_ | refine Tr.skip ?_ | refine Tr.label ?_ | refine Tr.block ?_ | refine Tr.scope ?_ | refine gs1 ?_ | refine gs2 ?_ | refine gs3 ?_ | refine Tr.exit ?_ | refine Tr.goto ?_ | refine Tr.ret ?_ | refine n1 ?_ | refine n2 ?_ | refine n3 ?_ | refine n4 ?_ | refine n5 ?_ | refine n6 ?_ | refine n7 ?_ | refine n8 ?_ | refine n9 (by decide) ?_))
        rw [w64 (x := j + 1) (by omega) (by omega)]
        refine ⟨m2 - 1, _, by omega, ?_, j + 1, l2.set j.toNat ((rd l2 j - 1 + b) % (ns.length : Int) + 1), rfl, by omega, by omega, by simpa using hll, ?_, ?_⟩
        · exact (Le.mv (by simp only [go_sem, hP, hn, Nat.reduceAdd, Nat.reduceMul, Nat.reduceSub, Nat.reduceEqDiff, Nat.reduceLeDiff, Nat.reduceBEq, Nat.reduceBNe, Int.reduceToNat, reduceIte, reduceCtorEq]; first | done | (simp; done) | (simp [intC]; done) | (repeat (first | rfl | constructor))) (by simp only [go_sem, hP, hn, Nat.reduceAdd, Nat.reduceMul, Nat.reduceSub, Nat.reduceEqDiff, Nat.reduceLeDiff, Nat.reduceBEq, Nat.reduceBNe, Int.reduceToNat, reduceIte, reduceCtorEq]; first | done | (simp; done) | (simp [intC]; done) | (repeat (first | rfl | constructor))))
        · rw [take_set j0 hjl, take_rd j0 (show j < q.inn.length by omega), hta, List.map_append, List.map_cons, List.map_nil, ← hrd, if_pos hg1]
        · rw [List.drop_set_of_lt (by omega), hd1]
      · have hg1 : ¬ 0 < rd l2 j := by simpa using hg
        (repeat (first | ((first | refine r1 fun K hK => ?_ | refine r2 fun K hK => ?_ | refine r3 fun K hK => ?_); simp only [go_sem, hP, hn, Nat.reduceAdd, Nat.reduceMul, Nat.reduceSub, Nat.reduceEqDiff, Nat.reduceLeDiff, Nat.reduceBEq, Nat.reduceBNe, Int.reduceToNat, reduceIte, reduceCtorEq]; (repeat (refine ⟨by first | trivial | omega | (simp; done) | (simp; omega) | (simp +contextual; done) | (clear hK; grind), ?_⟩)); refine hK _ ?_; clear K hK) | refine Tr.seq ?_ | refine Tr.skip ?_ | refine Tr.label ?_ | refine Tr.block ?_ | refine Tr.scope ?_ | refine gs1 ?_ | refine gs2 ?_ | refine gs3 ?_ | refine Tr.exit ?_ | refine Tr.goto ?_ | refine Tr.ret ?_ | refine n1 ?_ | refine n2 ?_ | refine n3 ?_ | refine n4 ?_ | refine n5 ?_ | refine n6 ?_ | refine n7 ?_ | refine n8 ?_ | refine n9 (by decide) ?_))
        rw [w64 (x := j + 1) (by omega) (by omega)]
        refine ⟨m2 - 1, _, by omega, ?_, j + 1, l2, rfl, by omega, by omega, hll, ?_, hd1⟩
        · exact (Le.mv (by simp only [go_sem, hP, hn, Nat.reduceAdd, Nat.reduceMul, Nat.reduceSub, Nat.reduceEqDiff, Nat.reduceLeDiff, Nat.reduceBEq, Nat.reduceBNe, Int.reduceToNat, reduceIte, reduceCtorEq]; first | done | (simp; done) | (simp [intC]; done) | (repeat (first | rfl | constructor))) (by simp only [go_sem, hP, hn, Nat.reduceAdd, Nat.reduceMul, Nat.reduceSub, Nat.reduceEqDiff, Nat.reduceLeDiff, Nat.reduceBEq, Nat.reduceBNe, Int.reduceToNat, reduceIte, reduceCtorEq]; first | done | (simp; done) | (simp [intC]; done) | (repeat (first | rfl | constructor))))
        · rw [take_rd j0 hjl, take_rd j0 (show j < q.inn.length by omega), hta, List.map_append, List.map_cons, List.map_nil, hrd, if_neg (by omega)]
    · have hj : j = q.inn.length := by have := of_decide_eq_false hd; omega
      obtain rfl : l2 = q.inn.map (fun x => if 0 < x then (x - 1 + b) % (ns.length : Int) + 1 else x) := by
        rw [List.take_of_length_le (by omega), List.take_of_length_le (by omega)] at hta
        exact hta
      refine Tr.le (Le.freeze 62) ?_
      simp only [go_sem, hP, hn, Nat.reduceAdd, Nat.reduceMul, Nat.reduceSub, Nat.reduceEqDiff, Nat.reduceLeDiff, Nat.reduceBEq, Nat.reduceBNe, Int.reduceToNat, reduceIte, reduceCtorEq]
      (repeat (first | refine Tr.seq ?_ | refine Tr.skip ?_ | refine Tr.label ?_ | refine Tr.block ?_ | refine Tr.scope ?_ | refine gs1 ?_ | refine gs2 ?_ | refine gs3 ?_ | refine Tr.exit ?_ | refine Tr.goto ?_ | refine Tr.ret ?_ | refine n1 ?_ | refine n2 ?_ | refine n3 ?_ | refine n4 ?_ | refine n5 ?_ | refine n6 ?_ | refine n7 ?_ | refine n8 ?_ | refine n9 (by decide) ?_))
      (first | refine d1 (.p true 0 (.p true 1 (.p true 2 (.p true 3 (.p true 4 (.p true 5 (.p true 6 (.p true 7 (.p true 8 (.alt 9 .nil .nil)))))))))) [47] (by rw [hP]; kernel_rfl) (by kernel_rfl) (by simp only [go_sem, hP, hn, Nat.reduceAdd, Nat.reduceMul, Nat.reduceSub, Nat.reduceEqDiff, Nat.reduceLeDiff, Nat.reduceBEq, Nat.reduceBNe, Int.reduceToNat, reduceIte, reduceCtorEq]; try simp) (fun _ _ h => h) fun K hK => ?_ | refine d2 (.p true 0 (.p true 1 (.p true 2 (.p true 3 (.p true 4 (.p true 5 (.p true 6 (.p true 7 (.p true 8 (.alt 9 .nil .nil)))))))))) [47] (by rw [hP]; kernel_rfl) (by kernel_rfl) (by simp only [go_sem, hP, hn, Nat.reduceAdd, Nat.reduceMul, Nat.reduceSub, Nat.reduceEqDiff, Nat.reduceLeDiff, Nat.reduceBEq, Nat.reduceBNe, Int.reduceToNat, reduceIte, reduceCtorEq]; try simp) (fun _ _ h => h) fun K hK => ?_ | refine d4 (.p true 0 (.p true 1 (.p true 2 (.p true 3 (.p true 4 (.p true 5 (.p true 6 (.p true 7 (.p true 8 (.alt 9 .nil .nil)))))))))) [47] (by rw [hP]; kernel_rfl) (by kernel_rfl) (by simp only [go_sem, hP, hn, Nat.reduceAdd, Nat.reduceMul, Nat.reduceSub, Nat.reduceEqDiff, Nat.reduceLeDiff, Nat.reduceBEq, Nat.reduceBNe, Int.reduceToNat, reduceIte, reduceCtorEq]; try simp) (fun _ _ h => h) fun K hK => ?_); simp only [go_sem, hP, hn, Nat.reduceAdd, Nat.reduceMul, Nat.reduceSub, Nat.reduceEqDiff, Nat.reduceLeDiff, Nat.reduceBEq, Nat.reduceBNe, Int.reduceToNat, reduceIte, reduceCtorEq]
      simp only [w4, tmod_pos (show 0 ≤ i + b by omega), rw_setN es he15]
      (repeat (refine ⟨by first | trivial | omega | (simp; done) | (simp; omega) | (simp +contextual; done) | (clear hK; grind), ?_⟩))
      refine hK _ ?_; clear K hK
      (repeat (first | ((first | refine r1 fun K hK => ?_ | refine r2 fun K hK => ?_ | refine r3 fun K hK => ?_); simp only [go_sem, hP, hn, Nat.reduceAdd, Nat.reduceMul, Nat.reduceSub, Nat.reduceEqDiff, Nat.reduceLeDiff, Nat.reduceBEq, Nat.reduceBNe, Int.reduceToNat, reduceIte, reduceCtorEq]; (repeat (refine ⟨by first | trivial | omega | (simp; done) | (simp; omega) | (simp +contextual; done) | (clear hK; grind), ?_⟩)); refine hK _ ?_; clear K hK) | refine Tr.seq ?_ | refine Tr.skip ?_ | refine Tr.label ?_ | refine Tr.block ?_ | refine Tr.scope ?_ | refine gs1 ?_ | refine gs2 ?_ | refine gs3 ?_ | refine Tr.exit ?_ | refine Tr.goto ?_ | refine Tr.ret ?_ | refine n1 ?_ | refine n2 ?_ | refine n3 ?_ | refine n4 ?_ | refine n5 ?_ | refine n6 ?_ | refine n7 ?_ | refine n8 ?_ | refine n9 (by decide) ?_))
      rw [w64 (x := i + 1) (by omega) (by omega)]
      refine ⟨m - 1, _, by omega, ?_, i + 1, es.set ((i + b) % (ns.length : Int)).toNat (turnR ns.length b q).ds, rfl, by omega, by omega, by simpa using hel, fun e he => ?_, hfin⟩
      · exact (Le.mv (by simp only [go_sem, hP, hn, Nat.reduceAdd, Nat.reduceMul, Nat.reduceSub, Nat.reduceEqDiff, Nat.reduceLeDiff, Nat.reduceBEq, Nat.reduceBNe, Int.reduceToNat, reduceIte, reduceCtorEq]; first | done | (simp; done) | (simp [intC]; done) | (repeat (first | rfl | constructor))) (by simp only [go_sem, hP, hn, Nat.reduceAdd, Nat.reduceMul, Nat.reduceSub, Nat.reduceEqDiff, Nat.reduceLeDiff, Nat.reduceBEq, Nat.reduceBNe, Int.reduceToNat, reduceIte, reduceCtorEq]; first | done | (simp; done) | (simp [intC]; done) | (repeat (first | rfl | constructor))))
      · rcases List.mem_or_eq_of_mem_set he with h | rfl
        · exact he15 e h
        · rfl
  · (repeat (first | ((first | refine r1 fun K hK => ?_ | refine r2 fun K hK => ?_ | refine r3 fun K hK => ?_); simp only [go_sem, hP, hn, Nat.reduceAdd, Nat.reduceMul, Nat.reduceSub, Nat.reduceEqDiff, Nat.reduceLeDiff, Nat.reduceBEq, Nat.reduceBNe, Int.reduceToNat, reduceIte, reduceCtorEq]; (repeat (refine ⟨by first | trivial | omega | (simp; done) | (simp; omega) | (simp +contextual; done) | (clear hK; grind), ?_⟩)); refine hK _ ?_; clear K hK) | refine Tr.seq ?_ | refine Tr.skip ?_ | refine Tr.label ?_ | refine Tr.block ?_ | refine Tr.scope ?_ | refine gs1 ?_ | refine gs2 ?_ | refine gs3 ?_ | refine Tr.exit ?_ | refine Tr.goto ?_ | refine Tr.ret ?_ | refine n1 ?_ | refine n2 ?_ | refine n3 ?_ | refine n4 ?_ | refine n5 ?_ | refine n6 ?_ | refine n7 ?_ | refine n8 ?_ | refine n9 (by decide) ?_))
    have hi : i = ns.length := by have := of_decide_eq_false hc; omega
    subst hi
    have hee := hsL_ds (b := b) hel (by omega) hes
    subst hee
    have hhl := hsL_len b ns
    have hlen : ns.length ≤ 65536 := by omega
    have hin : ∀ n ∈ ns, n.inn.length ≤ 4096 ∧ n.ws.length ≤ 65536 ∧ n.bs.length ≤ 65536 := fun n hn => by have := hinn n hn; omega
    have hin2 : ∀ n ∈ hsL b ns, (n.inn.length ≤ 4096 ∧ n.ws.length ≤ 65536 ∧ n.bs.length ≤ 65536) ∧ ∀ j ∈ n.inn, 0 ≤ j ∧ j ≤ (hsL b ns).length := fun n hn => by
      unfold hsL at hn
      simp only [List.mem_map, List.mem_range] at hn
      obtain ⟨k, hk, rfl⟩ := hn
      have h1 := hinn _ (nd_mem (ns := ns) (i := ((k : Int) - b) % ns.length) (Int.emod_nonneg _ hNz) (Int.emod_lt_of_pos _ (by omega)))
      refine ⟨⟨by simp only [turnR, List.length_map]; omega, by simp only [turnR]; omega, by simp only [turnR]; omega⟩, fun j hj => ?_⟩
      simp only [turnR, List.mem_map] at hj
      obtain ⟨x, hx, rfl⟩ := hj
      have h2 := h1.1.2 x hx
      have h3 := Int.emod_nonneg (x - 1 + b) hNz
      have h4 := Int.emod_lt_of_pos (x - 1 + b) (show (0 : Int) < ns.length by omega)
      rw [hhl]
      split <;> omega
    obtain ⟨W, R, rk, hGG⟩ := hG.gg
    obtain ⟨W2, R2, hlk, hWl, hRl, hx2⟩ := hGG.lookG hG.may
    have hw0 := hG.wd0
    have hl0 := hG.lo0
    have hh0 := hG.hi0
    obtain ⟨W3, R3, hlk3, hWl3, hRl3, hx3⟩ := (hGG.turn (by omega) b).lookG (lo := lo) (hi := hi) (out := (out - 1 + b) % ns.length + 1) (mayG_of (by omega) (by omega) (by omega) (by omega) fun n hn => (hin2 n hn).2)
    have hsame : ∀ i : Int, 0 ≤ i → i < ns.length → rd W3 ((i + b) % ns.length + 1) = rd W2 (i + 1) ∧ rd R3 ((i + b) % ns.length + 1) = rd R2 (i + 1) := fun i i0 i1 => by
      have h3 := Int.emod_nonneg (i + b) hNz
      have h4 := Int.emod_lt_of_pos (i + b) (show (0 : Int) < ns.length by omega)
      have h5 := hx3 ((i + b) % ns.length + 1) (by omega) (by omega)
      have h6 := hx2 (i + 1) (by omega) (by omega)
      simp only [if_pos (show 0 < (i + b) % (ns.length : Int) + 1 by omega)] at h5
      rw [show (i + b) % (ns.length : Int) + 1 - 1 - b = (i + b) % (ns.length : Int) - b by omega, round_back (by omega) i0 i1] at h5
      exact ⟨h5.1.trans h6.1.symm, h5.2.trans h6.2.symm⟩
    generalize order ns = o2 at hlk
    generalize order (hsL b ns) = o3 at hlk3
    clear hx2 hx3 hes he15 hel
    have hin3 : ∀ n ∈ hsL b ns, n.inn.length ≤ 4096 ∧ n.ws.length ≤ 65536 ∧ n.bs.length ≤ 65536 := fun n hn => (hin2 n hn).1
    rw [hhl] at hWl3 hRl3
    generalize hsL b ns = hs at hlk3 hin3 hhl ⊢
    have hlen3 : hs.length ≤ 65536 := by omega
    generalize (out - 1 + b) % (ns.length : Int) + 1 = ou at hlk3 ⊢
    refine Tr.le (Le.freeze 47) ?_
    simp only [go_sem, hP, hn, Nat.reduceAdd, Nat.reduceMul, Nat.reduceSub, Nat.reduceEqDiff, Nat.reduceLeDiff, Nat.reduceBEq, Nat.reduceBNe, Int.reduceToNat, reduceIte, reduceCtorEq]
    refine Tr.le (Le.keep [5, 6, 7, 8, 9]) ?_; simp only [List.map_cons, List.map_nil, lk, Nat.reduceEqDiff, reduceIte]
    (repeat (first | refine Tr.seq ?_ | refine Tr.skip ?_ | refine Tr.label ?_ | refine Tr.block ?_ | refine Tr.scope ?_ | refine gs1 ?_ | refine gs2 ?_ | refine gs3 ?_ | refine Tr.exit ?_ | refine Tr.goto ?_ | refine Tr.ret ?_ | refine n1 ?_ | refine n2 ?_ | refine n3 ?_ | refine n4 ?_ | refine n5 ?_ | refine n6 ?_ | refine n7 ?_ | refine n8 ?_ | refine n9 (by decide) ?_))
    (first | refine r1 fun K hK => ?_ | refine r2 fun K hK => ?_ | refine r3 fun K hK => ?_); simp only [go_sem, hP, hn, Nat.reduceAdd, Nat.reduceMul, Nat.reduceSub, Nat.reduceEqDiff, Nat.reduceLeDiff, Nat.reduceBEq, Nat.reduceBNe, Int.reduceToNat, reduceIte, reduceCtorEq]
    (repeat (refine ⟨by first | trivial | omega | (simp; done) | (simp; omega) | (simp +contextual; done) | (clear hK; grind), ?_⟩))
    refine CallN_cs (Hi := [] ) (by rw [hP, hT]; exact  Widths_c Tk wd lo hi out ns hlen hin) rfl rfl rfl trivial (by simp only [go_sem, hP, hn, Nat.reduceAdd, Nat.reduceMul, Nat.reduceSub, Nat.reduceEqDiff, Nat.reduceLeDiff, Nat.reduceBEq, Nat.reduceBNe, Int.reduceToNat, reduceIte, reduceCtorEq]; try trivial) (by simp only [go_sem, hP, hn, Nat.reduceAdd, Nat.reduceMul, Nat.reduceSub, Nat.reduceEqDiff, Nat.reduceLeDiff, Nat.reduceBEq, Nat.reduceBNe, Int.reduceToNat, reduceIte, reduceCtorEq]; try rfl) (by simp only [inH, go_sem, hP, hn, Nat.reduceAdd, Nat.reduceMul, Nat.reduceSub, Nat.reduceEqDiff, Nat.reduceLeDiff, Nat.reduceBEq, Nat.reduceBNe, Int.reduceToNat, reduceIte, reduceCtorEq]; try simp) (by rw [hn]; decide) ?_; simp only [go_sem, hP, hn, Nat.reduceAdd, Nat.reduceMul, Nat.reduceSub, Nat.reduceEqDiff, Nat.reduceLeDiff, Nat.reduceBEq, Nat.reduceBNe, Int.reduceToNat, reduceIte, reduceCtorEq]; (repeat (refine ⟨by first | trivial | omega | (simp; done) | (simp; omega) | (simp +contextual; done) | (clear hK; grind), ?_⟩))
    rw [hlk]
    refine hK _ ?_; clear K hK
    (repeat (first | refine Tr.seq ?_ | refine Tr.skip ?_ | refine Tr.label ?_ | refine Tr.block ?_ | refine Tr.scope ?_ | refine gs1 ?_ | refine gs2 ?_ | refine gs3 ?_ | refine Tr.exit ?_ | refine Tr.goto ?_ | refine Tr.ret ?_ | refine n1 ?_ | refine n2 ?_ | refine n3 ?_ | refine n4 ?_ | refine n5 ?_ | refine n6 ?_ | refine n7 ?_ | refine n8 ?_ | refine n9 (by decide) ?_))
    (first | refine r1 fun K hK => ?_ | refine r2 fun K hK => ?_ | refine r3 fun K hK => ?_); simp only [go_sem, hP, hn, Nat.reduceAdd, Nat.reduceMul, Nat.reduceSub, Nat.reduceEqDiff, Nat.reduceLeDiff, Nat.reduceBEq, Nat.reduceBNe, Int.reduceToNat, reduceIte, reduceCtorEq]
    (repeat (refine ⟨by first | trivial | omega | (simp; done) | (simp; omega) | (simp +contextual; done) | (clear hK; grind), ?_⟩))
    refine CallN_cs (Hi := [] ) (by rw [hP, hT]; exact  Widths_c Tk wd lo hi ou hs hlen3 hin3) rfl rfl rfl trivial (by simp only [go_sem, hP, hn, Nat.reduceAdd, Nat.reduceMul, Nat.reduceSub, Nat.reduceEqDiff, Nat.reduceLeDiff, Nat.reduceBEq, Nat.reduceBNe, Int.reduceToNat, reduceIte, reduceCtorEq]; try trivial) (by simp only [go_sem, hP, hn, Nat.reduceAdd, Nat.reduceMul, Nat.reduceSub, Nat.reduceEqDiff, Nat.reduceLeDiff, Nat.reduceBEq, Nat.reduceBNe, Int.reduceToNat, reduceIte, reduceCtorEq]; try rfl) (by simp only [inH, go_sem, hP, hn, Nat.reduceAdd, Nat.reduceMul, Nat.reduceSub, Nat.reduceEqDiff, Nat.reduceLeDiff, Nat.reduceBEq, Nat.reduceBNe, Int.reduceToNat, reduceIte, reduceCtorEq]; try simp) (by rw [hn]; decide) ?_; simp only [go_sem, hP, hn, Nat.reduceAdd, Nat.reduceMul, Nat.reduceSub, Nat.reduceEqDiff, Nat.reduceLeDiff, Nat.reduceBEq, Nat.reduceBNe, Int.reduceToNat, reduceIte, reduceCtorEq]; (repeat (refine ⟨by first | trivial | omega | (simp; done) | (simp; omega) | (simp +contextual; done) | (clear hK; grind), ?_⟩))
    rw [hlk3]
    refine hK _ ?_; clear K hK
    (repeat (first | refine Tr.seq ?_ | refine Tr.skip ?_ | refine Tr.label ?_ | refine Tr.block ?_ | refine Tr.scope ?_ | refine gs1 ?_ | refine gs2 ?_ | refine gs3 ?_ | refine Tr.exit ?_ | refine Tr.goto ?_ | refine Tr.ret ?_ | refine n1 ?_ | refine n2 ?_ | refine n3 ?_ | refine n4 ?_ | refine n5 ?_ | refine n6 ?_ | refine n7 ?_ | refine n8 ?_ | refine n9 (by decide) ?_))
    (first | refine r1 fun K hK => ?_ | refine r2 fun K hK => ?_ | refine r3 fun K hK => ?_); simp only [go_sem, hP, hn, Nat.reduceAdd, Nat.reduceMul, Nat.reduceSub, Nat.reduceEqDiff, Nat.reduceLeDiff, Nat.reduceBEq, Nat.reduceBNe, Int.reduceToNat, reduceIte, reduceCtorEq]
    (repeat (refine ⟨by first | trivial | omega | (simp; done) | (simp; omega) | (simp +contextual; done) | (clear hK; grind), ?_⟩))
    refine CallN_cs (Hi := [] ) (by rw [hP, hT]; exact  Rates_c Tk wd lo hi out ns hlen hin) rfl rfl rfl trivial (by simp only [go_sem, hP, hn, Nat.reduceAdd, Nat.reduceMul, Nat.reduceSub, Nat.reduceEqDiff, Nat.reduceLeDiff, Nat.reduceBEq, Nat.reduceBNe, Int.reduceToNat, reduceIte, reduceCtorEq]; try trivial) (by simp only [go_sem, hP, hn, Nat.reduceAdd, Nat.reduceMul, Nat.reduceSub, Nat.reduceEqDiff, Nat.reduceLeDiff, Nat.reduceBEq, Nat.reduceBNe, Int.reduceToNat, reduceIte, reduceCtorEq]; try rfl) (by simp only [inH, go_sem, hP, hn, Nat.reduceAdd, Nat.reduceMul, Nat.reduceSub, Nat.reduceEqDiff, Nat.reduceLeDiff, Nat.reduceBEq, Nat.reduceBNe, Int.reduceToNat, reduceIte, reduceCtorEq]; try simp) (by rw [hn]; decide) ?_; simp only [go_sem, hP, hn, Nat.reduceAdd, Nat.reduceMul, Nat.reduceSub, Nat.reduceEqDiff, Nat.reduceLeDiff, Nat.reduceBEq, Nat.reduceBNe, Int.reduceToNat, reduceIte, reduceCtorEq]; (repeat (refine ⟨by first | trivial | omega | (simp; done) | (simp; omega) | (simp +contextual; done) | (clear hK; grind), ?_⟩))
    rw [hlk]
    refine hK _ ?_; clear K hK
    (repeat (first | refine Tr.seq ?_ | refine Tr.skip ?_ | refine Tr.label ?_ | refine Tr.block ?_ | refine Tr.scope ?_ | refine gs1 ?_ | refine gs2 ?_ | refine gs3 ?_ | refine Tr.exit ?_ | refine Tr.goto ?_ | refine Tr.ret ?_ | refine n1 ?_ | refine n2 ?_ | refine n3 ?_ | refine n4 ?_ | refine n5 ?_ | refine n6 ?_ | refine n7 ?_ | refine n8 ?_ | refine n9 (by decide) ?_))
    (first | refine r1 fun K hK => ?_ | refine r2 fun K hK => ?_ | refine r3 fun K hK => ?_); simp only [go_sem, hP, hn, Nat.reduceAdd, Nat.reduceMul, Nat.reduceSub, Nat.reduceEqDiff, Nat.reduceLeDiff, Nat.reduceBEq, Nat.reduceBNe, Int.reduceToNat, reduceIte, reduceCtorEq]
    (repeat (refine ⟨by first | trivial | omega | (simp; done) | (simp; omega) | (simp +contextual; done) | (clear hK; grind), ?_⟩))
    refine CallN_cs (Hi := [] ) (by rw [hP, hT]; exact  Rates_c Tk wd lo hi ou hs hlen3 hin3) rfl rfl rfl trivial (by simp only [go_sem, hP, hn, Nat.reduceAdd, Nat.reduceMul, Nat.reduceSub, Nat.reduceEqDiff, Nat.reduceLeDiff, Nat.reduceBEq, Nat.reduceBNe, Int.reduceToNat, reduceIte, reduceCtorEq]; try trivial) (by simp only [go_sem, hP, hn, Nat.reduceAdd, Nat.reduceMul, Nat.reduceSub, Nat.reduceEqDiff, Nat.reduceLeDiff, Nat.reduceBEq, Nat.reduceBNe, Int.reduceToNat, reduceIte, reduceCtorEq]; try rfl) (by simp only [inH, go_sem, hP, hn, Nat.reduceAdd, Nat.reduceMul, Nat.reduceSub, Nat.reduceEqDiff, Nat.reduceLeDiff, Nat.reduceBEq, Nat.reduceBNe, Int.reduceToNat, reduceIte, reduceCtorEq]; try simp) (by rw [hn]; decide) ?_; simp only [go_sem, hP, hn, Nat.reduceAdd, Nat.reduceMul, Nat.reduceSub, Nat.reduceEqDiff, Nat.reduceLeDiff, Nat.reduceBEq, Nat.reduceBNe, Int.reduceToNat, reduceIte, reduceCtorEq]; (repeat (refine ⟨by first | trivial | omega | (simp; done) | (simp; omega) | (simp +contextual; done) | (clear hK; grind), ?_⟩))
    rw [hlk3]
    refine hK _ ?_; clear K hK
    refine Tr.le (Le.keep [5, 6, 7, 8, 9, 13, 14, 15, 16]) ?_; simp only [List.map_cons, List.map_nil, lk, Nat.reduceEqDiff, reduceIte]
    (repeat (first | refine Tr.seq ?_ | refine Tr.skip ?_ | refine Tr.label ?_ | refine Tr.block ?_ | refine Tr.scope ?_ | refine gs1 ?_ | refine gs2 ?_ | refine gs3 ?_ | refine Tr.exit ?_ | refine Tr.goto ?_ | refine Tr.ret ?_ | refine n1 ?_ | refine n2 ?_ | refine n3 ?_ | refine n4 ?_ | refine n5 ?_ | refine n6 ?_ | refine n7 ?_ | refine n8 ?_ | refine n9 (by decide) ?_))
    (first | refine r1 fun K hK => ?_ | refine r2 fun K hK => ?_ | refine r3 fun K hK => ?_); simp only [go_sem, hP, hn, Nat.reduceAdd, Nat.reduceMul, Nat.reduceSub, Nat.reduceEqDiff, Nat.reduceLeDiff, Nat.reduceBEq, Nat.reduceBNe, Int.reduceToNat, reduceIte, reduceCtorEq]
    (repeat (refine ⟨by first | trivial | omega | (simp; done) | (simp; omega) | (simp +contextual; done) | (clear hK; grind), ?_⟩))
    refine CallN_cs (Hi := [] ) (by rw [hP, hT]; exact  Check_c Tk wd lo hi ou hs hlen3 hin3) rfl rfl rfl trivial (by simp only [go_sem, hP, hn, Nat.reduceAdd, Nat.reduceMul, Nat.reduceSub, Nat.reduceEqDiff, Nat.reduceLeDiff, Nat.reduceBEq, Nat.reduceBNe, Int.reduceToNat, reduceIte, reduceCtorEq]; try trivial) (by simp only [go_sem, hP, hn, Nat.reduceAdd, Nat.reduceMul, Nat.reduceSub, Nat.reduceEqDiff, Nat.reduceLeDiff, Nat.reduceBEq, Nat.reduceBNe, Int.reduceToNat, reduceIte, reduceCtorEq]; try rfl) (by simp only [inH, go_sem, hP, hn, Nat.reduceAdd, Nat.reduceMul, Nat.reduceSub, Nat.reduceEqDiff, Nat.reduceLeDiff, Nat.reduceBEq, Nat.reduceBNe, Int.reduceToNat, reduceIte, reduceCtorEq]; try simp) (by rw [hn]; decide) ?_; simp only [go_sem, hP, hn, Nat.reduceAdd, Nat.reduceMul, Nat.reduceSub, Nat.reduceEqDiff, Nat.reduceLeDiff, Nat.reduceBEq, Nat.reduceBNe, Int.reduceToNat, reduceIte, reduceCtorEq]; (repeat (refine ⟨by first | trivial | omega | (simp; done) | (simp; omega) | (simp +contextual; done) | (clear hK; grind), ?_⟩))
    rw [hlk3]
    (repeat (refine ⟨by first | trivial | omega | (simp; done) | (simp; omega) | (simp +contextual; done) | (clear hK; grind), ?_⟩))
    refine hK _ ?_; clear K hK
    refine Tr.cond rfl (fun h1 => ?_) (fun h1 => ?_)
    · exfalso
      rw [w64 (x := (ns.length : Int) + 1) (by omega) (by omega)] at h1
      simp only [Bool.or_eq_true, bne_iff_ne] at h1
      omega
    (repeat (first | ((first | refine r1 fun K hK => ?_ | refine r2 fun K hK => ?_ | refine r3 fun K hK => ?_); simp only [go_sem, hP, hn, Nat.reduceAdd, Nat.reduceMul, Nat.reduceSub, Nat.reduceEqDiff, Nat.reduceLeDiff, Nat.reduceBEq, Nat.reduceBNe, Int.reduceToNat, reduceIte, reduceCtorEq]; (repeat (refine ⟨by first | trivial | omega | (simp; done) | (simp; omega) | (simp +contextual; done) | (clear hK; grind), ?_⟩)); refine hK _ ?_; clear K hK) | refine Tr.seq ?_ | refine Tr.skip ?_ | refine Tr.label ?_ | refine Tr.block ?_ | refine Tr.scope ?_ | refine gs1 ?_ | refine gs2 ?_ | refine gs3 ?_ | refine Tr.exit ?_ | refine Tr.goto ?_ | refine Tr.ret ?_ | refine n1 ?_ | refine n2 ?_ | refine n3 ?_ | refine n4 ?_ | refine n5 ?_ | refine n6 ?_ | refine n7 ?_ | refine n8 ?_ | refine n9 (by decide) ?_))
    refine Tr.le (Le.keep [5, 7, 8, 13, 14, 15, 16, 17]) ?_; simp only [List.map_cons, List.map_nil, lk, Nat.reduceEqDiff, reduceIte]
    refine Tr.loop (fun m s => ∃ (i : Int), s = ⟨[(5, .d (.b true)), (7, .d (.i .i64 ns.length)), (8, .d (.i .i64 b)), (13, .d (.row [.i .i64 0] (W2.map intC))), (14, .d (.row [.i .i64 0] (W3.map intC))), (15, .d (.row [.i .i64 0] (R2.map intC))), (16, .d (.row [.i .i64 0] (R3.map intC))), (17, .d (.i .i64 i))], []⟩ ∧ 0 ≤ i ∧ i + m = ns.length) ns.length ⟨_, (Le.mv (by simp only [go_sem, hP, hn, Nat.reduceAdd, Nat.reduceMul, Nat.reduceSub, Nat.reduceEqDiff, Nat.reduceLeDiff, Nat.reduceBEq, Nat.reduceBNe, Int.reduceToNat, reduceIte, reduceCtorEq]; first | done | (simp; done) | (simp [intC]; done) | (repeat (first | rfl | constructor))) (by simp only [go_sem, hP, hn, Nat.reduceAdd, Nat.reduceMul, Nat.reduceSub, Nat.reduceEqDiff, Nat.reduceLeDiff, Nat.reduceBEq, Nat.reduceBNe, Int.reduceToNat, reduceIte, reduceCtorEq]; first | done | (simp; done) | (simp [intC]; done) | (repeat (first | rfl | constructor)))), 0, rfl, by omega, by omega⟩ ?_
    rintro m s ⟨i, rfl, i0, him⟩
    (repeat (first | ((first | refine r1 fun K hK => ?_ | refine r2 fun K hK => ?_ | refine r3 fun K hK => ?_); simp only [go_sem, hP, hn, Nat.reduceAdd, Nat.reduceMul, Nat.reduceSub, Nat.reduceEqDiff, Nat.reduceLeDiff, Nat.reduceBEq, Nat.reduceBNe, Int.reduceToNat, reduceIte, reduceCtorEq]; (repeat (refine ⟨by first | trivial | omega | (simp; done) | (simp; omega) | (simp +contextual; done) | (clear hK; grind), ?_⟩)); refine hK _ ?_; clear K hK) | refine Tr.seq ?_ | refine Tr.skip ?_ | refine Tr.label ?_ | refine Tr.block ?_ | refine Tr.scope ?_ | refine gs1 ?_ | refine gs2 ?_ | refine gs3 ?_ | refine Tr.exit ?_ | refine Tr.goto ?_ | refine Tr.ret ?_ | refine n1 ?_ | refine n2 ?_ | refine n3 ?_ | refine n4 ?_ | refine n5 ?_ | refine n6 ?_ | refine n7 ?_ | refine n8 ?_ | refine n9 (by decide) ?_))
    refine Tr.cond rfl (fun hd => ?_) (fun hd => ?_)
    · have i1 : i < ns.length := by simpa using hd
      have hmi : 0 ≤ (i + b) % (ns.length : Int) ∧ (i + b) % (ns.length : Int) < ns.length := ⟨Int.emod_nonneg _ hNz, Int.emod_lt_of_pos _ (by omega)⟩
      have hkq : 0 ≤ (i + b) % (ns.length : Int) + 1 ∧ (i + b) % (ns.length : Int) + 1 ≤ ns.length := by omega
      have w4 : wrap64 (i + b) = i + b := w64 (by omega) (by omega)
      have w5 : wrap64 ((i + b) % (ns.length : Int) + 1) = (i + b) % (ns.length : Int) + 1 := w64 (by omega) (by omega)
      have w6 : wrap64 (i + 1) = i + 1 := w64 (by omega) (by omega)
      have hsm := hsame i i0 i1
      (repeat (first | refine Tr.seq ?_ | refine Tr.skip ?_ | refine Tr.label ?_ | refine Tr.block ?_ | refine Tr.scope ?_ | refine gs1 ?_ | refine gs2 ?_ | refine gs3 ?_ | refine Tr.exit ?_ | refine Tr.goto ?_ | refine Tr.ret ?_ | refine n1 ?_ | refine n2 ?_ | refine n3 ?_ | refine n4 ?_ | refine n5 ?_ | refine n6 ?_ | refine n7 ?_ | refine n8 ?_ | refine n9 (by decide) ?_))
      (first | refine r1 fun K hK => ?_ | refine r2 fun K hK => ?_ | refine r3 fun K hK => ?_); simp only [w4, tmod_pos (show 0 ≤ i + b by omega), w5, go_sem, hP, hn, Nat.reduceAdd, Nat.reduceMul, Nat.reduceSub, Nat.reduceEqDiff, Nat.reduceLeDiff, Nat.reduceBEq, Nat.reduceBNe, Int.reduceToNat, reduceIte, reduceCtorEq]; (repeat (refine ⟨by first | trivial | omega | (simp; done) | (simp; omega) | (simp +contextual; done) | (clear hK; grind), ?_⟩)); refine hK _ ?_; clear K hK
      generalize (i + b) % (ns.length : Int) + 1 = kq at hsm hkq ⊢
      (repeat (first | refine Tr.seq ?_ | refine Tr.skip ?_ | refine Tr.label ?_ | refine Tr.block ?_ | refine Tr.scope ?_ | refine gs1 ?_ | refine gs2 ?_ | refine gs3 ?_ | refine Tr.exit ?_ | refine Tr.goto ?_ | refine Tr.ret ?_ | refine n1 ?_ | refine n2 ?_ | refine n3 ?_ | refine n4 ?_ | refine n5 ?_ | refine n6 ?_ | refine n7 ?_ | refine n8 ?_ | refine n9 (by decide) ?_))
      (first | refine d1 (.p true 0 (.p true 1 (.p true 2 (.p true 3 (.p true 4 (.p true 5 (.p true 6 (.p true 7 (.p true 8 (.p true 9 (.p true 10 (.p true 11 (.p true 12 (.p true 13 (.p true 14 (.p true 15 (.p true 16 (.p true 17 (.p true 18 (.p true 19 (.p true 20 (.p true 21 .nil)))))))))))))))))))))) [] (by rw [hP]; kernel_rfl) (by kernel_rfl) (by simp only [go_sem, hP, hn, Nat.reduceAdd, Nat.reduceMul, Nat.reduceSub, Nat.reduceEqDiff, Nat.reduceLeDiff, Nat.reduceBEq, Nat.reduceBNe, Int.reduceToNat, reduceIte, reduceCtorEq]; try simp) (fun _ _ h => h) fun K hK => ?_ | refine d2 (.p true 0 (.p true 1 (.p true 2 (.p true 3 (.p true 4 (.p true 5 (.p true 6 (.p true 7 (.p true 8 (.p true 9 (.p true 10 (.p true 11 (.p true 12 (.p true 13 (.p true 14 (.p true 15 (.p true 16 (.p true 17 (.p true 18 (.p true 19 (.p true 20 (.p true 21 .nil)))))))))))))))))))))) [] (by rw [hP]; kernel_rfl) (by kernel_rfl) (by simp only [go_sem, hP, hn, Nat.reduceAdd, Nat.reduceMul, Nat.reduceSub, Nat.reduceEqDiff, Nat.reduceLeDiff, Nat.reduceBEq, Nat.reduceBNe, Int.reduceToNat, reduceIte, reduceCtorEq]; try simp) (fun _ _ h => h) fun K hK => ?_ | refine d4 (.p true 0 (.p true 1 (.p true 2 (.p true 3 (.p true 4 (.p true 5 (.p true 6 (.p true 7 (.p true 8 (.p true 9 (.p true 10 (.p true 11 (.p true 12 (.p true 13 (.p true 14 (.p true 15 (.p true 16 (.p true 17 (.p true 18 (.p true 19 (.p true 20 (.p true 21 .nil)))))))))))))))))))))) [] (by rw [hP]; kernel_rfl) (by kernel_rfl) (by simp only [go_sem, hP, hn, Nat.reduceAdd, Nat.reduceMul, Nat.reduceSub, Nat.reduceEqDiff, Nat.reduceLeDiff, Nat.reduceBEq, Nat.reduceBNe, Int.reduceToNat, reduceIte, reduceCtorEq]; try simp) (fun _ _ h => h) fun K hK => ?_); simp only [go_sem, hP, hn, Nat.reduceAdd, Nat.reduceMul, Nat.reduceSub, Nat.reduceEqDiff, Nat.reduceLeDiff, Nat.reduceBEq, Nat.reduceBNe, Int.reduceToNat, reduceIte, reduceCtorEq]
      simp only [w6]
      (repeat (refine ⟨by first | trivial | omega | (simp; done) | (simp; omega) | (simp +contextual; done) | (clear hK; grind), ?_⟩))
      refine hK _ ?_; clear K hK
      refine Tr.cond rfl (fun hf => ?_) (fun hf => ?_)
      · exfalso
        rw [hsm.1, hsm.2] at hf
        simp at hf
      (repeat (first | ((first | refine r1 fun K hK => ?_ | refine r2 fun K hK => ?_ | refine r3 fun K hK => ?_); simp only [go_sem, hP, hn, Nat.reduceAdd, Nat.reduceMul, Nat.reduceSub, Nat.reduceEqDiff, Nat.reduceLeDiff, Nat.reduceBEq, Nat.reduceBNe, Int.reduceToNat, reduceIte, reduceCtorEq]; (repeat (refine ⟨by first | trivial | omega | (simp; done) | (simp; omega) | (simp +contextual; done) | (clear hK; grind), ?_⟩)); refine hK _ ?_; clear K hK) | refine Tr.seq ?_ | refine Tr.skip ?_ | refine Tr.label ?_ | refine Tr.block ?_ | refine Tr.scope ?_ | refine gs1 ?_ | refine gs2 ?_ | refine gs3 ?_ | refine Tr.exit ?_ | refine Tr.goto ?_ | refine Tr.ret ?_ | refine n1 ?_ | refine n2 ?_ | refine n3 ?_ | refine n4 ?_ | refine n5 ?_ | refine n6 ?_ | refine n7 ?_ | refine n8 ?_ | refine n9 (by decide) ?_))
      rw [w6]
      refine ⟨m - 1, _, by omega, ?_, i + 1, rfl, by omega, by omega⟩
      exact (Le.mv (by simp only [go_sem, hP, hn, Nat.reduceAdd, Nat.reduceMul, Nat.reduceSub, Nat.reduceEqDiff, Nat.reduceLeDiff, Nat.reduceBEq, Nat.reduceBNe, Int.reduceToNat, reduceIte, reduceCtorEq]; first | done | (simp; done) | (simp [intC]; done) | (repeat (first | rfl | constructor))) (by simp only [go_sem, hP, hn, Nat.reduceAdd, Nat.reduceMul, Nat.reduceSub, Nat.reduceEqDiff, Nat.reduceLeDiff, Nat.reduceBEq, Nat.reduceBNe, Int.reduceToNat, reduceIte, reduceCtorEq]; first | done | (simp; done) | (simp [intC]; done) | (repeat (first | rfl | constructor))))
    · (repeat (first | ((first | refine r1 fun K hK => ?_ | refine r2 fun K hK => ?_ | refine r3 fun K hK => ?_); simp only [go_sem, hP, hn, Nat.reduceAdd, Nat.reduceMul, Nat.reduceSub, Nat.reduceEqDiff, Nat.reduceLeDiff, Nat.reduceBEq, Nat.reduceBNe, Int.reduceToNat, reduceIte, reduceCtorEq]; (repeat (refine ⟨by first | trivial | omega | (simp; done) | (simp; omega) | (simp +contextual; done) | (clear hK; grind), ?_⟩)); refine hK _ ?_; clear K hK) | refine Tr.seq ?_ | refine Tr.skip ?_ | refine Tr.label ?_ | refine Tr.block ?_ | refine Tr.scope ?_ | refine gs1 ?_ | refine gs2 ?_ | refine gs3 ?_ | refine Tr.exit ?_ | refine Tr.goto ?_ | refine Tr.ret ?_ | refine n1 ?_ | refine n2 ?_ | refine n3 ?_ | refine n4 ?_ | refine n5 ?_ | refine n6 ?_ | refine n7 ?_ | refine n8 ?_ | refine n9 (by decide) ?_))
      simp only [RetG, go_sem, Nat.reduceAdd, Nat.reduceMul, Nat.reduceSub, Nat.reduceEqDiff, Nat.reduceLeDiff, Nat.reduceBEq, Nat.reduceBNe, Int.reduceToNat, reduceIte, reduceCtorEq]; (repeat (with_reducible refine And.intro ?_ ?_; (· first | trivial | omega | (simp; done) | (simp; omega) | (simp +contextual; done) | (clear hK; grind))))
end
end Go.Proofs.YtohhaonjckfkaaaDoor.Aw
