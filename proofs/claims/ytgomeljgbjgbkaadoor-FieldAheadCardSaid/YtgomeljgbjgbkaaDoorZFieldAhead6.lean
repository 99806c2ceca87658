/- The abstract walk, and contracts of Go functions: each call returns what the Lean function named tells. Conditions: those that each theorem names, none else. -/
import Derived.Test.YtgomeljgbjgbkaaDoorZFieldAhead5
set_option linter.unusedVariables false
set_option linter.unusedSimpArgs false
set_option linter.unusedSectionVars false
set_option maxRecDepth 100000
set_option maxHeartbeats 4000000
namespace Go.Proofs.YtgomeljgbjgbkaaDoor.Aw
open Go.RowKit
set_option maxRecDepth 100000
/-! a frame is ready just as soon as the last frame is there that it hangs on -/
def p3 : Nat → Int
  | 0 => 1
  | r + 1 => 3 * p3 r
theorem p3_le : ∀ r : Nat, r ≤ 12 → 1 ≤ p3 r ∧ p3 r ≤ 531441 := fun r hr => (by decide +kernel : ∀ r : Fin 13, 1 ≤ p3 r.val ∧ p3 r.val ≤ 531441) ⟨r, by omega⟩
theorem NodeG.rate_v {N : Int} {n : Nd} {W R : Int → Int} {rk : Int → Nat} {i : Int} (h : NodeG N n W R rk i) : R i = (if (n.k == 5) = true then 0 else wrap64 (R (rd n.inn 0) * n.rStp)) ∧ (R (rd n.inn 0) = 0 → rWin n.k = false ∧ n.k ≠ 5) := by
  have h0m : rd n.inn 0 ∈ n.inn := rd_mem (by omega) (by have := h.l1; omega)
  have hr0 : rd (n.inn.map R) 0 = R (rd n.inn 0) := rd_map h.l1
  have hst := h.still _ h0m
  refine ⟨?_, hst⟩
  have ha : (n.inn.map R).all (· == R (rd n.inn 0)) = true := List.all_eq_true.2 fun x hx => by
    obtain ⟨j, hj, rfl⟩ := List.mem_map.1 hx
    simpa using h.same j hj _ h0m
  have hz : (R (rd n.inn 0) == 0 && (rWin n.k || n.k == 5)) = false := by
    cases e : (R (rd n.inn 0) == 0) with
    | false => rfl
    | true =>
      have := hst (by simpa using e)
      rw [this.1, show (n.k == 5) = false by simpa using this.2]; rfl
  rw [h.rt]
  unfold Nd.rate
  rw [hr0, ha, hz]
  simp only [Bool.false_eq_true, if_false, Bool.true_eq_false]
theorem inn12 {N : Int} {n : Nd} {W R : Int → Int} {rk : Int → Nat} {i : Int} (h : NodeG N n W R rk i) : (∃ a, n.inn = [a]) ∨ ∃ a b, n.inn = [a, b] := by
  have h1 := h.l1
  have h2 := h.l2
  match hq : n.inn, h1, h2 with
  | [a], _, _ => exact .inl ⟨a, rfl⟩
  | [a, b], _, _ => exact .inr ⟨a, b, rfl⟩
section
variable {wd : Int} {ns : List Nd} {W R : Int → Int} {rk : Int → Nat} (h : GG wd ns W R rk)
include h
theorem GG.rates : ∀ (r : Nat), r ≤ 12 → ∀ i : Int, 0 ≤ i → i ≤ ns.length → rk i ≤ r → 0 ≤ R i ∧ R i ≤ p3 r
  | r, hr, i, i0, i1, hk => by
    have hp := p3_le r hr
    rcases Int.lt_or_le 0 i with i2 | i2
    · have hn := (h.node i i2 i1).1
      have hw := hn.wf
      obtain ⟨e, _⟩ := hn.rate_v
      have hj := hn.inn _ (rd_mem (l := (nd ns (i - 1)).inn) (j := 0) (by omega) (by have := hn.l1; omega))
      match r, hr, hk, hp with
      | 0, _, hk, _ => omega
      | r + 1, hr, hk, hp =>
        have ih := GG.rates r (by omega) _ hj.1 hj.2.1 (by omega)
        have hp2 := p3_le r (by omega)
        have hs := hw.st
        rw [e]
        split
        · omega
        · have m := mul_le (R (rd (nd ns (i - 1)).inn 0)) (p3 r) (nd ns (i - 1)).rStp 3 ih.1 ih.2 (by omega) hs.2
          rw [w64 (by omega) (by omega)]
          simp only [p3]
          omega
    · obtain rfl : i = 0 := by omega
      rw [h.R0]; omega
end
theorem fewest1 {a : Int} (h : 0 ≤ a) : fewestV [a] = a := by
  unfold fewestV
  simp only [List.foldl_cons, List.foldl_nil, mn, mx]
  split <;> (try split) <;> omega
theorem fewest2 {a b : Int} (h : 0 ≤ a) (h2 : 0 ≤ b) : fewestV [a, b] = mn a b := by
  unfold fewestV
  simp only [List.foldl_cons, List.foldl_nil, mn, mx]
  repeat' split
  all_goals omega
theorem most1 (a : Int) : mostL [a] = a := by
  unfold mostL
  simp [mx, rd]
theorem most2 (a b : Int) : mostL [a, b] = mx a b := by
  unfold mostL
  simp [mx, rd]
def wantV (N r hi : Int) : Int := if 0 < r ∧ hi ≤ N - 1 then (N - 1 - hi) / r + 1 else 0
theorem want_nn {N r hi : Int} : 0 ≤ wantV N r hi := by
  unfold wantV
  split
  · have := Int.ediv_nonneg (a := N - 1 - hi) (b := r) (by omega) (by omega)
    omega
  · omega
theorem want_mono {N r a b : Int} (h : a ≤ b) : wantV N r b ≤ wantV N r a := by
  unfold wantV
  split
  · rw [if_pos (by omega)]
    have := Int.ediv_le_ediv (a := N - 1 - b) (b := N - 1 - a) (c := r) (by omega) (by omega)
    omega
  · exact want_nn
theorem want_two {N r a b : Int} : mn (wantV N r a) (wantV N r b) = wantV N r (mx a b) := by
  unfold mn mx
  by_cases h : b > a
  · rw [if_pos h]
    have := want_mono (N := N) (r := r) (show a ≤ b by omega)
    split <;> omega
  · rw [if_neg h]
    have := want_mono (N := N) (r := r) (show b ≤ a by omega)
    rw [if_neg (by omega)]
theorem ready_want {n : Nd} (h : WF n) {l : List Int} {N r H : Int} (k5 : n.k ≠ 5) (hN : 0 ≤ N ∧ N ≤ 1099511627776) (hr : 1 ≤ r ∧ r ≤ 531441) (hH : 0 ≤ H) (ht : fewestV l = wantV N r H) : n.rReady l = wantV N (r * n.rStp) (H + r * (n.rSpan - 1 - n.rLeft)) := by
  have hk : (n.k == 5) = false := by simpa using k5
  have hst := h.st
  have hlf := h.lf
  have hsp := h.sp
  have hl0 : 0 ≤ r * (n.rSpan - 1 - n.rLeft) := Int.mul_nonneg (by omega) (by omega)
  have hrs : 0 < r * n.rStp := Int.mul_pos (by omega) (by omega)
  unfold Nd.rReady
  rw [ht, hk]
  by_cases hM : H ≤ N - 1
  · have q0 := Int.ediv_nonneg (a := N - 1 - H) (b := r) (by omega) (by omega)
    have q1 := Int.ediv_le_self (a := N - 1 - H) r (by omega)
    have e0 : wantV N r H = (N - 1 - H) / r + 1 := by unfold wantV; rw [if_pos ⟨by omega, hM⟩]
    rw [e0]
    cases hw : rWin n.k with
    | false =>
      obtain ⟨a1, a2, a3, _⟩ := h.one hw
      rw [a1, a2, a3, show (1 : Int) - 1 - 0 = 0 by decide, Int.mul_zero, Int.add_zero, Int.mul_one, e0]
      rfl
    | true =>
      have hd : decide (0 < (N - 1 - H) / r + 1) = true := decide_eq_true (by omega)
      rw [hd, Bool.and_self, if_pos rfl, h.ends (by omega) (by omega)]
      unfold wantV
      have hiff := Int.ediv_lt_iff_lt_mul (a := N - 1 - H) (b := n.rSpan - 1 - n.rLeft) (c := r) (by omega)
      rw [Int.mul_comm] at hiff
      by_cases hc : (N - 1 - H) / r < n.rSpan - 1 - n.rLeft
      · have := hiff.1 hc
        rw [if_pos (by omega), if_neg (by omega)]
      · have : ¬ (N - 1 - H < r * (n.rSpan - 1 - n.rLeft)) := fun e => hc (hiff.2 e)
        rw [if_neg (by omega), if_pos ⟨hrs, by omega⟩]
        have e1 : N - 1 - (H + r * (n.rSpan - 1 - n.rLeft)) = (N - 1 - H) + r * (-(n.rSpan - 1 - n.rLeft)) := by rw [Int.mul_neg]; omega
        rw [e1, ← Int.ediv_ediv_of_nonneg (by omega), Int.add_mul_ediv_left _ _ (by omega)]
        congr 2
        omega
  · have e0 : wantV N r H = 0 := by unfold wantV; rw [if_neg (by omega)]
    rw [e0]
    unfold wantV
    rw [if_neg (by simp), if_neg (by decide), if_neg (by omega)]
section
variable {wd : Int} {ns : List Nd} {W R : Int → Int} {rk : Int → Nat} (h : GG wd ns W R rk) {R2 : List Int} (hR : ∀ x : Int, 0 ≤ x → x ≤ ns.length → rd R2 x = R x) {N : Int} (hN : 0 ≤ N ∧ N ≤ 1099511627776)
include h hR
theorem GG.hi_eq : rd (hiL ns R2) 0 = 0 ∧ ∀ i : Int, 1 ≤ i → i ≤ ns.length → rd (hiL ns R2) i = hiF ns R2 (rd (hiL ns R2)) 0 i := by
  obtain ⟨a, b⟩ := h.ordL (d := (0 : Int)) (f := hiF ns R2) hiF_loc (List.replicate (ns.length + 1) 0) (by simp)
  have e : ∀ x : Int, ga (0 : Int) (List.replicate (ns.length + 1) 0) x = 0 := fun x => by
    unfold ga
    rw [List.getD_eq_getElem?_getD, List.getElem?_replicate]
    split <;> rfl
  refine ⟨?_, fun i i1 i2 => ?_⟩
  · rw [e] at a; exact a
  · have := b i i1 i2
    rw [e] at this
    exact this
omit hR in
theorem GG.cnt_eq (g : Nd → List Int → Int) : rd (cntL ns g N) 0 = N ∧ ∀ i : Int, 1 ≤ i → i ≤ ns.length → rd (cntL ns g N) i = g (nd ns (i - 1)) ((nd ns (i - 1)).inn.map (rd (cntL ns g N))) := by
  obtain ⟨a, b⟩ := h.ordL (d := (0 : Int)) (f := cntF ns g) cntF_loc (N :: List.replicate ns.length 0) (by simp)
  exact ⟨a, fun i i1 i2 => b i i1 i2⟩
include hN
/-- what is ready goes by a node's rate and its reach -/
theorem GG.ready : ∀ (r : Nat), r ≤ 12 → ∀ i : Int, 0 ≤ i → i ≤ ns.length → rk i ≤ r → (R i = 0 → rd (cntL ns Nd.rReady N) i = 0) ∧ (0 < R i → (0 ≤ rd (hiL ns R2) i ∧ rd (hiL ns R2) i ≤ r * 10000000) ∧ rd (cntL ns Nd.rReady N) i = wantV N (R i) (rd (hiL ns R2) i))
  | r, hr, i, i0, i1, hk => by
    obtain ⟨u0, u⟩ := h.hi_eq hR
    obtain ⟨c0, c⟩ := h.cnt_eq (N := N) Nd.rReady
    rcases Int.lt_or_le 0 i with i2 | i2
    · have hn := (h.node i i2 i1).1
      have hw := hn.wf
      obtain ⟨e, hst⟩ := hn.rate_v
      have hu := u i i2 i1
      have hc := c i i2 i1
      have hRi := hR i i0 i1
      have hin := hn.inn
      match r, hr, hk with
      | 0, _, hk =>
        have := hin _ (rd_mem (l := (nd ns (i - 1)).inn) (j := 0) (by omega) (by have := hn.l1; omega))
        omega
      | r + 1, hr, hk =>
        have ih : ∀ j ∈ (nd ns (i - 1)).inn, (R j = 0 → rd (cntL ns Nd.rReady N) j = 0) ∧ (0 < R j → (0 ≤ rd (hiL ns R2) j ∧ rd (hiL ns R2) j ≤ r * 10000000) ∧ rd (cntL ns Nd.rReady N) j = wantV N (R j) (rd (hiL ns R2) j)) := fun j hj => by
          have := hin j hj
          exact GG.ready r (by omega) j this.1 this.2.1 (by omega)
        have hRj : ∀ j ∈ (nd ns (i - 1)).inn, 0 ≤ R j ∧ R j ≤ 531441 := fun j hj => by
          have := hin j hj
          have h1 := h.rates r (by omega) j this.1 this.2.1 (by omega)
          have h2 := p3_le r (by omega)
          omega
        have hj0 := rd_mem (l := (nd ns (i - 1)).inn) (j := 0) (by omega) (by have := hn.l1; omega)
        have hsame := fun j hj => hn.same j hj _ hj0
        have h12 := inn12 hn
        rw [hc]
        clear hc c u u0 c0 hin
        unfold hiF at hu
        rw [hRi] at hu
        generalize nd ns (i - 1) = n at *
        generalize hr0 : R (rd n.inn 0) = ra at *
        have hra := hRj _ hj0
        rw [hr0] at hra
        have hjr := h.node
        clear hjr
        have hR0 : rd R2 (rd n.inn 0) = ra := by
          have := hn.inn _ hj0
          rw [hR _ this.1 this.2.1, hr0]
        rw [hR0] at hu
        have hone : rWin n.k = false → n.rReady (n.inn.map (rd (cntL ns Nd.rReady N))) = if (n.k == 5) = true then 0 else fewestV (n.inn.map (rd (cntL ns Nd.rReady N))) := fun e => by unfold Nd.rReady; rw [e]; rfl
        rcases Int.lt_or_le 0 ra with hp | hp
        · -- frames come
          by_cases k5 : n.k = 5
          · rw [k5] at e
            have e : R i = 0 := e
            refine ⟨fun _ => ?_, fun e2 => by omega⟩
            rw [hone (by rw [k5]; rfl), k5]; rfl
          · rw [if_neg (by simpa using k5)] at e
            have m := mul_le ra 531441 n.rStp 3 hra.1 hra.2 (by have := hw.st; omega) hw.st.2
            have mp : 0 < ra * n.rStp := Int.mul_pos hp (by have := hw.st; omega)
            rw [w64 (x := ra * n.rStp) (by omega) (by omega)] at e
            refine ⟨fun e2 => by omega, fun _ => ?_⟩
            rw [if_neg (by simp; omega)] at hu
            have hH : fewestV (n.inn.map (rd (cntL ns Nd.rReady N))) = wantV N ra (mostL (n.inn.map (rd (hiL ns R2)))) ∧ 0 ≤ mostL (n.inn.map (rd (hiL ns R2))) ∧ mostL (n.inn.map (rd (hiL ns R2))) ≤ r * 10000000 := by
              rcases h12 with ⟨a, ea⟩ | ⟨a, b, ea⟩
              · rw [ea] at ih hsame hr0 ⊢
                have sa := hsame a (by simp)
                have ra0 : R a = ra := hr0
                obtain ⟨x1, x2⟩ := (ih a (by simp)).2 (by omega)
                simp only [List.map_cons, List.map_nil]
                rw [x2, ra0, fewest1 want_nn, most1]
                exact ⟨rfl, x1⟩
              · rw [ea] at ih hsame hr0 ⊢
                have ra0 : R a = ra := hr0
                have sb : R b = ra := hsame b (by simp)
                obtain ⟨x1, x2⟩ := (ih a (by simp)).2 (by omega)
                obtain ⟨y1, y2⟩ := (ih b (by simp)).2 (by omega)
                simp only [List.map_cons, List.map_nil]
                rw [x2, y2, sb, ra0, fewest2 want_nn want_nn, most2, want_two]
                refine ⟨rfl, ?_⟩
                unfold mx
                split <;> omega
            generalize mostL (n.inn.map (rd (hiL ns R2))) = H at *
            obtain ⟨t1, t2, t3⟩ := hH
            have hl := hw.lf
            have hsp := hw.sp
            have m2 := mul_le ra 531441 (n.rSpan - 1 - n.rLeft) 9 hra.1 hra.2 (by omega) (by omega)
            rw [w64 (x := n.rSpan - 1) (by omega) (by omega), w64 (x := n.rSpan - 1 - n.rLeft) (by omega) (by omega), w64 (x := ra * _) (by omega) (by omega), w64 (by omega) (by omega)] at hu
            rw [ready_want hw k5 hN ⟨by omega, hra.2⟩ t2 t1, e, hu]
            exact ⟨⟨by omega, by simp only [Int.natCast_add]; omega⟩, rfl⟩
        · -- none come
          have hz : ra = 0 := by omega
          obtain ⟨w0, k5⟩ := hst hz
          rw [if_neg (by simpa using k5), hz, Int.zero_mul] at e
          have e : R i = 0 := e.trans (w64 (x := 0) (by decide) (by decide))
          refine ⟨fun _ => ?_, fun e2 => by omega⟩
          rw [hone w0, if_neg (by simpa using k5)]
          rcases h12 with ⟨a, ea⟩ | ⟨a, b, ea⟩
          · rw [ea] at ih hsame hr0 ⊢
            have ra0 : R a = ra := hr0
            have x := (ih a (by simp)).1 (by omega)
            simp only [List.map_cons, List.map_nil]
            rw [x]; rfl
          · rw [ea] at ih hsame hr0 ⊢
            have ra0 : R a = ra := hr0
            have sb : R b = ra := hsame b (by simp)
            have x := (ih a (by simp)).1 (by omega)
            have y := (ih b (by simp)).1 (by omega)
            simp only [List.map_cons, List.map_nil]
            rw [x, y]; rfl
    · obtain rfl : i = 0 := by omega
      rw [h.R0, c0, u0]
      refine ⟨fun e => by omega, fun _ => ⟨⟨by omega, by omega⟩, ?_⟩⟩
      unfold wantV
      split
      · rw [Int.ediv_one]; omega
      · omega
end
end Go.Proofs.YtgomeljgbjgbkaaDoor.Aw
namespace Go.Proofs.YtgomeljgbjgbkaaDoor.Aw
open Go.RowKit
attribute [local go_sem_proc] Nat.reduceAdd Nat.reduceMul Nat.reduceSub Nat.reduceEqDiff Nat.reduceLeDiff Nat.reduceBEq Nat.reduceBNe Int.reduceToNat reduceIte reduceCtorEq
attribute [local go_sem] initT SQ so pe he ev lk constS stp stc gdS nth pickS pickD loadS cellsAt okAt fieldAddrS fieldS partS indexAddrS indexS extractS binS binD binI isShift unS convS lenS sliceS bndI bndC mmS mm2 mmD builtS fillS okCells cellsS splS solid aliveL alive okS boxS allocS makeS bsliceS elemsOf dcells stF storeS frzA frz frzT frzS frzL frzO frzH appS srcS appVC killS killT killC killH killO k1 k2 S.has S.hasL St.add St.upd dropH lh cond_or cond_and rw_intC rw_intC0 rw_set rw_app rw_apps rw_rep rw_slice wr64 cond_true cond_false true_and and_true List.map_cons List.map_nil List.length_cons List.length_nil List.drop_succ_cons List.drop_zero List.take_succ_cons List.take_zero List.nil_append List.cons_append List.getD_cons_zero List.getD_cons_succ List.headD_cons List.length_map ite_true ite_false if_true if_false Bool.false_eq_true and_self forall_const List.drop_nil List.take_nil List.append_nil Option.map_some Option.map_none List.mapM_cons List.mapM_nil Option.bind_eq_bind Option.bind_some Option.pure_def knows resL resV oneS freshS freshL cv cvL stpL stcL or_true true_or or_false false_or List.all_cons List.all_nil Bool.and_self Bool.or_self Bool.true_and Bool.and_true Bool.or_false Bool.false_or implies_true flatD allm_nil allm_cons List.getElem?_cons_zero List.getElem?_cons_succ Nd.cs Nd.ds ml mln Option.isSome_some Option.isSome_none eq_self Int.toNat_natCast AP ldOk isLd inL subL crt chg chgS chgP idxs aliveW Option.toList_some Option.toList_none Option.toList RetG Nd.win frzA offK keepH aliveK nkH closedH closedO keysK inH St.upd rowO List.contains_cons List.contains_nil Bool.or_self Option.isNone_none Option.isNone_some Bool.not_true Bool.not_false gcs rowN e0N frzC
attribute [local go_sem] sz2 ag2 ok2 kk2 iu2 zc2 zd2 by2 sz3 ag3 ok3 kk3 iu3 zc3 zd3 by3 sz4 ag4 ok4 bo4 zc4 zd4 by4 sz5 ag5 ok5 kk5 iu5 zc5 zd5 by5 sz9 ag9 ok9 st9 zc9 zd9 by9 sz12 ag12 ok12 kk12 iu12 zc12 zd12 by12 sz15 ag15 ok15 zc15 by15 sz16 ag16 ok16 zc16 by16 sz21 ag21 ok21 kk21 iu21 zc21 zd21 by21 sz22 ag22 ok22 sl22 zc22 zd22 by22 sz24 ag24 ok24 sl24 zc24 zd24 by24 sz25 ag25 ok25 zc25 zd25 pl25 by25 fl25_0 fl25_1 fl25_2 fl25_3 fl25_4 sz26 ag26 ok26 zc26 zd26 pl26 by26 fl26_0 fl26_1 fl26_2 fl26_3 fl26_4 sz30 ag30 ok30 sl30 ar30 zc30 zd30 pl30 by30 sz31 ag31 ok31 sl31 ar31 zc31 zd31 pl31 by31 sz32 ag32 ok32 sl32 zc32 zd32 by32 sz36 ag36 ok36 kk36 iu36 zc36 zd36 by36 sz37 ag37 ok37 zc37 zd37 pl37 by37 fl37_0 fl37_1 fl37_2 fl37_3 sz38 ag38 ok38 zc38 zd38 pl38 by38 fl38_0 fl38_1 fl38_2 fl38_3 sz40 ag40 ok40 sl40 zc40 zd40 by40 sz41 ag41 ok41 zc41 zd41 pl41 by41 fl41_0 fl41_1 sz42 ag42 ok42 zc42 zd42 pl42 by42 fl42_0 fl42_1 sz44 ag44 ok44 kk44 iu44 zc44 zd44 by44 sz49 ag49 ok49 zc49 zd49 pl49 by49 fl49_0 fl49_1 fl49_2 fl49_3 fl49_4 fl49_5 fl49_6 fl49_7 fl49_8 fl49_9 fl49_10 fl49_11 fl49_12 fl49_13 fl49_14 sz50 ag50 ok50 zc50 zd50 pl50 by50 fl50_0 fl50_1 fl50_2 fl50_3 fl50_4 fl50_5 fl50_6 fl50_7 fl50_8 fl50_9 fl50_10 fl50_11 fl50_12 fl50_13 fl50_14 sz55 ag55 ok55 zc55 zd55 pl55 by55 fl55_0 fl55_1 fl55_2 sz56 ag56 ok56 zc56 zd56 pl56 by56 fl56_0 fl56_1 fl56_2 sz65 ag65 ok65 sl65 zc65 zd65 by65 sz68 ag68 ok68 zc68 by68 sz81 ag81 ok81 zc81 zd81 pl81 by81 fl81_0 fl81_1 fl81_2 fl81_3 sz82 ag82 ok82 zc82 zd82 pl82 by82 fl82_0 fl82_1 fl82_2 fl82_3 sz87 ag87 ok87 zc87 by87 sz88 ag88 ok88 zc88 zd88 pl88 by88 fl88_0 fl88_1 fl88_2 sz89 ag89 ok89 zc89 zd89 pl89 by89 fl89_0 fl89_1 fl89_2 sz92 ag92 ok92 zc92 by92 sz93 ag93 ok93 zc93 zd93 pl93 by93 fl93_0 fl93_1 sz94 ag94 ok94 zc94 zd94 pl94 by94 fl94_0 fl94_1 sz98 ag98 ok98 zc98 zd98 pl98 by98 fl98_0 fl98_1 fl98_2 sz99 ag99 ok99 zc99 zd99 pl99 by99 fl99_0 fl99_1 fl99_2 sz112 ag112 ok112 sl112 ar112 zc112 zd112 pl112 by112 sz113 ag113 ok113 sl113 ar113 zc113 zd113 pl113 by113 sz124 ag124 ok124 zc124 zd124 pl124 by124 fl124_0 fl124_1 sz125 ag125 ok125 sl125 ar125 zc125 zd125 pl125 by125 sz126 ag126 ok126 zc126 by126 sz130 ag130 ok130 zc130 by130 sz132 ag132 ok132 zc132 zd132 pl132 by132 fl132_0 fl132_1 sz133 ag133 ok133 zc133 zd133 pl133 by133 fl133_0 fl133_1 sz151 ag151 ok151 kk151 iu151 zc151 zd151 by151 sz155 ag155 ok155 zc155 by155
section
attribute [local go_sem] PMade rtup
/-- what is known of a made graph -/
structure GF (wd lo hi out : Int) (ns : List Nd) (W R : Int → Int) (rk : Int → Nat) (W2 R2 : List Int) : Prop where
  gg : GG wd ns W R rk
  n0 : 1 ≤ ns.length ∧ ns.length ≤ 12
  look : lookG wd lo hi out ns = (0, order ns, W2, R2)
  wl : W2.length = ns.length + 1
  rl : R2.length = ns.length + 1
  eq : ∀ x : Int, 0 ≤ x → x ≤ ns.length → rd W2 x = W x ∧ rd R2 x = R x
  inn : ∀ n ∈ ns, n.inn.length ≤ 4096 ∧ n.ws.length ≤ 65536 ∧ n.bs.length ≤ 65536
theorem GM.gf {wd lo hi out : Int} {ns : List Nd} (h : GM wd lo hi out ns) : ∃ W R rk W2 R2, GF wd lo hi out ns W R rk W2 R2 := by
  obtain ⟨W, R, rk, hg⟩ := h.gg
  obtain ⟨W2, R2, h1, h2, h3, h4⟩ := hg.lookG h.may
  have := h.n0
  exact ⟨W, R, rk, W2, R2, hg, by omega, h1, h2, h3, h4, fun n hn => by have := h.inn n hn; omega⟩
section
variable {wd lo hi out : Int} {ns : List Nd} {W R : Int → Int} {rk : Int → Nat} {W2 R2 : List Int} (h : GF wd lo hi out ns W R rk W2 R2)
include h
theorem GF.ord : ∀ i ∈ order ns, 1 ≤ i ∧ i ≤ ns.length := ordR_range (o := []) (by simp)
theorem GF.ro : RO ns (order ns) := ⟨fun i hi => by
  have hr := h.ord i hi
  have hn := (h.gg.node i hr.1 hr.2).1
  exact ⟨hr, fun j hj => ⟨(hn.inn j hj).1, (hn.inn j hj).2.1⟩, hn.l1⟩, by rw [h.gg.order_len]; exact Nat.le_refl _⟩
theorem GF.co : CO ns (order ns) := ⟨fun i hi => by
  have hr := h.ord i hi
  have hn := (h.gg.node i hr.1 hr.2).1
  exact ⟨hr, fun j hj => ⟨(hn.inn j hj).1, (hn.inn j hj).2.1⟩, hn.st0⟩, by rw [h.gg.order_len]; have := h.n0; omega⟩
theorem GF.rank (i : Int) (h0 : 0 ≤ i) (h1 : i ≤ ns.length) : rk i ≤ 12 := by
  have := h.n0
  rcases Int.lt_or_le 0 i with i2 | i2
  · have := (h.gg.node i i2 h1).2; omega
  · have : i = 0 := by omega
    subst this; rw [h.gg.k0]; omega
/-- as many are ready as by the rate and the reach -/
theorem GF.wants {N : Int} (hN : 0 ≤ N ∧ N ≤ 1099511627776) (i : Int) (h0 : 0 ≤ i) (h1 : i ≤ ns.length) : (0 ≤ rd R2 i ∧ rd R2 i ≤ 531441) ∧
    (0 < rd R2 i → 0 ≤ rd (hiL ns R2) i ∧ rd (hiL ns R2) i ≤ 120000000) ∧ rd (cntL ns Nd.rReady N) i = (if 0 < rd R2 i ∧ rd (hiL ns R2) i ≤ N - 1 then (N - 1 - rd (hiL ns R2) i) / rd R2 i + 1 else 0) := by
  have hk := h.rank i h0 h1
  have hr := h.gg.rates 12 (by omega) i h0 h1 hk
  have hw := h.gg.ready (fun x a b => (h.eq x a b).2) hN 12 (by omega) i h0 h1 hk
  rw [(h.eq i h0 h1).2]
  refine ⟨⟨hr.1, by have := hr.2; simp only [p3] at this; omega⟩, fun hp => by have := (hw.2 hp).1; omega, ?_⟩
  rcases Int.lt_or_le 0 (R i) with hp | hp
  · rw [(hw.2 hp).2]; rfl
  · have : R i = 0 := by omega
    rw [hw.1 this, if_neg (by omega)]
end
end
section
attribute [local go_sem] PMade rtup
/-! a graph's order, and its nodes by their numbers -/
def idxL (n : Nat) : List Int := (List.range n).map fun k => ((k : Nat) : Int) + 1
section
variable {wd lo hi out : Int} {ns : List Nd} {W R : Int → Int} {rk : Int → Nat} {W2 R2 : List Int} (h : GF wd lo hi out ns W R rk W2 R2)
include h
end
/-! sums of costs -/
def addF (ns : List Nd) (W : List Int) (s i : Int) : Int := s + costV (nd ns (i - 1)) (rd W (rd (nd ns (i - 1)).inn 0))
/-! a Best behind Out -/
def nBe (out : Int) : Nd := ⟨11, [out], 0, 0, 0, 0, 0, 0, [], [], 0, 0, 0, 0, 0⟩
end
/-! rooms, and what is ahead -/
theorem size_span {n : Nd} {l : List Int} (hc : n.rchk l = 0) (h0 : 0 < n.size) : n.size ≤ n.rSpan := by
  obtain ⟨_, _, _, he, hs, _⟩ := rchk_unpack hc
  have h8 : n.e8 = false := by
    unfold Nd.else0 at he
    cases e6 : n.e6 with
    | true => rw [e6] at he; cases he
    | false =>
      rw [e6] at he
      cases e : n.e8 with
      | false => rfl
      | true => rw [e] at he; cases he
  have hs4 : n.s4 = false ∧ n.s8 = false := by
    unfold Nd.sized at hs
    cases e : n.s4 with
    | true => rw [e] at hs; cases hs
    | false =>
      rw [e] at hs
      cases e' : n.s8 with
      | false => exact ⟨rfl, rfl⟩
      | true => rw [e'] at hs; cases hs
  obtain ⟨h4, h88⟩ := hs4
  unfold Nd.rSpan
  cases e12 : (n.k == 12) with
  | true => rw [if_pos rfl]; omega
  | false =>
    rw [if_neg (by decide)]
    have hf : rFour n.k = true := by
      cases e : rFour n.k with
      | true => rfl
      | false =>
        unfold Nd.e8 at h8
        rw [e] at h8
        have e12' : (n.k != 12) = true := by simp at e12 ⊢; exact e12
        have es : (n.size != 0) = true := by simp; omega
        rw [e12', es] at h8
        simp at h8
    have hw : rWin n.k = true := by rw [rWin_four, hf]; rfl
    rw [hw, if_neg (by decide)]
    unfold Nd.s4 inB at h4
    unfold Nd.s8 inB at h88
    rw [hf] at h4 h88
    simp at h4 h88
    have hg : n.gap = 1 ∨ n.gap = 2 ∨ n.gap = 3 ∨ n.gap = 4 := by omega
    rw [w64 (x := n.size - 1) (by omega) (by omega)]
    rcases hg with e | e | e | e <;> rw [e] <;> rw [w64 (x := (n.size - 1) * _) (by omega) (by omega), w64 (by omega) (by omega)] <;> omega
theorem want_diff {N r a b : Int} (hr : 0 < r) (h : a ≤ b) : wantV N r a - wantV N r b ≤ (b - a + r - 1) / r := by
  have hd : 0 ≤ (b - a + r - 1) / r := Int.ediv_nonneg (by omega) (by omega)
  unfold wantV
  by_cases h1 : a ≤ N - 1
  · rw [if_pos ⟨hr, h1⟩]
    by_cases h2 : b ≤ N - 1
    · rw [if_pos ⟨hr, h2⟩]
      have := Int.le_ediv_of_mul_le hr (a := (N - 1 - a) / r - (N - 1 - b) / r) (b := b - a + r - 1) (by
        have m1 := Int.mul_ediv_add_emod (N - 1 - a) r
        have m2 := Int.mul_ediv_add_emod (N - 1 - b) r
        have q1 := Int.emod_nonneg (N - 1 - a) (show r ≠ 0 by omega)
        have q2 := Int.emod_lt_of_pos (N - 1 - b) hr
        rw [Int.sub_mul, Int.mul_comm _ r, Int.mul_comm _ r]
        omega)
      omega
    · rw [if_neg (fun h => h2 h.2)]
      have : (N - 1 - a) / r + 1 = (N - 1 - a + r) / r := by rw [Int.add_ediv_of_dvd_right (Int.dvd_refl r), Int.ediv_self (by omega)]
      rw [this]
      have := Int.ediv_le_ediv hr (show N - 1 - a + r ≤ b - a + r - 1 by omega)
      omega
  · rw [if_neg (fun h => h1 h.2), if_neg (fun h => h1 (by omega))]
    omega
theorem rd_sets {l : List Int} {i j v : Int} (hi : 0 ≤ i) (hi2 : i < l.length) (hj : 0 ≤ j) : rd (l.set i.toNat v) j = if j = i then v else rd l j := ga_set (d := (0 : Int)) hi hi2 hj
theorem le_mx (a b : Int) : a ≤ mx a b ∧ b ≤ mx a b := by unfold mx; split <;> omega
section
variable {q : Nd} {r top : Int} {hi : List Int} {N : Nat}
theorem rmJ_len (o : List Int) (j : Int) : (rmJ q r top hi o j).length = o.length := by simp [rmJ]
theorem rms_ge : ∀ (l : List Int) (o : List Int), o.length = N → (∀ j ∈ l, 0 ≤ j ∧ j < N) →
    (l.foldl (rmJ q r top hi) o).length = N ∧ (∀ x : Int, 0 ≤ x → rd o x ≤ rd (l.foldl (rmJ q r top hi) o) x) ∧ ∀ j ∈ l, roomV q r (wrap64 (top - rd hi j)) ≤ rd (l.foldl (rmJ q r top hi) o) j
  | [], o, ho, _ => ⟨ho, fun _ _ => Int.le_refl _, by simp⟩
  | j :: l, o, ho, hl => by
    have hj := hl j (by simp)
    obtain ⟨a, b, c⟩ := rms_ge l (rmJ q r top hi o j) (by rw [rmJ_len]; exact ho) fun x hx => hl x (by simp [hx])
    have hs : ∀ x : Int, 0 ≤ x → rd (rmJ q r top hi o j) x = if x = j then mx (rd o j) (roomV q r (wrap64 (top - rd hi j))) else rd o x := fun x hx => rd_sets hj.1 (by omega) hx
    refine ⟨a, fun x hx => Int.le_trans ?_ (b x hx), fun x hx => ?_⟩
    · rw [hs x hx]
      split
      · rename_i e; subst e; exact (le_mx _ _).1
      · exact Int.le_refl _
    · rcases List.mem_cons.1 hx with rfl | hx
      · refine Int.le_trans ?_ (b x hj.1)
        rw [hs x hj.1, if_pos rfl]; exact (le_mx _ _).2
      · exact c x hx
end
theorem rmF_ge {ns : List Nd} {R hi : List Int} : ∀ (os : List Int) (o : List Int), o.length = ns.length + 1 → (∀ i ∈ os, ∀ j ∈ (nd ns (i - 1)).inn, 0 ≤ j ∧ j ≤ ns.length) →
    (os.foldl (rmF ns R hi) o).length = ns.length + 1 ∧ (∀ x : Int, 0 ≤ x → rd o x ≤ rd (os.foldl (rmF ns R hi) o) x) ∧ ∀ i ∈ os, ∀ j ∈ (nd ns (i - 1)).inn, roomV (nd ns (i - 1)) (rd R i) (wrap64 (mostL ((nd ns (i - 1)).inn.map (rd hi)) - rd hi j)) ≤ rd (os.foldl (rmF ns R hi) o) j
  | [], o, ho, _ => ⟨ho, fun _ _ => Int.le_refl _, by simp⟩
  | i :: os, o, ho, hl => by
    obtain ⟨a, b, c⟩ := rms_ge (q := nd ns (i - 1)) (r := rd R i) (top := mostL ((nd ns (i - 1)).inn.map (rd hi))) (hi := hi) (N := ns.length + 1) (nd ns (i - 1)).inn o ho fun j hj => by have := hl i (by simp) j hj; omega
    obtain ⟨a', b', c'⟩ := rmF_ge os (rmF ns R hi o i) a fun x hx => hl x (by simp [hx])
    refine ⟨a', fun x hx => Int.le_trans (b x hx) (b' x hx), fun x hx j hj => ?_⟩
    rcases List.mem_cons.1 hx with rfl | hx
    · exact Int.le_trans (c j hj) (b' j (hl x (by simp) j hj).1)
    · exact c' x hx j hj
theorem fold_mx : ∀ (l : List Int) (a : Int), a ≤ l.foldl mx a ∧ (∀ x ∈ l, x ≤ l.foldl mx a) ∧ ∀ B : Int, a ≤ B → (∀ x ∈ l, x ≤ B) → l.foldl mx a ≤ B
  | [], a => ⟨Int.le_refl _, by simp, fun B h _ => h⟩
  | x :: l, a => by
    obtain ⟨h1, h2, h3⟩ := fold_mx l (mx a x)
    have hm := le_mx a x
    refine ⟨Int.le_trans hm.1 h1, fun y hy => ?_, fun B ha hB => h3 B ?_ fun y hy => hB y (by simp [hy])⟩
    · rcases List.mem_cons.1 hy with rfl | hy
      · exact Int.le_trans hm.2 h1
      · exact h2 y hy
    · have := hB x (by simp)
      unfold mx; split <;> omega
/-- the rooms of a graph -/
def rmL (ns : List Nd) (R : List Int) : List Int := (order ns).foldl (rmF ns R (hiL ns R)) (List.replicate (ns.length + 1) 1)
section
variable {wd lo hi out : Int} {ns : List Nd} {W R : Int → Int} {rk : Int → Nat} {W2 R2 : List Int} (h : GF wd lo hi out ns W R rk W2 R2)
include h
theorem GF.rooms : (rmL ns R2).length = ns.length + 1 ∧ (∀ x : Int, 0 ≤ x → x ≤ ns.length → 1 ≤ rd (rmL ns R2) x) ∧ ∀ i : Int, 1 ≤ i → i ≤ ns.length → ∀ j ∈ (nd ns (i - 1)).inn, roomV (nd ns (i - 1)) (rd R2 i) (wrap64 (mostL ((nd ns (i - 1)).inn.map (rd (hiL ns R2))) - rd (hiL ns R2) j)) ≤ rd (rmL ns R2) j := by
  obtain ⟨a, b, c⟩ := rmF_ge (ns := ns) (R := R2) (hi := hiL ns R2) (order ns) (List.replicate (ns.length + 1) 1) (by simp) fun i hi j hj => (h.ro.nd i hi).2.1 j hj
  refine ⟨a, fun x x0 x1 => ?_, fun i i1 i2 j hj => c i (h.gg.mem_order i i1 i2) j hj⟩
  have := b x x0
  have e : rd (List.replicate (ns.length + 1) (1 : Int)) x = 1 := by
    unfold rd
    rw [List.getD_eq_getElem?_getD, List.getElem?_replicate, if_pos (by omega)]; rfl
  rw [e] at this
  exact this
theorem GF.cnts {N : Int} (hN : 0 ≤ N ∧ N ≤ 1099511627776) (i : Int) (h0 : 0 ≤ i) (h1 : i ≤ ns.length) : rd (cntL ns Nd.rReady N) i = wantV N (rd R2 i) (rd (hiL ns R2) i) := (h.wants hN i h0 h1).2.2
theorem want_le {N r a : Int} (h0 : 0 ≤ N) (h1 : 0 ≤ a) : wantV N r a ≤ N := by
  unfold wantV
  split
  · rename_i e
    have := Int.ediv_le_self r (show 0 ≤ N - 1 - a by omega)
    omega
  · exact h0
/-- of Add, and Join, no input is ahead by as many frames as its room -/
theorem GF.ahead {N : Int} (hN : 0 ≤ N ∧ N ≤ 1099511627776) (i : Int) (i1 : 1 ≤ i) (i2 : i ≤ ns.length) (hk : (nd ns (i - 1)).k = 7 ∨ (nd ns (i - 1)).k = 8) (hr : 0 < rd R2 i) (j : Int) (hj : j ∈ (nd ns (i - 1)).inn) :
    rd (cntL ns Nd.rReady N) j - rd (cntL ns Nd.rReady N) i < rd (rmL ns R2) j := by
  have hm := (h.gg.node i i1 i2).1
  have hw := hm.wf
  have hjj := hm.inn j hj
  have hone := hw.one (by rcases hk with e | e <;> (unfold rWin; rw [e]; rfl))
  have hRi := (h.eq i (by omega) i2).2
  have hRx : ∀ x ∈ (nd ns (i - 1)).inn, rd R2 x = rd R2 i := fun x hx => by
    have hxx := hm.inn x hx
    have h0 := rd_mem (l := (nd ns (i - 1)).inn) (j := 0) (by omega) (by have := hm.l1; omega)
    have hx0 := hm.inn _ h0
    have hx0r := h.gg.rates 12 (by omega) _ hx0.1 hx0.2.1 (h.rank _ hx0.1 hx0.2.1)
    obtain ⟨e, _⟩ := hm.rate_v
    rw [(h.eq x hxx.1 hxx.2.1).2, hRi]
    rw [hm.same x hx _ h0, e, if_neg (by rcases hk with e | e <;> (rw [e]; decide)), hone.2.1, Int.mul_one]
    have : p3 12 = 531441 := by decide
    exact (w64 (by omega) (by omega)).symm
  have hB : ∀ x ∈ (nd ns (i - 1)).inn, 0 ≤ rd (hiL ns R2) x ∧ rd (hiL ns R2) x ≤ 120000000 := fun x hx => by
    have hxx := hm.inn x hx
    exact (h.wants hN x hxx.1 hxx.2.1).2.1 (by rw [hRx x hx]; exact hr)
  have hri := (h.wants hN i (by omega) i2).1
  have hl : (nd ns (i - 1)).inn.map (rd (hiL ns R2)) ≠ [] := by
    intro e
    have := hm.l1
    rw [List.map_eq_nil_iff] at e
    rw [e] at this; simp at this
  have h0m : rd ((nd ns (i - 1)).inn.map (rd (hiL ns R2))) 0 ∈ (nd ns (i - 1)).inn.map (rd (hiL ns R2)) := rd_mem (by omega) (by have := List.length_pos_iff.2 hl; omega)
  obtain ⟨t1, t2, t3⟩ := fold_mx ((nd ns (i - 1)).inn.map (rd (hiL ns R2))) (rd ((nd ns (i - 1)).inn.map (rd (hiL ns R2))) 0)
  rw [show List.foldl mx (rd ((nd ns (i - 1)).inn.map (rd (hiL ns R2))) 0) ((nd ns (i - 1)).inn.map (rd (hiL ns R2))) = mostL ((nd ns (i - 1)).inn.map (rd (hiL ns R2))) from rfl] at t1 t2 t3
  have hBm : ∀ y ∈ (nd ns (i - 1)).inn.map (rd (hiL ns R2)), 0 ≤ y ∧ y ≤ 120000000 := fun y hy => by
    obtain ⟨x, hx, rfl⟩ := List.mem_map.1 hy
    exact hB x hx
  have htop := t3 120000000 (hBm _ h0m).2 fun y hy => (hBm y hy).2
  have htop0 := Int.le_trans (hBm _ h0m).1 t1
  have htj := t2 _ (List.mem_map.2 ⟨j, hj, rfl⟩)
  have hHi : rd (hiL ns R2) i = mostL ((nd ns (i - 1)).inn.map (rd (hiL ns R2))) := by
    rw [(h.gg.hi_eq (fun x a b => (h.eq x a b).2)).2 i i1 i2]
    unfold hiF
    rw [if_neg (by simp; omega), hone.1, hone.2.2.1]
    generalize rd R2 (rd (nd ns (i - 1)).inn 0) = ra
    rw [show wrap64 (wrap64 ((1 : Int) - 1) - 0) = 0 by rw [w64 (x := (1 : Int) - 1) (by omega) (by omega)]; exact w64 (by omega) (by omega), Int.mul_zero, w64 (x := (0 : Int)) (by omega) (by omega), Int.add_zero]
    exact w64 (by omega) (by omega)
  have hroom := h.rooms.2.2 i i1 i2 j hj
  have hBj := hB j hj
  rw [h.cnts hN j hjj.1 hjj.2.1, h.cnts hN i (by omega) i2, hRx j hj, hHi]
  generalize mostL ((nd ns (i - 1)).inn.map (rd (hiL ns R2))) = top at *
  generalize rd (hiL ns R2) j = hj' at *
  generalize rd R2 i = r at *
  have hd := want_diff (N := N) hr htj
  have hv : roomV (nd ns (i - 1)) r (wrap64 (top - hj')) = (top - hj' + r - 1) / r + 1 := by
    have hq := Int.ediv_le_self r (show 0 ≤ top - hj' + r - 1 by omega)
    have hq0 := Int.ediv_nonneg (show 0 ≤ top - hj' + r - 1 by omega) (show 0 ≤ r by omega)
    unfold roomV
    rw [if_pos (by rcases hk with e | e <;> (rw [e]; rfl)), if_neg (by omega), w64 (x := top - hj') (by omega) (by omega), w64 (x := top - hj' + r) (by omega) (by omega), w64 (x := top - hj' + r - 1) (by omega) (by omega), Int.tdiv_eq_ediv_of_nonneg (by omega)]
    rw [w64 (x := (top - hj' + r - 1) / r) (by omega) (by omega), w64 (by omega) (by omega)]
  rw [hv] at hroom
  omega
/-- no window is wider than its room -/
theorem GF.fits (i : Int) (i1 : 1 ≤ i) (i2 : i ≤ ns.length) (hs : 0 < (nd ns (i - 1)).size) (j : Int) (hj : j ∈ (nd ns (i - 1)).inn) : (nd ns (i - 1)).size ≤ rd (rmL ns R2) j := by
  have hm := (h.gg.node i i1 i2).1
  have hroom := h.rooms.2.2 i i1 i2 j hj
  have hsp := size_span hm.chk hs
  have hnk : ((nd ns (i - 1)).k == 7 || (nd ns (i - 1)).k == 8) = false := by
    cases e : ((nd ns (i - 1)).k == 7 || (nd ns (i - 1)).k == 8) with
    | false => rfl
    | true =>
      exfalso
      obtain ⟨_, _, _, he, _, _⟩ := rchk_unpack hm.chk
      have hk : (nd ns (i - 1)).k = 7 ∨ (nd ns (i - 1)).k = 8 := by simpa using e
      unfold Nd.else0 at he
      cases e6 : (nd ns (i - 1)).e6 with
      | true => rw [e6] at he; cases he
      | false =>
        rw [e6] at he
        have : (nd ns (i - 1)).e8 = true := by
          unfold Nd.e8 rFour
          have es : ((nd ns (i - 1)).size != 0) = true := by simp; omega
          rw [es]
          rcases hk with e | e <;> (rw [e]; rfl)
        rw [this] at he; cases he
  unfold roomV at hroom
  rw [if_neg (by rw [hnk]; decide), span_eqW] at hroom
  omega
end
section
attribute [local go_sem] PMade rtup
theorem FieldAhead_c {T : World → Prop} (Tk : KT T) (l : List Int) (n : Int) : Cg Go.Proofs.Tryd.prog T 5 [] [.d (.row [.i .i64 0] (l.map intC)), .d (.i .i64 n)] (fun r H => H = [] ∧ r = .d (.b true)) := by
  have h1 : 0 ≤ Go.bits .and .i64 n 63 ∧ Go.bits .and .i64 n 63 ≤ 1099511627776 := by
    rw [show Go.bits .and .i64 n 63 = n % 64 from and_mask n 6 (by decide)]
    omega
  have h2 : 0 ≤ Go.bits .and .i64 n 1099511627775 ∧ Go.bits .and .i64 n 1099511627775 ≤ 1099511627776 := by
    rw [show Go.bits .and .i64 n 1099511627775 = n % 1099511627776 from and_mask n 40 (by decide)]
    omega
  refine Cg_of [] Tk.m Go.Proofs.Tryd.func5 rfl rfl Go.Proofs.Tryd.ntmps5 (by simp) rfl (rs := [.tmp 4]) rfl fun E hP hn hT hpn => ?_
  (repeat (first | refine TS.imp ?_ | refine n9 (by decide) ?_))
  refine TR.imp ?_; intro K hK; simp only [go_sem, hP, hn]; (repeat refine vc ?_); refine hK _ ?_; clear K hK
  (repeat (first | refine TS.imp ?_ | refine n9 (by decide) ?_))
  refine TR.imp ?_; intro K hK; simp only [go_sem, hP, hn]
  (repeat refine vc ?_)
  refine CallN_cs (Hi := [] ) (by rw [hP, hT]; exact  awake19_c Tk) rfl rfl rfl trivial (by simp only [go_sem, hP, hn]; try trivial) (by simp only [go_sem, hP, hn]; try rfl) (by simp only [inH, go_sem, hP, hn]; try simp) (by rw [hn]; decide) ?_; simp only [go_sem, hP, hn]; (repeat refine vc ?_)
  refine hK _ ?_; clear K hK
  (repeat (first | refine TS.imp ?_ | refine n9 (by decide) ?_))
  refine TR.imp ?_; intro K hK; simp only [go_sem, hP, hn]
  (repeat refine vc ?_)
  refine CallN_cx (Hi := []) (by rw [hP, hT]; exact Made16_c Tk.m l ) rfl rfl rfl trivial (by simp only [go_sem, hP, hn]; try trivial) (by simp only [go_sem, hP, hn]; try rfl) trivial (by rw [hn]; decide) (fun r Ho hr => ?_); obtain  ⟨wd, lo, hi, out, ns, rfl, rfl, hG⟩ := hr; refine ⟨fun k _ => hpn k rfl, ?_⟩; simp only [cgS, newK, touK, go_sem, hP, hn]; (repeat refine vc ?_)
  refine hK _ ?_; clear K hK
  refine Tr.le (Le.freeze 2000) ?_
  simp only [go_sem, hP, hn]
  refine Tr.le (Le.keep [1, 5, 6]) ?_; simp only [List.map_cons, List.map_nil, lk, Nat.reduceEqDiff, reduceIte]
  obtain ⟨W, R, rk, W2, R2, hF⟩ := hG.gf
  have hn0 := hF.n0
  have cR := Rooms_c Tk wd lo hi out ns _ _ _ (by omega) hF.inn hF.look hF.rl hF.ro
  rw [show (order ns).foldl (rmF ns R2 (ordL 0 (hiF ns R2) (order ns) (List.replicate (ns.length + 1) 0))) (List.replicate (ns.length + 1) 1) = rmL ns R2 from rfl] at cR
  have cL := Look_r Tk.m wd lo hi out ns (by omega) hF.inn
  rw [← look_same, hF.look] at cL
  have c1 := Readies18_c Tk.m wd lo hi out (Go.bits .and .i64 n 63) ns _ _ _ (by omega) hF.inn hF.look hF.co
  have c2 := Readies18_c Tk.m wd lo hi out (Go.bits .and .i64 n 1099511627775) ns _ _ _ (by omega) hF.inn hF.look hF.co
  rw [show cntO ns (order ns) Nd.rReady (Go.bits .and .i64 n 63) = cntL ns Nd.rReady (Go.bits .and .i64 n 63) from if_neg (by unfold many62; simp; omega)] at c1
  rw [show cntO ns (order ns) Nd.rReady (Go.bits .and .i64 n 1099511627775) = cntL ns Nd.rReady (Go.bits .and .i64 n 1099511627775) from if_neg (by unfold many62; simp; omega)] at c2
  have a1 := fun i i1 i2 hk hr j hj => hF.ahead h1 i i1 i2 hk hr j hj
  have a2 := fun i i1 i2 hk hr j hj => hF.ahead h2 i i1 i2 hk hr j hj
  have b1 : ∀ x : Int, 0 ≤ x → x ≤ ns.length → 0 ≤ rd (cntL ns Nd.rReady (Go.bits .and .i64 n 63)) x ∧ rd (cntL ns Nd.rReady (Go.bits .and .i64 n 63)) x ≤ 1099511627776 := fun x x0 x1 => by
    have := hF.wants h1 x x0 x1
    rw [hF.cnts h1 x x0 x1]
    refine ⟨want_nn, ?_⟩
    rcases Int.lt_or_le 0 (rd R2 x) with hp | hp
    · exact Int.le_trans (want_le hF h1.1 (this.2.1 hp).1) h1.2
    · unfold wantV; rw [if_neg (by omega)]; omega
  have b2 : ∀ x : Int, 0 ≤ x → x ≤ ns.length → 0 ≤ rd (cntL ns Nd.rReady (Go.bits .and .i64 n 1099511627775)) x ∧ rd (cntL ns Nd.rReady (Go.bits .and .i64 n 1099511627775)) x ≤ 1099511627776 := fun x x0 x1 => by
    have := hF.wants h2 x x0 x1
    rw [hF.cnts h2 x x0 x1]
    refine ⟨want_nn, ?_⟩
    rcases Int.lt_or_le 0 (rd R2 x) with hp | hp
    · exact Int.le_trans (want_le hF h2.1 (this.2.1 hp).1) h2.2
    · unfold wantV; rw [if_neg (by omega)]; omega
  obtain ⟨hml, hm1, _⟩ := hF.rooms
  have hfit := hF.fits
  have hl1 : (cntL ns Nd.rReady (Go.bits .and .i64 n 63)).length = ns.length + 1 := by unfold cntL; rw [ordL_len]; simp
  have hl2 : (cntL ns Nd.rReady (Go.bits .and .i64 n 1099511627775)).length = ns.length + 1 := by unfold cntL; rw [ordL_len]; simp
  have hrl := hF.rl
  have hro := hF.ro
  have hmo := hF.gg.mem_order
  generalize rmL ns R2 = RM at *
  generalize cntL ns Nd.rReady (Go.bits .and .i64 n 63) = C1 at *
  generalize cntL ns Nd.rReady (Go.bits .and .i64 n 1099511627775) = C2 at *
  (repeat (first | refine TS.imp ?_ | refine n9 (by decide) ?_))
  refine TR.imp ?_; intro K hK; simp only [go_sem, hP, hn]
  (repeat refine vc ?_)
  refine CallN_cs (Hi := [] ) (by rw [hP, hT]; exact  cR) rfl rfl rfl trivial (by simp only [go_sem, hP, hn]; try trivial) (by simp only [go_sem, hP, hn]; try rfl) (by simp only [inH, go_sem, hP, hn]; try simp) (by rw [hn]; decide) ?_; simp only [go_sem, hP, hn]; (repeat refine vc ?_)
  refine hK _ ?_; clear K hK
  refine Tr.le (Le.keep [1, 5, 6, 7]) ?_; simp only [List.map_cons, List.map_nil, lk, Nat.reduceEqDiff, reduceIte]
  (repeat (first | refine TS.imp ?_ | refine n9 (by decide) ?_))
  refine TR.imp ?_; intro K hK; simp only [go_sem, hP, hn]
  (repeat refine vc ?_)
  refine CallN_cs (Hi := [] ) (by rw [hP, hT]; exact  c1) rfl rfl rfl trivial (by simp only [go_sem, hP, hn]; try trivial) (by simp only [go_sem, hP, hn]; try rfl) (by simp only [inH, go_sem, hP, hn]; try simp) (by rw [hn]; decide) ?_; simp only [go_sem, hP, hn]; (repeat refine vc ?_)
  refine hK _ ?_; clear K hK
  refine Tr.le (Le.keep [1, 5, 6, 7, 8]) ?_; simp only [List.map_cons, List.map_nil, lk, Nat.reduceEqDiff, reduceIte]
  (repeat (first | refine TS.imp ?_ | refine n9 (by decide) ?_))
  refine TR.imp ?_; intro K hK; simp only [go_sem, hP, hn]
  (repeat refine vc ?_)
  refine CallN_cs (Hi := [] ) (by rw [hP, hT]; exact  c2) rfl rfl rfl trivial (by simp only [go_sem, hP, hn]; try trivial) (by simp only [go_sem, hP, hn]; try rfl) (by simp only [inH, go_sem, hP, hn]; try simp) (by rw [hn]; decide) ?_; simp only [go_sem, hP, hn]; (repeat refine vc ?_)
  refine hK _ ?_; clear K hK
  refine Tr.le (Le.keep [5, 6, 7, 8, 9]) ?_; simp only [List.map_cons, List.map_nil, lk, Nat.reduceEqDiff, reduceIte]
  (repeat (first | refine TS.imp ?_ | refine n9 (by decide) ?_))
  refine TR.imp ?_; intro K hK; simp only [go_sem, hP, hn]
  (repeat refine vc ?_)
  refine CallN_cs (Hi := [] ) (by rw [hP, hT]; exact  cL) rfl rfl rfl trivial (by simp only [go_sem, hP, hn]; try trivial) (by simp only [go_sem, hP, hn]; try rfl) (by simp only [inH, go_sem, hP, hn]; try simp) (by rw [hn]; decide) ?_; simp only [go_sem, hP, hn]; (repeat refine vc ?_)
  refine hK _ ?_; clear K hK
  refine Tr.le (Le.keep [5, 6, 7, 8, 9, 10]) ?_; simp only [List.map_cons, List.map_nil, lk, Nat.reduceEqDiff, reduceIte]
  have w1 : wrap64 ((ns.length : Int) + 1) = ((ns.length + 1 : Nat) : Int) := by rw [w64 (by omega) (by omega)]; omega
  (repeat (first | refine TS.imp ?_ | refine n9 (by decide) ?_))
  refine TR.imp ?_; intro K hK; simp only [w1, go_sem, hP, hn]; (repeat refine vc ?_); refine hK _ ?_; clear K hK
  (repeat (first | refine TS.imp ?_ | refine n9 (by decide) ?_))
  refine Tr.cond rfl (fun hb => ?_) (fun hb => ?_)
  · rw [hml] at hb; simp at hb
  clear hb
  (repeat (first | refine TS.imp ?_ | refine n9 (by decide) ?_))
  refine TR.imp ?_; intro K hK; simp only [go_sem, hP, hn]; (repeat refine vc ?_); refine hK _ ?_; clear K hK
  (repeat (first | refine TS.imp ?_ | refine n9 (by decide) ?_))
  refine Tr.loop (fun m s => ∃ i : Int, s = ⟨[(5, .d (.b true)), (6, .ptr 6 0), (7, .d (.row [.i .i64 0] (RM.map intC))), (8, .d (.row [.i .i64 0] (C1.map intC))), (9, .d (.row [.i .i64 0] (C2.map intC))), (10, .d (.row [.i .i64 0] (R2.map intC))), (11, .d (.i .i64 i))], [(6, .box 26 (gcs wd lo hi out (.d (rowN ns))))]⟩ ∧ 1 ≤ i ∧ i + m = (ns.length + 1 : Nat)) ns.length ⟨_, (Le.mv (by simp only [go_sem, hP, hn]; first | done | (simp; done) | (simp [intC]; done) | (repeat (first | rfl | constructor))) (by simp only [go_sem, hP, hn]; first | done | (simp; done) | (simp [intC]; done) | (repeat (first | rfl | constructor)))), 1, rfl, by omega, by omega⟩ ?_
  rintro m s ⟨i, rfl, i0, im⟩
  (repeat (first | refine TS.imp ?_ | refine n9 (by decide) ?_))
  refine TR.imp ?_; intro K hK; simp only [go_sem, hP, hn]; (repeat refine vc ?_); refine hK _ ?_; clear K hK
  (repeat (first | refine TS.imp ?_ | refine n9 (by decide) ?_))
  refine Tr.cond rfl (fun hb => ?_) (fun hb => ?_)
  · have hi1 : i ≤ ns.length := by have := of_decide_eq_true hb; omega
    clear hb
    have hnd := rw_nd ns (i - 1) (by omega) (by omega)
    have w2 : wrap64 (i - 1) = i - 1 := w64 (by omega) (by omega)
    have w3 : wrap64 (i + 1) = i + 1 := w64 (by omega) (by omega)
    have hini := hF.inn _ (nd_mem (ns := ns) (i := i - 1) (by omega) (by omega))
    have hjr := (hro.nd i (hmo i i0 hi1)).2.1
    replace a1 := a1 i i0 hi1
    replace a2 := a2 i i0 hi1
    replace hfit := hfit i i0 hi1
    generalize nd ns (i - 1) = q at *
    (repeat (first | refine TS.imp ?_ | refine n9 (by decide) ?_))
    refine TR.imp ?_; intro K hK; simp only [w2, hnd, go_sem, hP, hn]
    (repeat refine vc ?_)
    refine hK _ ?_; clear K hK
    (repeat (first | refine TS.imp ?_ | refine n9 (by decide) ?_))
    refine TR.imp ?_; intro K hK; simp only [go_sem, hP, hn]; (repeat refine vc ?_); refine hK _ ?_; clear K hK
    (repeat (first | refine TS.imp ?_ | refine n9 (by decide) ?_))
    refine Tr.loop (fun m s => ∃ j : Int, s = ⟨[(5, .d (.b true)), (6, .ptr 6 0), (7, .d (.row [.i .i64 0] (RM.map intC))), (8, .d (.row [.i .i64 0] (C1.map intC))), (9, .d (.row [.i .i64 0] (C2.map intC))), (10, .d (.row [.i .i64 0] (R2.map intC))), (11, .d (.i .i64 i)), (12, .ptr 12 0), (13, .d (.i .i64 j))], [(6, .box 26 (gcs wd lo hi out (.d (rowN ns)))), (12, .box 50 q.cs)]⟩ ∧ 0 ≤ j ∧ j + m = q.inn.length) q.inn.length ⟨_, (Le.mv (by simp only [go_sem, hP, hn]; first | done | (simp; done) | (simp [intC]; done) | (repeat (first | rfl | constructor))) (by simp only [go_sem, hP, hn]; first | done | (simp; done) | (simp [intC]; done) | (repeat (first | rfl | constructor)))), 0, rfl, by omega, by omega⟩ ?_
    rintro p s ⟨j, rfl, j0, jp⟩
    (repeat (first | refine TS.imp ?_ | refine n9 (by decide) ?_))
    refine TR.imp ?_; intro K hK; simp only [go_sem, hP, hn]; (repeat refine vc ?_); refine hK _ ?_; clear K hK
    (repeat (first | refine TS.imp ?_ | refine n9 (by decide) ?_))
    refine Tr.cond rfl (fun hc => ?_) (fun hc => ?_)
    · have hj1 : j < q.inn.length := of_decide_eq_true hc
      clear hc
      have hmem := rd_mem j0 hj1
      have hk := hjr _ hmem
      have b1k := b1 _ hk.1 hk.2
      have b2k := b2 _ hk.1 hk.2
      have b1i := b1 i (by omega) hi1
      have b2i := b2 i (by omega) hi1
      have hmk := hm1 _ hk.1 hk.2
      replace a1 := fun hk hr => a1 hk hr _ hmem
      replace a2 := fun hk hr => a2 hk hr _ hmem
      replace hfit := fun hs => hfit hs _ hmem
      have w4 : wrap64 (j + 1) = j + 1 := w64 (by omega) (by omega)
      (repeat (first | refine TS.imp ?_ | refine n9 (by decide) ?_))
      refine TR.imp ?_; intro K hK; simp only [go_sem, hP, hn]; (repeat refine vc ?_); refine hK _ ?_; clear K hK
      generalize rd q.inn j = k at *
      have w5 : wrap64 (rd C1 k - rd C1 i) = rd C1 k - rd C1 i := w64 (by omega) (by omega)
      have w6 : wrap64 (rd C2 k - rd C2 i) = rd C2 k - rd C2 i := w64 (by omega) (by omega)
      have k1 : k < RM.length ∧ k < C1.length ∧ k < C2.length ∧ i < R2.length ∧ i < C1.length ∧ i < C2.length := by omega
      (repeat (first | refine TS.imp ?_ | refine n9 (by decide) ?_))
      (first | refine d1 (.p true 0 (.p true 1 (.p true 2 (.p true 3 (.p true 4 (.p true 5 (.p true 6 (.p true 7 (.p true 8 (.p true 9 (.p true 10 (.p true 11 (.p true 12 (.p true 13 (.p true 14 (.p true 15 (.p true 16 (.p true 17 (.p true 18 (.p true 19 (.p true 20 (.p true 21 (.p true 22 (.p true 23 (.p true 24 (.p true 25 (.p true 26 (.p true 27 (.p true 28 (.p true 29 (.p true 30 (.p true 31 (.p true 32 (.p true 33 (.p true 34 (.p true 35 (.p true 36 (.p true 37 (.p true 38 (.p true 39 (.p true 40 (.p true 41 (.p true 42 (.p true 43 (.p true 44 (.p true 45 (.p true 46 .nil))))))))))))))))))))))))))))))))))))))))))))))) [] (by rw [hP]; kernel_rfl) (by kernel_rfl) (by simp only [go_sem, hP, hn]; try simp) (fun _ _ h => h) fun K hK => ?_ | refine d2 (.p true 0 (.p true 1 (.p true 2 (.p true 3 (.p true 4 (.p true 5 (.p true 6 (.p true 7 (.p true 8 (.p true 9 (.p true 10 (.p true 11 (.p true 12 (.p true 13 (.p true 14 (.p true 15 (.p true 16 (.p true 17 (.p true 18 (.p true 19 (.p true 20 (.p true 21 (.p true 22 (.p true 23 (.p true 24 (.p true 25 (.p true 26 (.p true 27 (.p true 28 (.p true 29 (.p true 30 (.p true 31 (.p true 32 (.p true 33 (.p true 34 (.p true 35 (.p true 36 (.p true 37 (.p true 38 (.p true 39 (.p true 40 (.p true 41 (.p true 42 (.p true 43 (.p true 44 (.p true 45 (.p true 46 .nil))))))))))))))))))))))))))))))))))))))))))))))) [] (by rw [hP]; kernel_rfl) (by kernel_rfl) (by simp only [go_sem, hP, hn]; try simp) (fun _ _ h => h) fun K hK => ?_ | refine d4 (.p true 0 (.p true 1 (.p true 2 (.p true 3 (.p true 4 (.p true 5 (.p true 6 (.p true 7 (.p true 8 (.p true 9 (.p true 10 (.p true 11 (.p true 12 (.p true 13 (.p true 14 (.p true 15 (.p true 16 (.p true 17 (.p true 18 (.p true 19 (.p true 20 (.p true 21 (.p true 22 (.p true 23 (.p true 24 (.p true 25 (.p true 26 (.p true 27 (.p true 28 (.p true 29 (.p true 30 (.p true 31 (.p true 32 (.p true 33 (.p true 34 (.p true 35 (.p true 36 (.p true 37 (.p true 38 (.p true 39 (.p true 40 (.p true 41 (.p true 42 (.p true 43 (.p true 44 (.p true 45 (.p true 46 .nil))))))))))))))))))))))))))))))))))))))))))))))) [] (by rw [hP]; kernel_rfl) (by kernel_rfl) (by simp only [go_sem, hP, hn]; try simp) (fun _ _ h => h) fun K hK => ?_); simp only [go_sem, hP, hn]
      simp only [w5, w6]
      have q1 : 0 ≤ k := hk.1
      have q2 : 0 ≤ i := by omega
      obtain ⟨q3, q4, q5, q6, q7, q8⟩ := k1
      simp only [q1, q2, q3, q4, q5, q6, q7, q8, and_true, true_and, and_self, implies_true, imp_self, Nat.zero_lt_one, beq_iff_eq, Nat.reduceLT]
      refine ⟨fun hh => ⟨hh, fun hd => by rw [hh, hd]; rfl⟩, ?_⟩
      refine hK _ ?_; clear K hK
      (repeat (first | refine TS.imp ?_ | refine n9 (by decide) ?_))
      refine Tr.cond rfl (fun hd => ?_) (fun hd => ?_)
      · exfalso
        simp only [Bool.and_eq_true, Bool.or_eq_true, beq_iff_eq, decide_eq_true_eq] at hd
        have x1 := a1 hd.1.1 hd.1.2
        have x2 := a2 hd.1.1 hd.1.2
        rcases hd.2 with e | e <;> omega
      clear hd
      (repeat (first | refine TS.imp ?_ | refine n9 (by decide) ?_))
      refine Tr.le (Le.keep [5, 6, 7, 8, 9, 10, 11, 12, 13, 14]) ?_; simp only [List.map_cons, List.map_nil, lk, Nat.reduceEqDiff, reduceIte]
      (repeat (first | refine TS.imp ?_ | refine n9 (by decide) ?_))
      (first | refine d1 (.p true 0 (.p true 1 (.p true 2 (.p true 3 (.p true 4 (.p true 5 (.p true 6 (.p true 7 (.p true 8 (.p true 9 (.p true 10 (.p true 11 (.p true 12 (.p true 13 (.p true 14 (.p true 15 (.p true 16 (.p true 17 (.p true 18 .nil))))))))))))))))))) [] (by rw [hP]; kernel_rfl) (by kernel_rfl) (by simp only [go_sem, hP, hn]; try simp) (fun _ _ h => h) fun K hK => ?_ | refine d2 (.p true 0 (.p true 1 (.p true 2 (.p true 3 (.p true 4 (.p true 5 (.p true 6 (.p true 7 (.p true 8 (.p true 9 (.p true 10 (.p true 11 (.p true 12 (.p true 13 (.p true 14 (.p true 15 (.p true 16 (.p true 17 (.p true 18 .nil))))))))))))))))))) [] (by rw [hP]; kernel_rfl) (by kernel_rfl) (by simp only [go_sem, hP, hn]; try simp) (fun _ _ h => h) fun K hK => ?_ | refine d4 (.p true 0 (.p true 1 (.p true 2 (.p true 3 (.p true 4 (.p true 5 (.p true 6 (.p true 7 (.p true 8 (.p true 9 (.p true 10 (.p true 11 (.p true 12 (.p true 13 (.p true 14 (.p true 15 (.p true 16 (.p true 17 (.p true 18 .nil))))))))))))))))))) [] (by rw [hP]; kernel_rfl) (by kernel_rfl) (by simp only [go_sem, hP, hn]; try simp) (fun _ _ h => h) fun K hK => ?_); simp only [go_sem, hP, hn]
      simp only [q1, q2, q3, q4, q5, q6, q7, q8, and_true, true_and, and_self, implies_true, imp_self, Nat.zero_lt_one, beq_iff_eq, Nat.reduceLT]
      refine hK _ ?_; clear K hK
      (repeat (first | refine TS.imp ?_ | refine n9 (by decide) ?_))
      refine Tr.cond rfl (fun hd => ?_) (fun hd => ?_)
      · exfalso
        simp only [Bool.and_eq_true, Bool.or_eq_true, decide_eq_true_eq] at hd
        rcases hd with hd | hd
        · have := hfit hd.1; omega
        · omega
      clear hd
      (repeat (first | refine TS.imp ?_ | refine n9 (by decide) ?_))
      refine TR.imp ?_; intro K hK; simp only [w4, go_sem, hP, hn]; (repeat refine vc ?_); refine hK _ ?_; clear K hK
      (repeat (first | refine TS.imp ?_ | refine n9 (by decide) ?_))
      exact ⟨p - 1, _, by omega, (Le.mv (by simp only [go_sem, hP, hn]; first | done | (simp; done) | (simp [intC]; done) | (repeat (first | rfl | constructor))) (by simp only [go_sem, hP, hn]; first | done | (simp; done) | (simp [intC]; done) | (repeat (first | rfl | constructor)))), j + 1, rfl, by omega, by omega⟩
    · (repeat (first | refine TS.imp ?_ | refine n9 (by decide) ?_))
      refine TR.imp ?_; intro K hK; simp only [w3, go_sem, hP, hn]; (repeat refine vc ?_); refine hK _ ?_; clear K hK
      (repeat (first | refine TS.imp ?_ | refine n9 (by decide) ?_))
      exact ⟨m - 1, _, by omega, (Le.mv (by simp only [go_sem, hP, hn]; first | done | (simp; done) | (simp [intC]; done) | (repeat (first | rfl | constructor))) (by simp only [go_sem, hP, hn]; first | done | (simp; done) | (simp [intC]; done) | (repeat (first | rfl | constructor)))), i + 1, rfl, by omega, by omega⟩
  · (repeat (first | refine TS.imp ?_ | refine n9 (by decide) ?_))
    refine TR.imp ?_; intro K hK; simp only [go_sem, hP, hn]; (repeat refine vc ?_); refine hK _ ?_; clear K hK
    (repeat (first | refine TS.imp ?_ | refine n9 (by decide) ?_))
    simp only [RetG, go_sem]; (repeat with_reducible refine vc ?_)
end
end Go.Proofs.YtgomeljgbjgbkaaDoor.Aw
