/- The abstract walk, and contracts of Go functions: each call returns what the Lean function named tells. Conditions: those that each theorem names, none else. -/
import Derived.Test.YtgomeljgbjgbkaaDoorZFieldReach5
set_option linter.unusedVariables false
set_option linter.unusedSimpArgs false
set_option linter.unusedSectionVars false
set_option maxRecDepth 100000
set_option maxHeartbeats 4000000
namespace Go.Proofs.YtgomeljgbjgbkaaDoor.Aw
open Go.RowKit
set_option maxRecDepth 100000
/-! a frame is ready just as soon as the last frame is there that it hangs on -/
def p3 : Nat → Int
  | 0 => 1
  | r + 1 => 3 * p3 r
theorem p3_le : ∀ r : Nat, r ≤ 12 → 1 ≤ p3 r ∧ p3 r ≤ 531441 := fun r hr => (by decide +kernel : ∀ r : Fin 13, 1 ≤ p3 r.val ∧ p3 r.val ≤ 531441) ⟨r, by omega⟩
theorem NodeG.rate_v {N : Int} {n : Nd} {W R : Int → Int} {rk : Int → Nat} {i : Int} (h : NodeG N n W R rk i) : R i = (if (n.k == 5) = true then 0 else wrap64 (R (rd n.inn 0) * n.rStp)) ∧ (R (rd n.inn 0) = 0 → rWin n.k = false ∧ n.k ≠ 5) := by
  have h0m : rd n.inn 0 ∈ n.inn := rd_mem (by omega) (by have := h.l1; omega)
  have hr0 : rd (n.inn.map R) 0 = R (rd n.inn 0) := rd_map h.l1
  have hst := h.still _ h0m
  refine ⟨?_, hst⟩
  have ha : (n.inn.map R).all (· == R (rd n.inn 0)) = true := List.all_eq_true.2 fun x hx => by
    obtain ⟨j, hj, rfl⟩ := List.mem_map.1 hx
    simpa using h.same j hj _ h0m
  have hz : (R (rd n.inn 0) == 0 && (rWin n.k || n.k == 5)) = false := by
    cases e : (R (rd n.inn 0) == 0) with
    | false => rfl
    | true =>
      have := hst (by simpa using e)
      rw [this.1, show (n.k == 5) = false by simpa using this.2]; rfl
  rw [h.rt]
  unfold Nd.rate
  rw [hr0, ha, hz]
  simp only [Bool.false_eq_true, if_false, Bool.true_eq_false]
theorem inn12 {N : Int} {n : Nd} {W R : Int → Int} {rk : Int → Nat} {i : Int} (h : NodeG N n W R rk i) : (∃ a, n.inn = [a]) ∨ ∃ a b, n.inn = [a, b] := by
  have h1 := h.l1
  have h2 := h.l2
  match hq : n.inn, h1, h2 with
  | [a], _, _ => exact .inl ⟨a, rfl⟩
  | [a, b], _, _ => exact .inr ⟨a, b, rfl⟩
section
variable {wd : Int} {ns : List Nd} {W R : Int → Int} {rk : Int → Nat} (h : GG wd ns W R rk)
include h
theorem GG.rates : ∀ (r : Nat), r ≤ 12 → ∀ i : Int, 0 ≤ i → i ≤ ns.length → rk i ≤ r → 0 ≤ R i ∧ R i ≤ p3 r
  | r, hr, i, i0, i1, hk => by
    have hp := p3_le r hr
    rcases Int.lt_or_le 0 i with i2 | i2
    · have hn := (h.node i i2 i1).1
      have hw := hn.wf
      obtain ⟨e, _⟩ := hn.rate_v
      have hj := hn.inn _ (rd_mem (l := (nd ns (i - 1)).inn) (j := 0) (by omega) (by have := hn.l1; omega))
      match r, hr, hk, hp with
      | 0, _, hk, _ => omega
      | r + 1, hr, hk, hp =>
        have ih := GG.rates r (by omega) _ hj.1 hj.2.1 (by omega)
        have hp2 := p3_le r (by omega)
        have hs := hw.st
        rw [e]
        split
        · omega
        · have m := mul_le (R (rd (nd ns (i - 1)).inn 0)) (p3 r) (nd ns (i - 1)).rStp 3 ih.1 ih.2 (by omega) hs.2
          rw [w64 (by omega) (by omega)]
          simp only [p3]
          omega
    · obtain rfl : i = 0 := by omega
      rw [h.R0]; omega
end
theorem fewest1 {a : Int} (h : 0 ≤ a) : fewestV [a] = a := by
  unfold fewestV
  simp only [List.foldl_cons, List.foldl_nil, mn, mx]
  split <;> (try split) <;> omega
theorem fewest2 {a b : Int} (h : 0 ≤ a) (h2 : 0 ≤ b) : fewestV [a, b] = mn a b := by
  unfold fewestV
  simp only [List.foldl_cons, List.foldl_nil, mn, mx]
  repeat' split
  all_goals omega
theorem most1 (a : Int) : mostL [a] = a := by
  unfold mostL
  simp [mx, rd]
theorem most2 (a b : Int) : mostL [a, b] = mx a b := by
  unfold mostL
  simp [mx, rd]
def wantV (N r hi : Int) : Int := if 0 < r ∧ hi ≤ N - 1 then (N - 1 - hi) / r + 1 else 0
theorem want_nn {N r hi : Int} : 0 ≤ wantV N r hi := by
  unfold wantV
  split
  · have := Int.ediv_nonneg (a := N - 1 - hi) (b := r) (by omega) (by omega)
    omega
  · omega
theorem want_mono {N r a b : Int} (h : a ≤ b) : wantV N r b ≤ wantV N r a := by
  unfold wantV
  split
  · rw [if_pos (by omega)]
    have := Int.ediv_le_ediv (a := N - 1 - b) (b := N - 1 - a) (c := r) (by omega) (by omega)
    omega
  · exact want_nn
theorem want_two {N r a b : Int} : mn (wantV N r a) (wantV N r b) = wantV N r (mx a b) := by
  unfold mn mx
  by_cases h : b > a
  · rw [if_pos h]
    have := want_mono (N := N) (r := r) (show a ≤ b by omega)
    split <;> omega
  · rw [if_neg h]
    have := want_mono (N := N) (r := r) (show b ≤ a by omega)
    rw [if_neg (by omega)]
theorem ready_want {n : Nd} (h : WF n) {l : List Int} {N r H : Int} (k5 : n.k ≠ 5) (hN : 0 ≤ N ∧ N ≤ 1099511627776) (hr : 1 ≤ r ∧ r ≤ 531441) (hH : 0 ≤ H) (ht : fewestV l = wantV N r H) : n.rReady l = wantV N (r * n.rStp) (H + r * (n.rSpan - 1 - n.rLeft)) := by
  have hk : (n.k == 5) = false := by simpa using k5
  have hst := h.st
  have hlf := h.lf
  have hsp := h.sp
  have hl0 : 0 ≤ r * (n.rSpan - 1 - n.rLeft) := Int.mul_nonneg (by omega) (by omega)
  have hrs : 0 < r * n.rStp := Int.mul_pos (by omega) (by omega)
  unfold Nd.rReady
  rw [ht, hk]
  by_cases hM : H ≤ N - 1
  · have q0 := Int.ediv_nonneg (a := N - 1 - H) (b := r) (by omega) (by omega)
    have q1 := Int.ediv_le_self (a := N - 1 - H) r (by omega)
    have e0 : wantV N r H = (N - 1 - H) / r + 1 := by unfold wantV; rw [if_pos ⟨by omega, hM⟩]
    rw [e0]
    cases hw : rWin n.k with
    | false =>
      obtain ⟨a1, a2, a3, _⟩ := h.one hw
      rw [a1, a2, a3, show (1 : Int) - 1 - 0 = 0 by decide, Int.mul_zero, Int.add_zero, Int.mul_one, e0]
      rfl
    | true =>
      have hd : decide (0 < (N - 1 - H) / r + 1) = true := decide_eq_true (by omega)
      rw [hd, Bool.and_self, if_pos rfl, h.ends (by omega) (by omega)]
      unfold wantV
      have hiff := Int.ediv_lt_iff_lt_mul (a := N - 1 - H) (b := n.rSpan - 1 - n.rLeft) (c := r) (by omega)
      rw [Int.mul_comm] at hiff
      by_cases hc : (N - 1 - H) / r < n.rSpan - 1 - n.rLeft
      · have := hiff.1 hc
        rw [if_pos (by omega), if_neg (by omega)]
      · have : ¬ (N - 1 - H < r * (n.rSpan - 1 - n.rLeft)) := fun e => hc (hiff.2 e)
        rw [if_neg (by omega), if_pos ⟨hrs, by omega⟩]
        have e1 : N - 1 - (H + r * (n.rSpan - 1 - n.rLeft)) = (N - 1 - H) + r * (-(n.rSpan - 1 - n.rLeft)) := by rw [Int.mul_neg]; omega
        rw [e1, ← Int.ediv_ediv_of_nonneg (by omega), Int.add_mul_ediv_left _ _ (by omega)]
        congr 2
        omega
  · have e0 : wantV N r H = 0 := by unfold wantV; rw [if_neg (by omega)]
    rw [e0]
    unfold wantV
    rw [if_neg (by simp), if_neg (by decide), if_neg (by omega)]
section
variable {wd : Int} {ns : List Nd} {W R : Int → Int} {rk : Int → Nat} (h : GG wd ns W R rk) {R2 : List Int} (hR : ∀ x : Int, 0 ≤ x → x ≤ ns.length → rd R2 x = R x) {N : Int} (hN : 0 ≤ N ∧ N ≤ 1099511627776)
include h hR
theorem GG.hi_eq : rd (hiL ns R2) 0 = 0 ∧ ∀ i : Int, 1 ≤ i → i ≤ ns.length → rd (hiL ns R2) i = hiF ns R2 (rd (hiL ns R2)) 0 i := by
  obtain ⟨a, b⟩ := h.ordL (d := (0 : Int)) (f := hiF ns R2) hiF_loc (List.replicate (ns.length + 1) 0) (by simp)
  have e : ∀ x : Int, ga (0 : Int) (List.replicate (ns.length + 1) 0) x = 0 := fun x => by
    unfold ga
    rw [List.getD_eq_getElem?_getD, List.getElem?_replicate]
    split <;> rfl
  refine ⟨?_, fun i i1 i2 => ?_⟩
  · rw [e] at a; exact a
  · have := b i i1 i2
    rw [e] at this
    exact this
omit hR in
theorem GG.cnt_eq (g : Nd → List Int → Int) : rd (cntL ns g N) 0 = N ∧ ∀ i : Int, 1 ≤ i → i ≤ ns.length → rd (cntL ns g N) i = g (nd ns (i - 1)) ((nd ns (i - 1)).inn.map (rd (cntL ns g N))) := by
  obtain ⟨a, b⟩ := h.ordL (d := (0 : Int)) (f := cntF ns g) cntF_loc (N :: List.replicate ns.length 0) (by simp)
  exact ⟨a, fun i i1 i2 => b i i1 i2⟩
include hN
/-- what is ready goes by a node's rate and its reach -/
theorem GG.ready : ∀ (r : Nat), r ≤ 12 → ∀ i : Int, 0 ≤ i → i ≤ ns.length → rk i ≤ r → (R i = 0 → rd (cntL ns Nd.rReady N) i = 0) ∧ (0 < R i → (0 ≤ rd (hiL ns R2) i ∧ rd (hiL ns R2) i ≤ r * 10000000) ∧ rd (cntL ns Nd.rReady N) i = wantV N (R i) (rd (hiL ns R2) i))
  | r, hr, i, i0, i1, hk => by
    obtain ⟨u0, u⟩ := h.hi_eq hR
    obtain ⟨c0, c⟩ := h.cnt_eq (N := N) Nd.rReady
    rcases Int.lt_or_le 0 i with i2 | i2
    · have hn := (h.node i i2 i1).1
      have hw := hn.wf
      obtain ⟨e, hst⟩ := hn.rate_v
      have hu := u i i2 i1
      have hc := c i i2 i1
      have hRi := hR i i0 i1
      have hin := hn.inn
      match r, hr, hk with
      | 0, _, hk =>
        have := hin _ (rd_mem (l := (nd ns (i - 1)).inn) (j := 0) (by omega) (by have := hn.l1; omega))
        omega
      | r + 1, hr, hk =>
        have ih : ∀ j ∈ (nd ns (i - 1)).inn, (R j = 0 → rd (cntL ns Nd.rReady N) j = 0) ∧ (0 < R j → (0 ≤ rd (hiL ns R2) j ∧ rd (hiL ns R2) j ≤ r * 10000000) ∧ rd (cntL ns Nd.rReady N) j = wantV N (R j) (rd (hiL ns R2) j)) := fun j hj => by
          have := hin j hj
          exact GG.ready r (by omega) j this.1 this.2.1 (by omega)
        have hRj : ∀ j ∈ (nd ns (i - 1)).inn, 0 ≤ R j ∧ R j ≤ 531441 := fun j hj => by
          have := hin j hj
          have h1 := h.rates r (by omega) j this.1 this.2.1 (by omega)
          have h2 := p3_le r (by omega)
          omega
        have hj0 := rd_mem (l := (nd ns (i - 1)).inn) (j := 0) (by omega) (by have := hn.l1; omega)
        have hsame := fun j hj => hn.same j hj _ hj0
        have h12 := inn12 hn
        rw [hc]
        clear hc c u u0 c0 hin
        unfold hiF at hu
        rw [hRi] at hu
        generalize nd ns (i - 1) = n at *
        generalize hr0 : R (rd n.inn 0) = ra at *
        have hra := hRj _ hj0
        rw [hr0] at hra
        have hjr := h.node
        clear hjr
        have hR0 : rd R2 (rd n.inn 0) = ra := by
          have := hn.inn _ hj0
          rw [hR _ this.1 this.2.1, hr0]
        rw [hR0] at hu
        have hone : rWin n.k = false → n.rReady (n.inn.map (rd (cntL ns Nd.rReady N))) = if (n.k == 5) = true then 0 else fewestV (n.inn.map (rd (cntL ns Nd.rReady N))) := fun e => by unfold Nd.rReady; rw [e]; rfl
        rcases Int.lt_or_le 0 ra with hp | hp
        · -- frames come
          by_cases k5 : n.k = 5
          · rw [k5] at e
            have e : R i = 0 := e
            refine ⟨fun _ => ?_, fun e2 => by omega⟩
            rw [hone (by rw [k5]; rfl), k5]; rfl
          · rw [if_neg (by simpa using k5)] at e
            have m := mul_le ra 531441 n.rStp 3 hra.1 hra.2 (by have := hw.st; omega) hw.st.2
            have mp : 0 < ra * n.rStp := Int.mul_pos hp (by have := hw.st; omega)
            rw [w64 (x := ra * n.rStp) (by omega) (by omega)] at e
            refine ⟨fun e2 => by omega, fun _ => ?_⟩
            rw [if_neg (by simp; omega)] at hu
            have hH : fewestV (n.inn.map (rd (cntL ns Nd.rReady N))) = wantV N ra (mostL (n.inn.map (rd (hiL ns R2)))) ∧ 0 ≤ mostL (n.inn.map (rd (hiL ns R2))) ∧ mostL (n.inn.map (rd (hiL ns R2))) ≤ r * 10000000 := by
              rcases h12 with ⟨a, ea⟩ | ⟨a, b, ea⟩
              · rw [ea] at ih hsame hr0 ⊢
                have sa := hsame a (by simp)
                have ra0 : R a = ra := hr0
                obtain ⟨x1, x2⟩ := (ih a (by simp)).2 (by omega)
                simp only [List.map_cons, List.map_nil]
                rw [x2, ra0, fewest1 want_nn, most1]
                exact ⟨rfl, x1⟩
              · rw [ea] at ih hsame hr0 ⊢
                have ra0 : R a = ra := hr0
                have sb : R b = ra := hsame b (by simp)
                obtain ⟨x1, x2⟩ := (ih a (by simp)).2 (by omega)
                obtain ⟨y1, y2⟩ := (ih b (by simp)).2 (by omega)
                simp only [List.map_cons, List.map_nil]
                rw [x2, y2, sb, ra0, fewest2 want_nn want_nn, most2, want_two]
                refine ⟨rfl, ?_⟩
                unfold mx
                split <;> omega
            generalize mostL (n.inn.map (rd (hiL ns R2))) = H at *
            obtain ⟨t1, t2, t3⟩ := hH
            have hl := hw.lf
            have hsp := hw.sp
            have m2 := mul_le ra 531441 (n.rSpan - 1 - n.rLeft) 9 hra.1 hra.2 (by omega) (by omega)
            rw [w64 (x := n.rSpan - 1) (by omega) (by omega), w64 (x := n.rSpan - 1 - n.rLeft) (by omega) (by omega), w64 (x := ra * _) (by omega) (by omega), w64 (by omega) (by omega)] at hu
            rw [ready_want hw k5 hN ⟨by omega, hra.2⟩ t2 t1, e, hu]
            exact ⟨⟨by omega, by simp only [Int.natCast_add]; omega⟩, rfl⟩
        · -- none come
          have hz : ra = 0 := by omega
          obtain ⟨w0, k5⟩ := hst hz
          rw [if_neg (by simpa using k5), hz, Int.zero_mul] at e
          have e : R i = 0 := e.trans (w64 (x := 0) (by decide) (by decide))
          refine ⟨fun _ => ?_, fun e2 => by omega⟩
          rw [hone w0, if_neg (by simpa using k5)]
          rcases h12 with ⟨a, ea⟩ | ⟨a, b, ea⟩
          · rw [ea] at ih hsame hr0 ⊢
            have ra0 : R a = ra := hr0
            have x := (ih a (by simp)).1 (by omega)
            simp only [List.map_cons, List.map_nil]
            rw [x]; rfl
          · rw [ea] at ih hsame hr0 ⊢
            have ra0 : R a = ra := hr0
            have sb : R b = ra := hsame b (by simp)
            have x := (ih a (by simp)).1 (by omega)
            have y := (ih b (by simp)).1 (by omega)
            simp only [List.map_cons, List.map_nil]
            rw [x, y]; rfl
    · obtain rfl : i = 0 := by omega
      rw [h.R0, c0, u0]
      refine ⟨fun e => by omega, fun _ => ⟨⟨by omega, by omega⟩, ?_⟩⟩
      unfold wantV
      split
      · rw [Int.ediv_one]; omega
      · omega
end
end Go.Proofs.YtgomeljgbjgbkaaDoor.Aw
namespace Go.Proofs.YtgomeljgbjgbkaaDoor.Aw
open Go.RowKit
attribute [local go_sem_proc] Nat.reduceAdd Nat.reduceMul Nat.reduceSub Nat.reduceEqDiff Nat.reduceLeDiff Nat.reduceBEq Nat.reduceBNe Int.reduceToNat reduceIte reduceCtorEq
attribute [local go_sem] initT SQ so pe he ev lk constS stp stc gdS nth pickS pickD loadS cellsAt okAt fieldAddrS fieldS partS indexAddrS indexS extractS binS binD binI isShift unS convS lenS sliceS bndI bndC mmS mm2 mmD builtS fillS okCells cellsS splS solid aliveL alive okS boxS allocS makeS bsliceS elemsOf dcells stF storeS frzA frz frzT frzS frzL frzO frzH appS srcS appVC killS killT killC killH killO k1 k2 S.has S.hasL St.add St.upd dropH lh cond_or cond_and rw_intC rw_intC0 rw_set rw_app rw_apps rw_rep rw_slice wr64 cond_true cond_false true_and and_true List.map_cons List.map_nil List.length_cons List.length_nil List.drop_succ_cons List.drop_zero List.take_succ_cons List.take_zero List.nil_append List.cons_append List.getD_cons_zero List.getD_cons_succ List.headD_cons List.length_map ite_true ite_false if_true if_false Bool.false_eq_true and_self forall_const List.drop_nil List.take_nil List.append_nil Option.map_some Option.map_none List.mapM_cons List.mapM_nil Option.bind_eq_bind Option.bind_some Option.pure_def knows resL resV oneS freshS freshL cv cvL stpL stcL or_true true_or or_false false_or List.all_cons List.all_nil Bool.and_self Bool.or_self Bool.true_and Bool.and_true Bool.or_false Bool.false_or implies_true flatD allm_nil allm_cons List.getElem?_cons_zero List.getElem?_cons_succ Nd.cs Nd.ds ml mln Option.isSome_some Option.isSome_none eq_self Int.toNat_natCast AP ldOk isLd inL subL crt chg chgS chgP idxs aliveW Option.toList_some Option.toList_none Option.toList RetG Nd.win frzA offK keepH aliveK nkH closedH closedO keysK inH St.upd rowO List.contains_cons List.contains_nil Bool.or_self Option.isNone_none Option.isNone_some Bool.not_true Bool.not_false gcs rowN e0N frzC
attribute [local go_sem] sz2 ag2 ok2 kk2 iu2 zc2 zd2 by2 sz3 ag3 ok3 kk3 iu3 zc3 zd3 by3 sz4 ag4 ok4 bo4 zc4 zd4 by4 sz5 ag5 ok5 kk5 iu5 zc5 zd5 by5 sz9 ag9 ok9 st9 zc9 zd9 by9 sz12 ag12 ok12 kk12 iu12 zc12 zd12 by12 sz15 ag15 ok15 zc15 by15 sz16 ag16 ok16 zc16 by16 sz21 ag21 ok21 kk21 iu21 zc21 zd21 by21 sz22 ag22 ok22 sl22 zc22 zd22 by22 sz24 ag24 ok24 sl24 zc24 zd24 by24 sz25 ag25 ok25 zc25 zd25 pl25 by25 fl25_0 fl25_1 fl25_2 fl25_3 fl25_4 sz26 ag26 ok26 zc26 zd26 pl26 by26 fl26_0 fl26_1 fl26_2 fl26_3 fl26_4 sz30 ag30 ok30 sl30 ar30 zc30 zd30 pl30 by30 sz31 ag31 ok31 sl31 ar31 zc31 zd31 pl31 by31 sz32 ag32 ok32 sl32 zc32 zd32 by32 sz36 ag36 ok36 kk36 iu36 zc36 zd36 by36 sz37 ag37 ok37 zc37 zd37 pl37 by37 fl37_0 fl37_1 fl37_2 fl37_3 sz38 ag38 ok38 zc38 zd38 pl38 by38 fl38_0 fl38_1 fl38_2 fl38_3 sz40 ag40 ok40 sl40 zc40 zd40 by40 sz41 ag41 ok41 zc41 zd41 pl41 by41 fl41_0 fl41_1 sz42 ag42 ok42 zc42 zd42 pl42 by42 fl42_0 fl42_1 sz44 ag44 ok44 kk44 iu44 zc44 zd44 by44 sz49 ag49 ok49 zc49 zd49 pl49 by49 fl49_0 fl49_1 fl49_2 fl49_3 fl49_4 fl49_5 fl49_6 fl49_7 fl49_8 fl49_9 fl49_10 fl49_11 fl49_12 fl49_13 fl49_14 sz50 ag50 ok50 zc50 zd50 pl50 by50 fl50_0 fl50_1 fl50_2 fl50_3 fl50_4 fl50_5 fl50_6 fl50_7 fl50_8 fl50_9 fl50_10 fl50_11 fl50_12 fl50_13 fl50_14 sz55 ag55 ok55 zc55 zd55 pl55 by55 fl55_0 fl55_1 fl55_2 sz56 ag56 ok56 zc56 zd56 pl56 by56 fl56_0 fl56_1 fl56_2 sz65 ag65 ok65 sl65 zc65 zd65 by65 sz68 ag68 ok68 zc68 by68 sz81 ag81 ok81 zc81 zd81 pl81 by81 fl81_0 fl81_1 fl81_2 fl81_3 sz82 ag82 ok82 zc82 zd82 pl82 by82 fl82_0 fl82_1 fl82_2 fl82_3 sz87 ag87 ok87 zc87 by87 sz88 ag88 ok88 zc88 zd88 pl88 by88 fl88_0 fl88_1 fl88_2 sz89 ag89 ok89 zc89 zd89 pl89 by89 fl89_0 fl89_1 fl89_2 sz92 ag92 ok92 zc92 by92 sz93 ag93 ok93 zc93 zd93 pl93 by93 fl93_0 fl93_1 sz94 ag94 ok94 zc94 zd94 pl94 by94 fl94_0 fl94_1 sz98 ag98 ok98 zc98 zd98 pl98 by98 fl98_0 fl98_1 fl98_2 sz99 ag99 ok99 zc99 zd99 pl99 by99 fl99_0 fl99_1 fl99_2 sz112 ag112 ok112 sl112 ar112 zc112 zd112 pl112 by112 sz113 ag113 ok113 sl113 ar113 zc113 zd113 pl113 by113 sz124 ag124 ok124 zc124 zd124 pl124 by124 fl124_0 fl124_1 sz125 ag125 ok125 sl125 ar125 zc125 zd125 pl125 by125 sz126 ag126 ok126 zc126 by126 sz130 ag130 ok130 zc130 by130 sz132 ag132 ok132 zc132 zd132 pl132 by132 fl132_0 fl132_1 sz133 ag133 ok133 zc133 zd133 pl133 by133 fl133_0 fl133_1 sz151 ag151 ok151 kk151 iu151 zc151 zd151 by151 sz155 ag155 ok155 zc155 by155
section
attribute [local go_sem] PMade rtup
/-- what is known of a made graph -/
structure GF (wd lo hi out : Int) (ns : List Nd) (W R : Int → Int) (rk : Int → Nat) (W2 R2 : List Int) : Prop where
  gg : GG wd ns W R rk
  n0 : 1 ≤ ns.length ∧ ns.length ≤ 12
  look : lookG wd lo hi out ns = (0, order ns, W2, R2)
  wl : W2.length = ns.length + 1
  rl : R2.length = ns.length + 1
  eq : ∀ x : Int, 0 ≤ x → x ≤ ns.length → rd W2 x = W x ∧ rd R2 x = R x
  inn : ∀ n ∈ ns, n.inn.length ≤ 4096 ∧ n.ws.length ≤ 65536 ∧ n.bs.length ≤ 65536
theorem GM.gf {wd lo hi out : Int} {ns : List Nd} (h : GM wd lo hi out ns) : ∃ W R rk W2 R2, GF wd lo hi out ns W R rk W2 R2 := by
  obtain ⟨W, R, rk, hg⟩ := h.gg
  obtain ⟨W2, R2, h1, h2, h3, h4⟩ := hg.lookG h.may
  have := h.n0
  exact ⟨W, R, rk, W2, R2, hg, by omega, h1, h2, h3, h4, fun n hn => by have := h.inn n hn; omega⟩
section
variable {wd lo hi out : Int} {ns : List Nd} {W R : Int → Int} {rk : Int → Nat} {W2 R2 : List Int} (h : GF wd lo hi out ns W R rk W2 R2)
include h
theorem GF.ord : ∀ i ∈ order ns, 1 ≤ i ∧ i ≤ ns.length := ordR_range (o := []) (by simp)
theorem GF.ro : RO ns (order ns) := ⟨fun i hi => by
  have hr := h.ord i hi
  have hn := (h.gg.node i hr.1 hr.2).1
  exact ⟨hr, fun j hj => ⟨(hn.inn j hj).1, (hn.inn j hj).2.1⟩, hn.l1⟩, by rw [h.gg.order_len]; exact Nat.le_refl _⟩
theorem GF.rank (i : Int) (h0 : 0 ≤ i) (h1 : i ≤ ns.length) : rk i ≤ 12 := by
  have := h.n0
  rcases Int.lt_or_le 0 i with i2 | i2
  · have := (h.gg.node i i2 h1).2; omega
  · have : i = 0 := by omega
    subst this; rw [h.gg.k0]; omega
/-- as many are ready as by the rate and the reach -/
theorem GF.wants {N : Int} (hN : 0 ≤ N ∧ N ≤ 1099511627776) (i : Int) (h0 : 0 ≤ i) (h1 : i ≤ ns.length) : (0 ≤ rd R2 i ∧ rd R2 i ≤ 531441) ∧
    (0 < rd R2 i → 0 ≤ rd (hiL ns R2) i ∧ rd (hiL ns R2) i ≤ 120000000) ∧ rd (cntL ns Nd.rReady N) i = (if 0 < rd R2 i ∧ rd (hiL ns R2) i ≤ N - 1 then (N - 1 - rd (hiL ns R2) i) / rd R2 i + 1 else 0) := by
  have hk := h.rank i h0 h1
  have hr := h.gg.rates 12 (by omega) i h0 h1 hk
  have hw := h.gg.ready (fun x a b => (h.eq x a b).2) hN 12 (by omega) i h0 h1 hk
  rw [(h.eq i h0 h1).2]
  refine ⟨⟨hr.1, by have := hr.2; simp only [p3] at this; omega⟩, fun hp => by have := (hw.2 hp).1; omega, ?_⟩
  rcases Int.lt_or_le 0 (R i) with hp | hp
  · rw [(hw.2 hp).2]; rfl
  · have : R i = 0 := by omega
    rw [hw.1 this, if_neg (by omega)]
end
end
section
attribute [local go_sem] PMade rtup
/-! a graph's order, and its nodes by their numbers -/
def idxL (n : Nat) : List Int := (List.range n).map fun k => ((k : Nat) : Int) + 1
section
variable {wd lo hi out : Int} {ns : List Nd} {W R : Int → Int} {rk : Int → Nat} {W2 R2 : List Int} (h : GF wd lo hi out ns W R rk W2 R2)
include h
end
/-! sums of costs -/
def addF (ns : List Nd) (W : List Int) (s i : Int) : Int := s + costV (nd ns (i - 1)) (rd W (rd (nd ns (i - 1)).inn 0))
/-! a Best behind Out -/
def nBe (out : Int) : Nd := ⟨11, [out], 0, 0, 0, 0, 0, 0, [], [], 0, 0, 0, 0, 0⟩
end
/-! rooms, and what is ahead -/
theorem size_span {n : Nd} {l : List Int} (hc : n.rchk l = 0) (h0 : 0 < n.size) : n.size ≤ n.rSpan := by
  obtain ⟨_, _, _, he, hs, _⟩ := rchk_unpack hc
  have h8 : n.e8 = false := by
    unfold Nd.else0 at he
    cases e6 : n.e6 with
    | true => rw [e6] at he; cases he
    | false =>
      rw [e6] at he
      cases e : n.e8 with
      | false => rfl
      | true => rw [e] at he; cases he
  have hs4 : n.s4 = false ∧ n.s8 = false := by
    unfold Nd.sized at hs
    cases e : n.s4 with
    | true => rw [e] at hs; cases hs
    | false =>
      rw [e] at hs
      cases e' : n.s8 with
      | false => exact ⟨rfl, rfl⟩
      | true => rw [e'] at hs; cases hs
  obtain ⟨h4, h88⟩ := hs4
  unfold Nd.rSpan
  cases e12 : (n.k == 12) with
  | true => rw [if_pos rfl]; omega
  | false =>
    rw [if_neg (by decide)]
    have hf : rFour n.k = true := by
      cases e : rFour n.k with
      | true => rfl
      | false =>
        unfold Nd.e8 at h8
        rw [e] at h8
        have e12' : (n.k != 12) = true := by simp at e12 ⊢; exact e12
        have es : (n.size != 0) = true := by simp; omega
        rw [e12', es] at h8
        simp at h8
    have hw : rWin n.k = true := by rw [rWin_four, hf]; rfl
    rw [hw, if_neg (by decide)]
    unfold Nd.s4 inB at h4
    unfold Nd.s8 inB at h88
    rw [hf] at h4 h88
    simp at h4 h88
    have hg : n.gap = 1 ∨ n.gap = 2 ∨ n.gap = 3 ∨ n.gap = 4 := by omega
    rw [w64 (x := n.size - 1) (by omega) (by omega)]
    rcases hg with e | e | e | e <;> rw [e] <;> rw [w64 (x := (n.size - 1) * _) (by omega) (by omega), w64 (by omega) (by omega)] <;> omega
theorem want_diff {N r a b : Int} (hr : 0 < r) (h : a ≤ b) : wantV N r a - wantV N r b ≤ (b - a + r - 1) / r := by
  have hd : 0 ≤ (b - a + r - 1) / r := Int.ediv_nonneg (by omega) (by omega)
  unfold wantV
  by_cases h1 : a ≤ N - 1
  · rw [if_pos ⟨hr, h1⟩]
    by_cases h2 : b ≤ N - 1
    · rw [if_pos ⟨hr, h2⟩]
      have := Int.le_ediv_of_mul_le hr (a := (N - 1 - a) / r - (N - 1 - b) / r) (b := b - a + r - 1) (by
        have m1 := Int.mul_ediv_add_emod (N - 1 - a) r
        have m2 := Int.mul_ediv_add_emod (N - 1 - b) r
        have q1 := Int.emod_nonneg (N - 1 - a) (show r ≠ 0 by omega)
        have q2 := Int.emod_lt_of_pos (N - 1 - b) hr
        rw [Int.sub_mul, Int.mul_comm _ r, Int.mul_comm _ r]
        omega)
      omega
    · rw [if_neg (fun h => h2 h.2)]
      have : (N - 1 - a) / r + 1 = (N - 1 - a + r) / r := by rw [Int.add_ediv_of_dvd_right (Int.dvd_refl r), Int.ediv_self (by omega)]
      rw [this]
      have := Int.ediv_le_ediv hr (show N - 1 - a + r ≤ b - a + r - 1 by omega)
      omega
  · rw [if_neg (fun h => h1 h.2), if_neg (fun h => h1 (by omega))]
    omega
theorem rd_sets {l : List Int} {i j v : Int} (hi : 0 ≤ i) (hi2 : i < l.length) (hj : 0 ≤ j) : rd (l.set i.toNat v) j = if j = i then v else rd l j := ga_set (d := (0 : Int)) hi hi2 hj
theorem le_mx (a b : Int) : a ≤ mx a b ∧ b ≤ mx a b := by unfold mx; split <;> omega
section
variable {q : Nd} {r top : Int} {hi : List Int} {N : Nat}
theorem rmJ_len (o : List Int) (j : Int) : (rmJ q r top hi o j).length = o.length := by simp [rmJ]
theorem rms_ge : ∀ (l : List Int) (o : List Int), o.length = N → (∀ j ∈ l, 0 ≤ j ∧ j < N) →
    (l.foldl (rmJ q r top hi) o).length = N ∧ (∀ x : Int, 0 ≤ x → rd o x ≤ rd (l.foldl (rmJ q r top hi) o) x) ∧ ∀ j ∈ l, roomV q r (wrap64 (top - rd hi j)) ≤ rd (l.foldl (rmJ q r top hi) o) j
  | [], o, ho, _ => ⟨ho, fun _ _ => Int.le_refl _, by simp⟩
  | j :: l, o, ho, hl => by
    have hj := hl j (by simp)
    obtain ⟨a, b, c⟩ := rms_ge l (rmJ q r top hi o j) (by rw [rmJ_len]; exact ho) fun x hx => hl x (by simp [hx])
    have hs : ∀ x : Int, 0 ≤ x → rd (rmJ q r top hi o j) x = if x = j then mx (rd o j) (roomV q r (wrap64 (top - rd hi j))) else rd o x := fun x hx => rd_sets hj.1 (by omega) hx
    refine ⟨a, fun x hx => Int.le_trans ?_ (b x hx), fun x hx => ?_⟩
    · rw [hs x hx]
      split
      · rename_i e; subst e; exact (le_mx _ _).1
      · exact Int.le_refl _
    · rcases List.mem_cons.1 hx with rfl | hx
      · refine Int.le_trans ?_ (b x hj.1)
        rw [hs x hj.1, if_pos rfl]; exact (le_mx _ _).2
      · exact c x hx
end
theorem rmF_ge {ns : List Nd} {R hi : List Int} : ∀ (os : List Int) (o : List Int), o.length = ns.length + 1 → (∀ i ∈ os, ∀ j ∈ (nd ns (i - 1)).inn, 0 ≤ j ∧ j ≤ ns.length) →
    (os.foldl (rmF ns R hi) o).length = ns.length + 1 ∧ (∀ x : Int, 0 ≤ x → rd o x ≤ rd (os.foldl (rmF ns R hi) o) x) ∧ ∀ i ∈ os, ∀ j ∈ (nd ns (i - 1)).inn, roomV (nd ns (i - 1)) (rd R i) (wrap64 (mostL ((nd ns (i - 1)).inn.map (rd hi)) - rd hi j)) ≤ rd (os.foldl (rmF ns R hi) o) j
  | [], o, ho, _ => ⟨ho, fun _ _ => Int.le_refl _, by simp⟩
  | i :: os, o, ho, hl => by
    obtain ⟨a, b, c⟩ := rms_ge (q := nd ns (i - 1)) (r := rd R i) (top := mostL ((nd ns (i - 1)).inn.map (rd hi))) (hi := hi) (N := ns.length + 1) (nd ns (i - 1)).inn o ho fun j hj => by have := hl i (by simp) j hj; omega
    obtain ⟨a', b', c'⟩ := rmF_ge os (rmF ns R hi o i) a fun x hx => hl x (by simp [hx])
    refine ⟨a', fun x hx => Int.le_trans (b x hx) (b' x hx), fun x hx j hj => ?_⟩
    rcases List.mem_cons.1 hx with rfl | hx
    · exact Int.le_trans (c j hj) (b' j (hl x (by simp) j hj).1)
    · exact c' x hx j hj
theorem fold_mx : ∀ (l : List Int) (a : Int), a ≤ l.foldl mx a ∧ (∀ x ∈ l, x ≤ l.foldl mx a) ∧ ∀ B : Int, a ≤ B → (∀ x ∈ l, x ≤ B) → l.foldl mx a ≤ B
  | [], a => ⟨Int.le_refl _, by simp, fun B h _ => h⟩
  | x :: l, a => by
    obtain ⟨h1, h2, h3⟩ := fold_mx l (mx a x)
    have hm := le_mx a x
    refine ⟨Int.le_trans hm.1 h1, fun y hy => ?_, fun B ha hB => h3 B ?_ fun y hy => hB y (by simp [hy])⟩
    · rcases List.mem_cons.1 hy with rfl | hy
      · exact Int.le_trans hm.2 h1
      · exact h2 y hy
    · have := hB x (by simp)
      unfold mx; split <;> omega
/-- the rooms of a graph -/
def rmL (ns : List Nd) (R : List Int) : List Int := (order ns).foldl (rmF ns R (hiL ns R)) (List.replicate (ns.length + 1) 1)
section
variable {wd lo hi out : Int} {ns : List Nd} {W R : Int → Int} {rk : Int → Nat} {W2 R2 : List Int} (h : GF wd lo hi out ns W R rk W2 R2)
include h
theorem GF.rooms : (rmL ns R2).length = ns.length + 1 ∧ (∀ x : Int, 0 ≤ x → x ≤ ns.length → 1 ≤ rd (rmL ns R2) x) ∧ ∀ i : Int, 1 ≤ i → i ≤ ns.length → ∀ j ∈ (nd ns (i - 1)).inn, roomV (nd ns (i - 1)) (rd R2 i) (wrap64 (mostL ((nd ns (i - 1)).inn.map (rd (hiL ns R2))) - rd (hiL ns R2) j)) ≤ rd (rmL ns R2) j := by
  obtain ⟨a, b, c⟩ := rmF_ge (ns := ns) (R := R2) (hi := hiL ns R2) (order ns) (List.replicate (ns.length + 1) 1) (by simp) fun i hi j hj => (h.ro.nd i hi).2.1 j hj
  refine ⟨a, fun x x0 x1 => ?_, fun i i1 i2 j hj => c i (h.gg.mem_order i i1 i2) j hj⟩
  have := b x x0
  have e : rd (List.replicate (ns.length + 1) (1 : Int)) x = 1 := by
    unfold rd
    rw [List.getD_eq_getElem?_getD, List.getElem?_replicate, if_pos (by omega)]; rfl
  rw [e] at this
  exact this
theorem GF.cnts {N : Int} (hN : 0 ≤ N ∧ N ≤ 1099511627776) (i : Int) (h0 : 0 ≤ i) (h1 : i ≤ ns.length) : rd (cntL ns Nd.rReady N) i = wantV N (rd R2 i) (rd (hiL ns R2) i) := (h.wants hN i h0 h1).2.2
/-- of Add, and Join, no input is ahead by as many frames as its room -/
theorem GF.ahead {N : Int} (hN : 0 ≤ N ∧ N ≤ 1099511627776) (i : Int) (i1 : 1 ≤ i) (i2 : i ≤ ns.length) (hk : (nd ns (i - 1)).k = 7 ∨ (nd ns (i - 1)).k = 8) (hr : 0 < rd R2 i) (j : Int) (hj : j ∈ (nd ns (i - 1)).inn) :
    rd (cntL ns Nd.rReady N) j - rd (cntL ns Nd.rReady N) i < rd (rmL ns R2) j := by
  have hm := (h.gg.node i i1 i2).1
  have hw := hm.wf
  have hjj := hm.inn j hj
  have hone := hw.one (by rcases hk with e | e <;> (unfold rWin; rw [e]; rfl))
  have hRi := (h.eq i (by omega) i2).2
  have hRx : ∀ x ∈ (nd ns (i - 1)).inn, rd R2 x = rd R2 i := fun x hx => by
    have hxx := hm.inn x hx
    have h0 := rd_mem (l := (nd ns (i - 1)).inn) (j := 0) (by omega) (by have := hm.l1; omega)
    have hx0 := hm.inn _ h0
    have hx0r := h.gg.rates 12 (by omega) _ hx0.1 hx0.2.1 (h.rank _ hx0.1 hx0.2.1)
    obtain ⟨e, _⟩ := hm.rate_v
    rw [(h.eq x hxx.1 hxx.2.1).2, hRi]
    rw [hm.same x hx _ h0, e, if_neg (by rcases hk with e | e <;> (rw [e]; decide)), hone.2.1, Int.mul_one]
    have : p3 12 = 531441 := by decide
    exact (w64 (by omega) (by omega)).symm
  have hB : ∀ x ∈ (nd ns (i - 1)).inn, 0 ≤ rd (hiL ns R2) x ∧ rd (hiL ns R2) x ≤ 120000000 := fun x hx => by
    have hxx := hm.inn x hx
    exact (h.wants hN x hxx.1 hxx.2.1).2.1 (by rw [hRx x hx]; exact hr)
  have hri := (h.wants hN i (by omega) i2).1
  have hl : (nd ns (i - 1)).inn.map (rd (hiL ns R2)) ≠ [] := by
    intro e
    have := hm.l1
    rw [List.map_eq_nil_iff] at e
    rw [e] at this; simp at this
  have h0m : rd ((nd ns (i - 1)).inn.map (rd (hiL ns R2))) 0 ∈ (nd ns (i - 1)).inn.map (rd (hiL ns R2)) := rd_mem (by omega) (by have := List.length_pos_iff.2 hl; omega)
  obtain ⟨t1, t2, t3⟩ := fold_mx ((nd ns (i - 1)).inn.map (rd (hiL ns R2))) (rd ((nd ns (i - 1)).inn.map (rd (hiL ns R2))) 0)
  rw [show List.foldl mx (rd ((nd ns (i - 1)).inn.map (rd (hiL ns R2))) 0) ((nd ns (i - 1)).inn.map (rd (hiL ns R2))) = mostL ((nd ns (i - 1)).inn.map (rd (hiL ns R2))) from rfl] at t1 t2 t3
  have hBm : ∀ y ∈ (nd ns (i - 1)).inn.map (rd (hiL ns R2)), 0 ≤ y ∧ y ≤ 120000000 := fun y hy => by
    obtain ⟨x, hx, rfl⟩ := List.mem_map.1 hy
    exact hB x hx
  have htop := t3 120000000 (hBm _ h0m).2 fun y hy => (hBm y hy).2
  have htop0 := Int.le_trans (hBm _ h0m).1 t1
  have htj := t2 _ (List.mem_map.2 ⟨j, hj, rfl⟩)
  have hHi : rd (hiL ns R2) i = mostL ((nd ns (i - 1)).inn.map (rd (hiL ns R2))) := by
    rw [(h.gg.hi_eq (fun x a b => (h.eq x a b).2)).2 i i1 i2]
    unfold hiF
    rw [if_neg (by simp; omega), hone.1, hone.2.2.1]
    generalize rd R2 (rd (nd ns (i - 1)).inn 0) = ra
    rw [show wrap64 (wrap64 ((1 : Int) - 1) - 0) = 0 by rw [w64 (x := (1 : Int) - 1) (by omega) (by omega)]; exact w64 (by omega) (by omega), Int.mul_zero, w64 (x := (0 : Int)) (by omega) (by omega), Int.add_zero]
    exact w64 (by omega) (by omega)
  have hroom := h.rooms.2.2 i i1 i2 j hj
  have hBj := hB j hj
  rw [h.cnts hN j hjj.1 hjj.2.1, h.cnts hN i (by omega) i2, hRx j hj, hHi]
  generalize mostL ((nd ns (i - 1)).inn.map (rd (hiL ns R2))) = top at *
  generalize rd (hiL ns R2) j = hj' at *
  generalize rd R2 i = r at *
  have hd := want_diff (N := N) hr htj
  have hv : roomV (nd ns (i - 1)) r (wrap64 (top - hj')) = (top - hj' + r - 1) / r + 1 := by
    have hq := Int.ediv_le_self r (show 0 ≤ top - hj' + r - 1 by omega)
    have hq0 := Int.ediv_nonneg (show 0 ≤ top - hj' + r - 1 by omega) (show 0 ≤ r by omega)
    unfold roomV
    rw [if_pos (by rcases hk with e | e <;> (rw [e]; rfl)), if_neg (by omega), w64 (x := top - hj') (by omega) (by omega), w64 (x := top - hj' + r) (by omega) (by omega), w64 (x := top - hj' + r - 1) (by omega) (by omega), Int.tdiv_eq_ediv_of_nonneg (by omega)]
    rw [w64 (x := (top - hj' + r - 1) / r) (by omega) (by omega), w64 (by omega) (by omega)]
  rw [hv] at hroom
  omega
/-- no window is wider than its room -/
theorem GF.fits (i : Int) (i1 : 1 ≤ i) (i2 : i ≤ ns.length) (hs : 0 < (nd ns (i - 1)).size) (j : Int) (hj : j ∈ (nd ns (i - 1)).inn) : (nd ns (i - 1)).size ≤ rd (rmL ns R2) j := by
  have hm := (h.gg.node i i1 i2).1
  have hroom := h.rooms.2.2 i i1 i2 j hj
  have hsp := size_span hm.chk hs
  have hnk : ((nd ns (i - 1)).k == 7 || (nd ns (i - 1)).k == 8) = false := by
    cases e : ((nd ns (i - 1)).k == 7 || (nd ns (i - 1)).k == 8) with
    | false => rfl
    | true =>
      exfalso
      obtain ⟨_, _, _, he, _, _⟩ := rchk_unpack hm.chk
      have hk : (nd ns (i - 1)).k = 7 ∨ (nd ns (i - 1)).k = 8 := by simpa using e
      unfold Nd.else0 at he
      cases e6 : (nd ns (i - 1)).e6 with
      | true => rw [e6] at he; cases he
      | false =>
        rw [e6] at he
        have : (nd ns (i - 1)).e8 = true := by
          unfold Nd.e8 rFour
          have es : ((nd ns (i - 1)).size != 0) = true := by simp; omega
          rw [es]
          rcases hk with e | e <;> (rw [e]; rfl)
        rw [this] at he; cases he
  unfold roomV at hroom
  rw [if_neg (by rw [hnk]; decide), span_eqW] at hroom
  omega
end
section
attribute [local go_sem] PMade rtup
end
/-- likewise, where a table of the program is read: what it returns lies in blocks of its own -/

def an : List S → List S → Prop
  | [], [] => True
  | c :: cs, c' :: cs' => (c = c' ∨ c' = .any) ∧ an cs cs'
  | _, _ => False
def wtup (q : Int × List Int × List Int × List Int) : S := .agg [.any, .d (.row [.i .i64 0] (q.2.2.1.map intC)), .d (.row [.i .i64 0] (q.2.2.2.map intC)), .d (.i .i64 q.1)]
section
attribute [local go_sem] prmT
/-- what a slot says to somebody who reads boxes, too -/
def asD : List S → Option (List D)
  | [] => some []
  | .d x :: r => match asD r with
    | some l => some (x :: l)
    | none => none
  | _ :: _ => none
def cv2 (H : Hp) : S → S
  | .ptr h o => match lh H h with
    | some (.box _ cs) => match asD (cvL H cs) with
      | some ds => .fptr (ds.drop o)
      | none => .any
    | _ => .any
  | x => cv H x
def cv2L (H : Hp) : List S → List S
  | [] => []
  | c :: cs => cv2 H c :: cv2L H cs
/-- the document's room -/
def roomR (n : Nd) (hi : List Int) (j rate : Int) : Int := if rWin n.k = true then n.rSpan else if (!rMany n.k || rate == 0) = true then 1 else wrap64 (wrap64 (Int.tdiv (wrap64 (wrap64 (wrap64 (mostL (n.inn.map (rd hi)) - rd hi (rd n.inn j)) + rate) - 1)) rate) + 1)
end
section
attribute [local go_sem] frD
/-! all frames of a node, by definition -/
def atV (fs : List (List Int)) (t : Int) (w : Nat) : List Int := if t < 0 ∨ fs.length ≤ t then List.replicate w 0 else fr fs t
theorem at_c {T : World → Prop} (Tm : TP T) (fs : List (List Int)) (t : Int) (w : Nat) (hf : fs.length ≤ 65536) (hw : w ≤ 65536) : Cg Go.Proofs.Tryd.prog T 74 [] [.d (frD fs), .d (.i .i64 t), .d (.i .i64 w)] (fun r H => H = [] ∧ r = .d (.row [.i .i64 0] ((atV fs t w).map intC))) := by
  refine Cg_of [] Tm Go.Proofs.Tryd.func74 rfl rfl Go.Proofs.Tryd.ntmps74 (by simp) rfl (rs := [.tmp 6]) rfl fun E hP hn hT hpn => ?_
  (repeat (first | refine TS.imp ?_ | refine n9 (by decide) ?_))
  refine TR.imp ?_; intro K hK; simp only [go_sem, hP, hn]; (repeat refine vc ?_); refine hK _ ?_; clear K hK
  (repeat (first | refine TS.imp ?_ | refine n9 (by decide) ?_))
  refine TR.imp ?_; intro K hK; simp only [go_sem, hP, hn]; (repeat refine vc ?_); refine hK _ ?_; clear K hK
  (repeat (first | refine TS.imp ?_ | refine n9 (by decide) ?_))
  refine Tr.cond rfl (fun hb => ?_) (fun hb => ?_)
  · have h : t < 0 ∨ fs.length ≤ t := by simpa using hb
    unfold atV
    rw [if_pos h]
    (repeat (first | refine TS.imp ?_ | refine n9 (by decide) ?_))
    refine TR.imp ?_; intro K hK; simp only [go_sem, hP, hn]; (repeat refine vc ?_); refine hK _ ?_; clear K hK
    (repeat (first | refine TS.imp ?_ | refine n9 (by decide) ?_))
    simp only [RetG, go_sem]; (repeat with_reducible refine vc ?_)
  · have h : ¬ (t < 0 ∨ fs.length ≤ t) := by simpa using hb
    unfold atV
    rw [if_neg h]
    have hr := rw_fr fs t (by omega) (by omega)
    clear hb
    have t0 : 0 ≤ t := by omega
    have t1 : t < fs.length := by omega
    (repeat (first | refine TS.imp ?_ | refine n9 (by decide) ?_))
    refine TR.imp ?_; intro K hK; simp only [hr, go_sem, hP, hn]; (repeat refine vc ?_); refine hK _ ?_; clear K hK
    (repeat (first | refine TS.imp ?_ | refine n9 (by decide) ?_))
    simp only [RetG, go_sem]; (repeat with_reducible refine vc ?_)
def gapV (n : Nd) : Int := if (n.k == 12) = true then 1 else n.gap
theorem gap_c {T : World → Prop} (Tm : TP T) (n : Nd) : Ct Go.Proofs.Tryd.prog T 76 [.agg n.cs] true (fun r => r = .d (.i .i64 (gapV n))) := by
  refine Ct_of Tm Go.Proofs.Tryd.func76 rfl rfl Go.Proofs.Tryd.ntmps76 (by simp) (rs := [.tmp 2]) rfl fun E hP hn hT => ?_
  (repeat (first | refine TS.imp ?_ | refine n9 (by decide) ?_))
  refine TR.imp ?_; intro K hK; simp only [go_sem, hP, hn]; (repeat refine vc ?_); refine hK _ ?_; clear K hK
  (repeat (first | refine TS.imp ?_ | refine n9 (by decide) ?_))
  refine TR.imp ?_; intro K hK; simp only [go_sem, hP, hn]; (repeat refine vc ?_); refine hK _ ?_; clear K hK
  (repeat (first | refine TS.imp ?_ | refine n9 (by decide) ?_))
  unfold gapV
  refine Tr.cond rfl (fun hb => ?_) (fun hb => ?_)
  · rw [if_pos hb]
    (repeat (first | (refine TR.imp ?_; intro K hK; simp only [go_sem, hP, hn]; (repeat refine vc ?_); refine hK _ ?_; clear K hK) | refine TS.imp ?_ | refine n9 (by decide) ?_))
    simp only [RetQ, go_sem]
  · rw [if_neg (by rw [hb]; decide)]
    (repeat (first | (refine TR.imp ?_; intro K hK; simp only [go_sem, hP, hn]; (repeat refine vc ?_); refine hK _ ?_; clear K hK) | refine TS.imp ?_ | refine n9 (by decide) ?_))
    simp only [RetQ, go_sem]
def insE (s : List (List Int)) : List D := [frD s]
def insD (ins : List (List (List Int))) : D := .row [.nil] (ins.map insE)
def inF (ins : List (List (List Int))) (i : Int) : List (List Int) := ins.getD i.toNat []
theorem rw_ins (ins : List (List (List Int))) (i : Int) (h0 : 0 ≤ i) (h1 : i < ins.length) : (ins.map insE).getD i.toNat [.nil] = [frD (inF ins i)] := by
  have h : i.toNat < ins.length := by omega
  unfold inF
  simp [List.getD, h, insE]
attribute [local go_sem] insD
theorem inF_mem {ins : List (List (List Int))} {i : Int} (h0 : 0 ≤ i) (h1 : i < ins.length) : inF ins i ∈ ins := by
  have h : i.toNat < ins.length := by omega
  unfold inF
  simp [List.getD, h]
/-- the frames that a node's frame i is told from -/
def inpF (n : Nd) (ins : List (List (List Int))) (w : Nat) (i : Int) : List (List Int) :=
  if rWin n.k = true then (List.range n.size.toNat).map fun j => atV (inF ins 0) (wrap64 (n.rFirst i + wrap64 ((j : Nat) * gapV n))) w
  else if n.k = 5 then inF ins 0 else ins.map fun s => fr s i
theorem Node_c {T : World → Prop} (Tm : TP T) (n : Nd) (ins : List (List (List Int))) (w C : Nat) (out : Int → List Int) (hi0 : 1 ≤ ins.length ∧ ins.length ≤ 4096) (hil : ∀ s ∈ ins, s.length ≤ 65536) (hw : w ≤ 65536) (hC : n.rCount (ins.map fun s => (s.length : Int)) = C) (hC1 : C ≤ 65536)
    (hst : rWin n.k = true → 1 ≤ n.rStp) (hsz : n.size ≤ 4096) (hix : rWin n.k = false → n.k ≠ 5 → ∀ s ∈ ins, C ≤ s.length)
    (hF : ∀ i : Int, 0 ≤ i → i < C → Cg Go.Proofs.Tryd.prog T 77 [] [.agg n.cs, .d (frD (inpF n ins w i))] (fun r H => H = [] ∧ r = .d (.row [.i .i64 0] ((out i).map intC)))) :
    Cg Go.Proofs.Tryd.prog T 45 [] [.agg n.cs, .d (insD ins), .d (.i .i64 w)] (fun r H => H = [] ∧ r = .d (frD ((List.range C).map fun i => out (i : Nat)))) := by
  refine Cg_of [] Tm Go.Proofs.Tryd.func45 rfl rfl Go.Proofs.Tryd.ntmps45 (by simp) rfl (rs := [.tmp 6]) rfl fun E hP hn hT hpn => ?_
  (repeat (first | refine TS.imp ?_ | refine n9 (by decide) ?_))
  refine TR.imp ?_; intro K hK; simp only [go_sem, hP, hn]; (repeat refine vc ?_); refine hK _ ?_; clear K hK
  (repeat (first | refine TS.imp ?_ | refine n9 (by decide) ?_))
  refine TR.imp ?_; intro K hK; simp only [go_sem, hP, hn]; (repeat refine vc ?_); refine hK _ ?_; clear K hK
  (repeat (first | refine TS.imp ?_ | refine n9 (by decide) ?_))
  refine TR.imp ?_; intro K hK; simp only [go_sem, hP, hn]; (repeat refine vc ?_); refine hK _ ?_; clear K hK
  (repeat (first | refine TS.imp ?_ | refine n9 (by decide) ?_))
  refine Tr.le (Le.nilslot 3007 7 3 [.i .i64 0] rfl (by rw [hpn] <;> rfl) rfl rfl) ?_
  simp only [go_sem, hP, hn]
  refine Tr.loop (fun q s => ∃ j : Int, s = ⟨[(1, .d (insD ins)), (2, .d (.i .i64 w)), (3, .ptr 3 0), (7, .own 3007), (8, .d (.i .i64 j))], [(3, .box 50 n.cs), (3007, .row 3 [.i .i64 0] (((ins.take j.toNat).map fun s => (s.length : Int)).map intC))]⟩ ∧ 0 ≤ j ∧ j + q = ins.length) ins.length ⟨_, ?_, 0, rfl, by omega, by omega⟩ ?_
  · exact (Le.mv (by simp only [go_sem, hP, hn]; first | done | (simp; done) | (simp [intC]; done) | (repeat (first | rfl | constructor))) (by simp only [go_sem, hP, hn]; first | done | (simp; done) | (simp [intC]; done) | (repeat (first | rfl | constructor))))
  rintro q s ⟨j, rfl, j0, jq⟩
  have htl : (ins.take j.toNat).length = j.toNat := by simp; omega
  (repeat (first | refine TS.imp ?_ | refine n9 (by decide) ?_))
  refine TR.imp ?_; intro K hK; simp only [go_sem, hP, hn]; (repeat refine vc ?_); refine hK _ ?_; clear K hK
  (repeat (first | refine TS.imp ?_ | refine n9 (by decide) ?_))
  refine Tr.cond rfl (fun hb => ?_) (fun hb => ?_)
  · have hj : j < ins.length := by simpa using hb
    clear hb
    have hri := rw_ins ins j j0 hj
    have w1 : wrap64 (j + 1) = j + 1 := w64 (by omega) (by omega)
    (repeat (first | refine TS.imp ?_ | refine n9 (by decide) ?_))
    refine TR.imp ?_; intro K hK; simp only [hri, go_sem, hP, hn]
    (repeat refine vc ?_)
    refine hK _ ?_; clear K hK
    (repeat (first | refine TS.imp ?_ | refine n9 (by decide) ?_))
    refine TR.imp ?_; intro K hK; simp only [w1, go_sem, hP, hn]; (repeat refine vc ?_); refine hK _ ?_; clear K hK
    (repeat (first | refine TS.imp ?_ | refine n9 (by decide) ?_))
    refine ⟨q - 1, _, by omega, ?_, j + 1, rfl, by omega, by omega⟩
    have htk : ins.take (j + 1).toNat = ins.take j.toNat ++ [inF ins j] := by
      rw [show (j + 1).toNat = j.toNat + 1 by omega, List.take_succ_eq_append_getElem (by omega)]
      unfold inF
      simp [List.getD, show j.toNat < ins.length by omega]
    rw [htk]
    refine Le.trans (b := ⟨[(1, .d (insD ins)), (2, .d (.i .i64 w)), (3, .ptr 3 0), (7, .own 28), (8, .d (.i .i64 (j + 1)))], [(3, .box 50 n.cs), (28, .row 3 [.i .i64 0] (((ins.take j.toNat ++ [inF ins j]).map fun s => (s.length : Int)).map intC))]⟩) ?_ ?_
    · simp only [List.map_append, List.map_cons, List.map_nil]
      exact (Le.mv (by simp only [go_sem, hP, hn]; first | done | (simp; done) | (simp [intC]; done) | (repeat (first | rfl | constructor))) (by simp only [go_sem, hP, hn]; first | done | (simp; done) | (simp [intC]; done) | (repeat (first | rfl | constructor))))
    refine Le.trans (Le.ren 28 3007 (by rw [hpn] <;> rfl) rfl rfl) ?_; simp only [renT, renH, renO, renS, renL, rn, go_sem, hP, hn]
    exact Le.refl _
  have hj : j = ins.length := by have := of_decide_eq_false hb; omega
  subst hj
  clear hb
  rw [Int.toNat_natCast, List.take_length]
  refine Tr.le (Le.freeze 3007) ?_
  simp only [go_sem, hP, hn]
  (repeat (first | refine TS.imp ?_ | refine n9 (by decide) ?_))
  refine TR.imp ?_; intro K hK; simp only [go_sem, hP, hn]; (repeat refine vc ?_); refine c1 (by rw [hP, hT]; exact Windows_r Tm n.k) rfl rfl rfl trivial (by simp only [go_sem, hP, hn]; try trivial) (by simp only [go_sem, hP, hn]; try rfl) (by rw [hn]; decide) (by rfl) ?_; simp only [go_sem, hP, hn]; (repeat refine vc ?_); refine hK _ ?_; clear K hK
  (repeat (first | refine TS.imp ?_ | refine n9 (by decide) ?_))
  refine TR.imp ?_; intro K hK; simp only [go_sem, hP, hn]; (repeat refine vc ?_); refine hK _ ?_; clear K hK
  (repeat (first | refine TS.imp ?_ | refine n9 (by decide) ?_))
  refine TR.imp ?_; intro K hK; simp only [go_sem, hP, hn]; (repeat refine vc ?_); refine hK _ ?_; clear K hK
  (repeat (first | refine TS.imp ?_ | refine n9 (by decide) ?_))
  refine Tr.le (Le.nilslot 3010 10 22 [.nil] rfl (by rw [hpn] <;> rfl) rfl rfl) ?_
  simp only [go_sem, hP, hn]
  refine Tr.loop (fun q s => ∃ i : Int, s = ⟨[(1, .d (insD ins)), (2, .d (.i .i64 w)), (3, .ptr 3 0), (7, .d (.row [.i .i64 0] ((ins.map fun s => (s.length : Int)).map intC))), (9, .d (.b (rWin n.k))), (10, .own 3010), (11, .d (.i .i64 i))], [(3, .box 50 n.cs), (3010, .row 22 [.nil] (((List.range i.toNat).map fun k => out (k : Nat)).map frE))]⟩ ∧ 0 ≤ i ∧ i + q = C) C ⟨_, ?_, 0, rfl, by omega, by omega⟩ ?_
  · exact (Le.mv (by simp only [go_sem, hP, hn]; first | done | (simp; done) | (simp [intC]; done) | (repeat (first | rfl | constructor))) (by simp only [go_sem, hP, hn]; first | done | (simp; done) | (simp [intC]; done) | (repeat (first | rfl | constructor))))
  rintro q s ⟨i, rfl, i0, iq⟩
  have hlens : (ins.map fun s => (s.length : Int)).length ≤ 65536 := by rw [List.length_map]; omega
  (repeat (first | refine TS.imp ?_ | refine n9 (by decide) ?_))
  refine TR.imp ?_; intro K hK; simp only [go_sem, hP, hn]; (repeat refine vc ?_); refine c1 (by rw [hP, hT]; exact Count_r Tm n (ins.map fun s => (s.length : Int)) hlens hst) rfl rfl rfl trivial (by simp only [go_sem, hP, hn]; try trivial) (by simp only [go_sem, hP, hn]; try rfl) (by rw [hn]; decide) (by rfl) ?_; simp only [go_sem, hP, hn]; (repeat refine vc ?_); refine hK _ ?_; clear K hK
  rw [hC]
  (repeat (first | refine TS.imp ?_ | refine n9 (by decide) ?_))
  refine Tr.cond rfl (fun hb => ?_) (fun hb => ?_)
  · have hi : i < C := of_decide_eq_true hb
    clear hb
    have w1 : wrap64 (i + 1) = i + 1 := w64 (by omega) (by omega)
    have hf := hF i i0 hi
    (repeat (first | refine TS.imp ?_ | refine n9 (by decide) ?_))
    refine TR.imp ?_; intro K hK; simp only [go_sem, hP, hn]; (repeat refine vc ?_); refine hK _ ?_; clear K hK
    (repeat (first | refine TS.imp ?_ | refine n9 (by decide) ?_))
    refine TR.imp ?_; intro K hK; simp only [go_sem, hP, hn]; (repeat refine vc ?_); refine hK _ ?_; clear K hK
    (repeat (first | refine TS.imp ?_ | refine n9 (by decide) ?_))
    refine Tr.meet (fun s => s = ⟨[(1, .d (insD ins)), (2, .d (.i .i64 w)), (3, .ptr 3 0), (7, .d (.row [.i .i64 0] ((ins.map fun s => (s.length : Int)).map intC))), (9, .d (.b (rWin n.k))), (10, .own 3010), (11, .d (.i .i64 i)), (12, .d (frD (inpF n ins w i)))], [(3, .box 50 n.cs), (3010, .row 22 [.nil] (((List.range i.toNat).map fun k => out (k : Nat)).map frE))]⟩) ?_ ?_
    rotate_left
    · refine Tr.cond rfl (fun hwin => ?_) (fun hwin => ?_)
      · have hinp : inpF n ins w i = (List.range n.size.toNat).map fun j => atV (inF ins 0) (wrap64 (n.rFirst i + wrap64 ((j : Nat) * gapV n))) w := if_pos hwin
        have hri := rw_ins ins 0 (by omega) (by omega)
        have h0l : (inF ins 0).length ≤ 65536 := hil _ (inF_mem (by omega) (by omega))
        rw [hinp]
        (repeat (first | refine TS.imp ?_ | refine n9 (by decide) ?_))
        refine TR.imp ?_; intro K hK; simp only [go_sem, hP, hn]; (repeat refine vc ?_); refine hK _ ?_; clear K hK
        (repeat (first | refine TS.imp ?_ | refine n9 (by decide) ?_))
        refine Tr.le (Le.nilslot 3012 12 22 [.nil] rfl (by rw [hpn] <;> rfl) rfl rfl) ?_
        simp only [go_sem, hP, hn]
        refine Tr.loop (fun p s => ∃ (j : Int) (F : List (List Int)), s = ⟨[(1, .d (insD ins)), (2, .d (.i .i64 w)), (3, .ptr 3 0), (7, .d (.row [.i .i64 0] ((ins.map fun s => (s.length : Int)).map intC))), (9, .d (.b (rWin n.k))), (10, .own 3010), (11, .d (.i .i64 i)), (12, .own 3012), (13, .d (.i .i64 j))], [(3, .box 50 n.cs), (3010, .row 22 [.nil] (((List.range i.toNat).map fun k => out (k : Nat)).map frE)), (3012, .row 22 [.nil] (F.map frE))]⟩ ∧ 0 ≤ j ∧ j + p = n.size.toNat ∧ (0 < n.size ∨ j = 0) ∧ F = (List.range j.toNat).map fun j => atV (inF ins 0) (wrap64 (n.rFirst i + wrap64 ((j : Nat) * gapV n))) w) n.size.toNat ⟨_, ?_, 0, [], rfl, by omega, by omega, by omega, rfl⟩ ?_
        · exact (Le.mv (by simp only [go_sem, hP, hn]; first | done | (simp; done) | (simp [intC]; done) | (repeat (first | rfl | constructor))) (by simp only [go_sem, hP, hn]; first | done | (simp; done) | (simp [intC]; done) | (repeat (first | rfl | constructor))))
        rintro p s ⟨j, F, rfl, j0, jp, js, hFj⟩
        (repeat (first | refine TS.imp ?_ | refine n9 (by decide) ?_))
        refine TR.imp ?_; intro K hK; simp only [go_sem, hP, hn]; (repeat refine vc ?_); refine hK _ ?_; clear K hK
        (repeat (first | refine TS.imp ?_ | refine n9 (by decide) ?_))
        refine Tr.cond rfl (fun hc => ?_) (fun hc => ?_)
        · have hj : j < n.size := of_decide_eq_true hc
          clear hc
          have w2 : wrap64 (j + 1) = j + 1 := w64 (by omega) (by omega)
          have ca := at_c Tm (inF ins 0) (wrap64 (n.rFirst i + wrap64 (j * gapV n))) w h0l hw
          (repeat (first | refine TS.imp ?_ | refine n9 (by decide) ?_))
          (first | refine d1 (.p true 0 (.p true 1 (.p true 2 (.p true 3 (.p true 4 (.p true 5 (.p true 7 (.p true 8 (.p true 12 (.alt 6 (.alt 9 (.p false 10 (.p false 11 (.alt 13 (.alt 14 (.alt 15 (.p false 16 .nil) .nil) .nil) .nil))) .nil) .nil)))))))))) [3012] (by rw [hP]; kernel_rfl) (by kernel_rfl) (by simp only [go_sem, hP, hn]; try simp) (fun _ _ h => h) fun K hK => ?_ | refine d2 (.p true 0 (.p true 1 (.p true 2 (.p true 3 (.p true 4 (.p true 5 (.p true 7 (.p true 8 (.p true 12 (.alt 6 (.alt 9 (.p false 10 (.p false 11 (.alt 13 (.alt 14 (.alt 15 (.p false 16 .nil) .nil) .nil) .nil))) .nil) .nil)))))))))) [3012] (by rw [hP]; kernel_rfl) (by kernel_rfl) (by simp only [go_sem, hP, hn]; try simp) (fun _ _ h => h) fun K hK => ?_ | refine d4 (.p true 0 (.p true 1 (.p true 2 (.p true 3 (.p true 4 (.p true 5 (.p true 7 (.p true 8 (.p true 12 (.alt 6 (.alt 9 (.p false 10 (.p false 11 (.alt 13 (.alt 14 (.alt 15 (.p false 16 .nil) .nil) .nil) .nil))) .nil) .nil)))))))))) [3012] (by rw [hP]; kernel_rfl) (by kernel_rfl) (by simp only [go_sem, hP, hn]; try simp) (fun _ _ h => h) fun K hK => ?_); simp only [go_sem, hP, hn]
          rw [show (List.map insE ins).getD 0 [D.nil] = [frD (inF ins 0)] from hri]
          simp only [go_sem, hP, hn]
          (repeat refine vc ?_)
          refine p1 (by rw [hP, hT]; exact First_r Tm n i) rfl rfl rfl trivial (by simp only [go_sem, hP, hn]; try trivial) (by simp only [go_sem, hP, hn]; try rfl) (by rw [hn]; decide) (by rfl) ?_; simp only [go_sem, hP, hn]; (repeat refine vc ?_)
          refine p1 (by rw [hP, hT]; exact gap_c Tm n) rfl rfl rfl trivial (by simp only [go_sem, hP, hn]; try trivial) (by simp only [go_sem, hP, hn]; try rfl) (by rw [hn]; decide) (by rfl) ?_; simp only [go_sem, hP, hn]; (repeat refine vc ?_)
          refine CallP_cs (by rw [hP, hT]; exact ca) rfl rfl rfl trivial (by simp only [go_sem, hP, hn]; try trivial) (by simp only [go_sem, hP, hn]; try rfl) (by rw [hn]; decide) ?_; simp only [go_sem, hP, hn]; (repeat refine vc ?_)
          refine hK _ ?_; clear K hK
          (repeat (first | refine TS.imp ?_ | refine n9 (by decide) ?_))
          refine TR.imp ?_; intro K hK; simp only [w2, go_sem, hP, hn]; (repeat refine vc ?_); refine hK _ ?_; clear K hK
          (repeat (first | refine TS.imp ?_ | refine n9 (by decide) ?_))
          refine ⟨p - 1, _, by omega, ?_, j + 1, F ++ [atV (inF ins 0) (wrap64 (n.rFirst i + wrap64 (j * gapV n))) w], rfl, by omega, by omega, .inl (by omega), ?_⟩
          · refine Le.trans (b := ⟨[(1, .d (insD ins)), (2, .d (.i .i64 w)), (3, .ptr 3 0), (7, .d (.row [.i .i64 0] ((ins.map fun s => (s.length : Int)).map intC))), (9, .d (.b (rWin n.k))), (10, .own 3010), (11, .d (.i .i64 i)), (12, .own 61), (13, .d (.i .i64 (j + 1)))], [(3, .box 50 n.cs), (3010, .row 22 [.nil] (((List.range i.toNat).map fun k => out (k : Nat)).map frE)), (61, .row 22 [.nil] ((F ++ [atV (inF ins 0) (wrap64 (n.rFirst i + wrap64 (j * gapV n))) w]).map frE))]⟩) ?_ ?_
            · rw [List.map_append (l₁ := F)]
              exact (Le.mv (by simp only [go_sem, hP, hn]; first | done | (simp; done) | (simp [intC]; done) | (repeat (first | rfl | constructor))) (by simp only [go_sem, hP, hn]; first | done | (simp; done) | (simp [intC]; done) | (repeat (first | rfl | constructor))))
            refine Le.trans (Le.ren 61 3012 (by rw [hpn] <;> rfl) rfl rfl) ?_; simp only [renT, renH, renO, renS, renL, rn, go_sem, hP, hn]
            exact Le.refl _
          · rw [hFj, show (j + 1).toNat = j.toNat + 1 by omega, List.range_succ, List.map_append, List.map_cons, List.map_nil, Int.toNat_of_nonneg j0]
        · have hj : j.toNat = n.size.toNat := by have := of_decide_eq_false hc; omega
          rw [hj] at hFj
          rw [← hFj]
          clear hc
          (repeat (first | refine TS.imp ?_ | refine n9 (by decide) ?_))
          refine ⟨_, Le.trans (Le.freeze 3012) ?_, rfl⟩
          simp only [go_sem, hP, hn]
          exact (Le.mv (by simp only [go_sem, hP, hn]; first | done | (simp; done) | (simp [intC]; done) | (repeat (first | rfl | constructor))) (by simp only [go_sem, hP, hn]; first | done | (simp; done) | (simp [intC]; done) | (repeat (first | rfl | constructor))))
      · (repeat (first | refine TS.imp ?_ | refine n9 (by decide) ?_))
        refine TR.imp ?_; intro K hK; simp only [go_sem, hP, hn]; (repeat refine vc ?_); refine hK _ ?_; clear K hK
        (repeat (first | refine TS.imp ?_ | refine n9 (by decide) ?_))
        refine Tr.cond rfl (fun h5 => ?_) (fun h5 => ?_)
        · have hk5 : n.k = 5 := by simpa using h5
          have hinp : inpF n ins w i = inF ins 0 := by unfold inpF; rw [hwin, if_neg (by decide), if_pos hk5]
          have hri := rw_ins ins 0 (by omega) (by omega)
          rw [hinp]
          (repeat (first | refine TS.imp ?_ | refine n9 (by decide) ?_))
          refine TR.imp ?_; intro K hK; simp only [go_sem, hP, hn]
          rw [show (List.map insE ins).getD 0 [D.nil] = [frD (inF ins 0)] from hri]
          simp only [go_sem, hP, hn]
          (repeat refine vc ?_)
          refine hK _ ?_; clear K hK
          (repeat (first | refine TS.imp ?_ | refine n9 (by decide) ?_))
          exact ⟨_, (Le.mv (by simp only [go_sem, hP, hn]; first | done | (simp; done) | (simp [intC]; done) | (repeat (first | rfl | constructor))) (by simp only [go_sem, hP, hn]; first | done | (simp; done) | (simp [intC]; done) | (repeat (first | rfl | constructor)))), rfl⟩
        · have hk5 : n.k ≠ 5 := by simpa using h5
          have hinp : inpF n ins w i = ins.map fun s => fr s i := by unfold inpF; rw [hwin, if_neg (by decide), if_neg hk5]
          have hix := hix hwin hk5
          rw [hinp]
          (repeat (first | refine TS.imp ?_ | refine n9 (by decide) ?_))
          refine TR.imp ?_; intro K hK; simp only [go_sem, hP, hn]; (repeat refine vc ?_); refine hK _ ?_; clear K hK
          (repeat (first | refine TS.imp ?_ | refine n9 (by decide) ?_))
          refine Tr.le (Le.nilslot 3012 12 22 [.nil] rfl (by rw [hpn] <;> rfl) rfl rfl) ?_
          simp only [go_sem, hP, hn]
          refine Tr.loop (fun p s => ∃ (j : Int) (F : List (List Int)), s = ⟨[(1, .d (insD ins)), (2, .d (.i .i64 w)), (3, .ptr 3 0), (7, .d (.row [.i .i64 0] ((ins.map fun s => (s.length : Int)).map intC))), (9, .d (.b (rWin n.k))), (10, .own 3010), (11, .d (.i .i64 i)), (12, .own 3012), (14, .d (.i .i64 j))], [(3, .box 50 n.cs), (3010, .row 22 [.nil] (((List.range i.toNat).map fun k => out (k : Nat)).map frE)), (3012, .row 22 [.nil] (F.map frE))]⟩ ∧ 0 ≤ j ∧ j + p = ins.length ∧ F = (ins.take j.toNat).map fun s => fr s i) ins.length ⟨_, ?_, 0, [], rfl, by omega, by omega, rfl⟩ ?_
          · exact (Le.mv (by simp only [go_sem, hP, hn]; first | done | (simp; done) | (simp [intC]; done) | (repeat (first | rfl | constructor))) (by simp only [go_sem, hP, hn]; first | done | (simp; done) | (simp [intC]; done) | (repeat (first | rfl | constructor))))
          rintro p s ⟨j, F, rfl, j0, jp, hFj⟩
          (repeat (first | refine TS.imp ?_ | refine n9 (by decide) ?_))
          refine TR.imp ?_; intro K hK; simp only [go_sem, hP, hn]; (repeat refine vc ?_); refine hK _ ?_; clear K hK
          (repeat (first | refine TS.imp ?_ | refine n9 (by decide) ?_))
          refine Tr.cond rfl (fun hc => ?_) (fun hc => ?_)
          · have hj : j < ins.length := of_decide_eq_true hc
            clear hc
            have w2 : wrap64 (j + 1) = j + 1 := w64 (by omega) (by omega)
            have hri := rw_ins ins j j0 hj
            have hil2 := hix _ (inF_mem j0 hj)
            have hrf := rw_fr (inF ins j) i i0 (by omega)
            have hi2 : i < (inF ins j).length := by omega
            (repeat (first | refine TS.imp ?_ | refine n9 (by decide) ?_))
            refine TR.imp ?_; intro K hK; simp only [hri, hrf, go_sem, hP, hn]
            (repeat refine vc ?_)
            refine hK _ ?_; clear K hK
            (repeat (first | refine TS.imp ?_ | refine n9 (by decide) ?_))
            refine TR.imp ?_; intro K hK; simp only [w2, go_sem, hP, hn]; (repeat refine vc ?_); refine hK _ ?_; clear K hK
            (repeat (first | refine TS.imp ?_ | refine n9 (by decide) ?_))
            refine ⟨p - 1, _, by omega, ?_, j + 1, F ++ [fr (inF ins j) i], rfl, by omega, by omega, ?_⟩
            · refine Le.trans (b := ⟨[(1, .d (insD ins)), (2, .d (.i .i64 w)), (3, .ptr 3 0), (7, .d (.row [.i .i64 0] ((ins.map fun s => (s.length : Int)).map intC))), (9, .d (.b (rWin n.k))), (10, .own 3010), (11, .d (.i .i64 i)), (12, .own 83), (14, .d (.i .i64 (j + 1)))], [(3, .box 50 n.cs), (3010, .row 22 [.nil] (((List.range i.toNat).map fun k => out (k : Nat)).map frE)), (83, .row 22 [.nil] ((F ++ [fr (inF ins j) i]).map frE))]⟩) ?_ ?_
              · rw [List.map_append (l₁ := F)]
                exact (Le.mv (by simp only [go_sem, hP, hn]; first | done | (simp; done) | (simp [intC]; done) | (repeat (first | rfl | constructor))) (by simp only [go_sem, hP, hn]; first | done | (simp; done) | (simp [intC]; done) | (repeat (first | rfl | constructor))))
              refine Le.trans (Le.ren 83 3012 (by rw [hpn] <;> rfl) rfl rfl) ?_; simp only [renT, renH, renO, renS, renL, rn, go_sem, hP, hn]
              exact Le.refl _
            · have htk : ins.take (j + 1).toNat = ins.take j.toNat ++ [inF ins j] := by
                rw [show (j + 1).toNat = j.toNat + 1 by omega, List.take_succ_eq_append_getElem (by omega)]
                unfold inF
                simp [List.getD, show j.toNat < ins.length by omega]
              rw [hFj, htk, List.map_append, List.map_cons, List.map_nil]
          · have hj : j = ins.length := by have := of_decide_eq_false hc; omega
            subst hj
            rw [Int.toNat_natCast, List.take_length] at hFj
            rw [← hFj]
            clear hc
            (repeat (first | refine TS.imp ?_ | refine n9 (by decide) ?_))
            refine ⟨_, Le.trans (Le.freeze 3012) ?_, rfl⟩
            simp only [go_sem, hP, hn]
            exact (Le.mv (by simp only [go_sem, hP, hn]; first | done | (simp; done) | (simp [intC]; done) | (repeat (first | rfl | constructor))) (by simp only [go_sem, hP, hn]; first | done | (simp; done) | (simp [intC]; done) | (repeat (first | rfl | constructor))))
    rintro s rfl
    (repeat (first | refine TS.imp ?_ | refine n9 (by decide) ?_))
    refine TR.imp ?_; intro K hK; simp only [go_sem, hP, hn]
    (repeat refine vc ?_)
    refine CallN_cs (Hi := [] ) (by rw [hP, hT]; exact  hf) rfl rfl rfl trivial (by simp only [go_sem, hP, hn]; try trivial) (by simp only [go_sem, hP, hn]; try rfl) (by simp only [inH, go_sem, hP, hn]; try simp) (by rw [hn]; decide) ?_; simp only [go_sem, hP, hn]; (repeat refine vc ?_)
    refine hK _ ?_; clear K hK
    (repeat (first | refine TS.imp ?_ | refine n9 (by decide) ?_))
    refine TR.imp ?_; intro K hK; simp only [w1, go_sem, hP, hn]; (repeat refine vc ?_); refine hK _ ?_; clear K hK
    (repeat (first | refine TS.imp ?_ | refine n9 (by decide) ?_))
    refine ⟨q - 1, _, by omega, ?_, i + 1, rfl, by omega, by omega⟩
    have hrg : (List.range (i + 1).toNat).map (fun k => out (k : Nat)) = (List.range i.toNat).map (fun k => out (k : Nat)) ++ [out i] := by
      rw [show (i + 1).toNat = i.toNat + 1 by omega, List.range_succ, List.map_append, List.map_cons, List.map_nil, Int.toNat_of_nonneg i0]
    rw [hrg]
    refine Le.trans (b := ⟨[(1, .d (insD ins)), (2, .d (.i .i64 w)), (3, .ptr 3 0), (7, .d (.row [.i .i64 0] ((ins.map fun s => (s.length : Int)).map intC))), (9, .d (.b (rWin n.k))), (10, .own 89), (11, .d (.i .i64 (i + 1)))], [(3, .box 50 n.cs), (89, .row 22 [.nil] ((((List.range i.toNat).map fun k => out (k : Nat)) ++ [out i]).map frE))]⟩) ?_ ?_
    · rw [List.map_append (l₂ := [out i])]
      exact (Le.mv (by simp only [go_sem, hP, hn]; first | done | (simp; done) | (simp [intC]; done) | (repeat (first | rfl | constructor))) (by simp only [go_sem, hP, hn]; first | done | (simp; done) | (simp [intC]; done) | (repeat (first | rfl | constructor))))
    refine Le.trans (Le.ren 89 3010 (by rw [hpn] <;> rfl) rfl rfl) ?_; simp only [renT, renH, renO, renS, renL, rn, go_sem, hP, hn]
    exact Le.refl _
  have hi : i = C := by have := of_decide_eq_false hb; omega
  subst hi
  clear hb
  (repeat (first | refine TS.imp ?_ | refine n9 (by decide) ?_))
  refine TR.imp ?_; intro K hK; simp only [go_sem, hP, hn]; (repeat refine vc ?_); refine hK _ ?_; clear K hK
  (repeat (first | refine TS.imp ?_ | refine n9 (by decide) ?_))
  simp only [RetG, go_sem]; (repeat with_reducible refine vc ?_)
end
end Go.Proofs.YtgomeljgbjgbkaaDoor.Aw
namespace Go.Proofs.YtgomeljgbjgbkaaDoor.Aw
open Go.RowKit
/-! whichever node, and frames: are they as they should be? -/
def wdsV (n : Nd) (fs : List (List Int)) : List Int := if rMany n.k = true then fs.map (fun f => (f.length : Int)) else [((fr fs 0).length : Int)]
def manyV (n : Nd) (fs : List (List Int)) : Int := if rWin n.k = true then n.size else if (n.k == 5) = true then fs.length else if rMany n.k = true then n.inn.length else 1
def frOk (w f : List Int) : Bool := !((w.length : Int) == 1 && (f.length : Int) != rd w 0) && f.all fits32
def rightV (n : Nd) (fs : List (List Int)) : Bool := !((fs.length : Int) == 0) && !((fs.length : Int) != manyV n fs || n.rchk (wdsV n fs) != 0) && fs.all (frOk (wdsV n fs))
def mayC (n : Nd) (m : Int) : Bool := rWin n.k && m != n.size || n.k == 5 && decide (m < 1) || rMany n.k && m != (n.inn.length : Int) || !rWin n.k && !rMany n.k && n.k != 5 && m != 1
def frOk2 (n : Nd) (w0 : Int) (i : Int) (f : List Int) : Bool := f.all fits32 && (i == 0 || rMany n.k || !((f.length : Int) != w0))
def frsOk (n : Nd) (w0 : Int) : Int → List (List Int) → Bool
  | _, [] => true
  | i, f :: fs => frOk2 n w0 i f && frsOk n w0 (i + 1) fs
def mayV (n : Nd) (fs : List (List Int)) : Bool := !(mayC n fs.length) && frsOk n ((fr fs 0).length : Int) 0 fs && (!((fs.length : Int) == 0) && n.rchk (wdsV n fs) == 0)
theorem frsOk_all (n : Nd) (w0 : Int) : ∀ (fs : List (List Int)) (i : Int), 0 < i → frsOk n w0 i fs = fs.all fun f => f.all fits32 && (rMany n.k || !((f.length : Int) != w0))
  | [], i, _ => rfl
  | f :: fs, i, hi => by
    have : (i == 0) = false := by simp; omega
    rw [frsOk, frsOk_all n w0 fs (i + 1) (by omega), List.all_cons]
    unfold frOk2
    rw [this, Bool.false_or]
theorem rMany_chk {n : Nd} {l : List Int} (h : n.rchk l = 0) (hm : rMany n.k = true) : 2 ≤ l.length ∧ l.length ≤ 4 := by
  obtain ⟨_, h7, _⟩ := rchk_unpack h
  unfold Nd.r7 at h7
  rw [hm] at h7
  simp at h7
  omega
theorem may_right (n : Nd) (fs : List (List Int)) : mayV n fs = rightV n fs := by
  unfold mayV rightV
  cases fs with
  | nil => simp
  | cons f fs =>
    have hl : (((f :: fs).length : Int) == 0) = false := by simp; omega
    have hf0 : fr (f :: fs) 0 = f := rfl
    rw [hl, Bool.not_false, Bool.true_and, Bool.true_and, hf0]
    have hC : mayC n ((f :: fs).length : Nat) = (((f :: fs).length : Int) != manyV n (f :: fs)) := by
      have h1 : decide ((((f :: fs).length : Nat) : Int) < 1) = false := by simp; omega
      unfold mayC manyV
      rw [h1]
      cases hw : rWin n.k with
      | true =>
        have hm : rMany n.k = false := by
          unfold rWin at hw; unfold rMany
          simp only [Bool.or_eq_true, beq_iff_eq] at hw
          simp only [Bool.or_eq_false_iff, beq_eq_false_iff_ne]
          omega
        rw [hm]; simp
      | false =>
        cases h5 : (n.k == 5) with
        | true =>
          have hm : rMany n.k = false := by
            have : n.k = 5 := by simpa using h5
            rw [this]; rfl
          have : (n.k != 5) = false := by simpa using h5
          rw [hm, this]; simp
        | false =>
          have : (n.k != 5) = true := by simpa using h5
          rw [this]
          cases hm : rMany n.k <;> simp
    rw [hC]
    cases hB : (((f :: fs).length : Int) != manyV n (f :: fs)) with
    | true => simp
    | false =>
      cases hK : (n.rchk (wdsV n (f :: fs)) == 0) with
      | false =>
        have : (n.rchk (wdsV n (f :: fs)) != 0) = true := by simpa using hK
        rw [this]; simp
      | true =>
        have hk0 : n.rchk (wdsV n (f :: fs)) = 0 := by simpa using hK
        have : (n.rchk (wdsV n (f :: fs)) != 0) = false := by simpa using hK
        rw [this]
        simp only [Bool.not_false, Bool.true_and, Bool.and_true, Bool.or_false]
        rw [frsOk, List.all_cons, frsOk_all n _ fs (0 + 1) (by decide)]
        unfold frOk2 frOk
        cases hm : rMany n.k with
        | true =>
          have hw := rMany_chk hk0 hm
          have : (((wdsV n (f :: fs)).length : Int) == 1) = false := by simp; omega
          rw [this]
          simp
        | false =>
          have hw : wdsV n (f :: fs) = [(f.length : Int)] := by unfold wdsV; rw [hm, hf0]; rfl
          rw [hw]
          have e : rd [(f.length : Int)] 0 = f.length := rfl
          rw [e]
          simp only [List.length_singleton, show (((1 : Nat) : Int) == 1) = true from rfl, Bool.true_and, Bool.false_or, bne_self_eq_false, Bool.not_false, Bool.and_true, BEq.rfl, Bool.true_or]
          congr 1
          congr 1
          funext g
          rw [Bool.and_comm]
set_option maxRecDepth 100000
/-! what frames that are as they should be have -/
structure FOk (n : Nd) (fs : List (List Int)) (w : Nat) : Prop where
  m0 : 1 ≤ fs.length ∧ fs.length ≤ 4096
  w0 : 1 ≤ w ∧ w ≤ 16
  f0 : (fr fs 0).length = w
  le : ∀ f ∈ fs, f.length ≤ 16
  num : ∀ f ∈ fs, ∀ x ∈ f, in32 x
  kok : n.k ≠ 8 → KOk n fs w
  join : n.k = 8 → fs.length ≤ 4
  post : 0 ≤ n.post ∧ n.post ≤ 3
  il : n.inn.length ≤ 4
  wl : n.ws.length ≤ 4096
  bl : n.bs.length ≤ 4096
theorem chkL7 {n : Nd} (h7 : n.k = 7) (v : Int) : ∀ (l : List Int) (s : Int), n.chkL v s l = 0 → ∀ x ∈ l, x = v
  | [], _, _, x, hx => by cases hx
  | y :: l, s, h, x, hx => by
    unfold Nd.chkL at h
    rw [h7] at h
    split at h
    · cases h
    · rename_i hc
      have hy : y = v := by simpa using hc
      rcases List.mem_cons.1 hx with rfl | hx
      · exact hy
      · exact chkL7 h7 v l _ h x hx
theorem ws_le {n : Nd} {v : Int} (hv : 1 ≤ v ∧ v ≤ 16) (he : n.else0 = true) (hs : n.sized v = true) : n.ws.length ≤ 4096 ∧ n.bs.length ≤ 4096 := by
  cases hw : rWeighs n.k with
  | false =>
    have e10 : n.e10 = false := by
      unfold Nd.else0 at he
      cases e : n.e10 with
      | false => rfl
      | true => rw [e] at he; simp at he
    unfold Nd.e10 at e10
    rw [hw] at e10
    simp at e10
    rw [e10.1, e10.2]; simp
  | true =>
    unfold Nd.sized at hs
    rw [if_pos hw] at hs
    have hc : n.k = 1 ∨ n.k = 2 ∨ n.k = 6 := by unfold rWeighs at hw; simpa [or_assoc] using hw
    have h4 : n.s4 = false := by
      cases e : n.s4 with
      | false => rfl
      | true => rw [e] at hs; simp at hs
    have h13 : n.s13 = false := by
      cases e : n.s13 with
      | false => rfl
      | true => rw [e] at hs; simp at hs
    have h21 : n.s21 v (if (n.k == 2) = true then v else n.wid) = false := by
      cases e : n.s21 v (if (n.k == 2) = true then v else n.wid) with
      | false => rfl
      | true => rw [e] at hs; simp at hs
    unfold Nd.s21 at h21
    simp only [Bool.or_eq_false_iff, bne_eq_false_iff_eq] at h21
    obtain ⟨⟨⟨hW, hB⟩, _⟩, _⟩ := h21
    have hsz : rFour n.k = true → 1 ≤ n.size ∧ n.size ≤ 8 := by
      intro e; unfold Nd.s4 at h4; rw [e] at h4
      simp at h4
      exact inB_iff.mp h4
    have hwd : (n.k = 1 ∨ n.k = 6) → 1 ≤ n.wid ∧ n.wid ≤ 16 := by
      intro e; unfold Nd.s13 at h13
      have : (n.k == 1 || n.k == 6) = true := by simpa using e
      rw [this] at h13; simp at h13
      exact inB_iff.mp h13
    unfold Nd.rWeights at hW
    rcases hc with hk | hk | hk
    · have s1 := hsz (by rw [hk]; rfl)
      have d1 := hwd (.inl hk)
      rw [hk] at hW hB
      simp at hW hB
      have m1 := mul_le n.wid 16 n.size 8 (by omega) d1.2 (by omega) s1.2
      have m2 := mul_le (n.wid * n.size) 128 v 16 m1.1 m1.2 (by omega) (by omega)
      rw [w64 (x := n.wid * n.size) (by omega) (by omega), w64 (by omega) (by omega)] at hW
      omega
    · have s1 := hsz (by rw [hk]; rfl)
      rw [hk] at hW hB
      simp at hW hB
      have m1 := mul_le v 16 n.size 8 (by omega) (by omega) (by omega) s1.2
      rw [w64 (by omega) (by omega)] at hW
      omega
    · have d1 := hwd (.inr hk)
      rw [hk] at hW hB
      simp at hW hB
      have m1 := mul_le n.wid 16 v 16 (by omega) d1.2 (by omega) (by omega)
      rw [w64 (by omega) (by omega)] at hW
      omega
theorem win_size {n : Nd} {v : Int} (hs : n.sized v = true) (hw : rWin n.k = true) : 1 ≤ n.size ∧ n.size ≤ 8 := by
  have h4 : n.s4 = false := by
    unfold Nd.sized at hs
    cases e : n.s4 with
    | false => rfl
    | true => rw [e] at hs; simp at hs
  unfold Nd.s4 at h4
  have : (rFour n.k || n.k == 12) = true := hw
  rw [this] at h4
  exact inB_iff.1 (show inB n.size 1 8 = true by simpa using h4)
theorem right_fok {n : Nd} {fs : List (List Int)} (hm : fs.length ≤ 4096) (h : rightV n fs = true) : FOk n fs (fr fs 0).length := by
  unfold rightV at h
  simp only [Bool.and_eq_true, Bool.not_eq_true', Bool.or_eq_false_iff, bne_eq_false_iff_eq, beq_eq_false_iff_ne] at h
  obtain ⟨⟨h0, h1, hk⟩, hall⟩ := h
  have hpos : 1 ≤ fs.length := by omega
  have hall := List.all_eq_true.1 hall
  have hf0m : fr fs 0 ∈ fs := fr_mem (by decide) (by omega)
  obtain ⟨c1, c7, c9, he, hs, hL⟩ := rchk_unpack hk
  have hin := chk1_all c1
  have hlen : (wdsV n fs).length = n.inn.length := by
    unfold Nd.chk1 at c1
    simp only [Bool.or_eq_false_iff, bne_eq_false_iff_eq] at c1
    omega
  have hnum : ∀ f ∈ fs, ∀ x ∈ f, in32 x := fun f hf x hx => by
    have := hall f hf
    unfold frOk at this
    simp only [Bool.and_eq_true] at this
    exact (fits32_iff x).1 (List.all_eq_true.1 this.2 x hx)
  have hpost : 0 ≤ n.post ∧ n.post ≤ 3 := by
    unfold Nd.r9 at c9
    simp only [Bool.or_eq_false_iff, decide_eq_false_iff_not] at c9
    omega
  cases hq : rMany n.k with
  | false =>
    have hwd : wdsV n fs = [((fr fs 0).length : Int)] := by unfold wdsV; rw [hq]; rfl
    rw [hwd] at hin hlen hs hL hk
    have hw0 := hin _ (List.mem_singleton.2 rfl)
    have hs : n.sized ((fr fs 0).length : Int) = true := hs
    have hfl : ∀ f ∈ fs, f.length = (fr fs 0).length := fun f hf => by
      have := hall f hf
      unfold frOk at this
      rw [hwd] at this
      simp [rd] at this
      have := this.1
      omega
    have hil : n.inn.length = 1 := by rw [← hlen]; rfl
    obtain ⟨hwl, hbl⟩ := ws_le hw0 he hs
    have k8 : n.k ≠ 8 := fun e => by rw [e] at hq; cases hq
    refine ⟨⟨hpos, hm⟩, by omega, rfl, fun f hf => by rw [hfl f hf]; omega, hnum, fun _ => ?_, fun e => absurd e k8, hpost, by omega, hwl, hbl⟩
    refine ⟨by omega, ⟨hpos, hm⟩, hfl, hnum, fun e => ?_, fun e => ?_, fun e1 e2 e3 => ?_, by rw [hil]; exact hk, by omega, hwl, hbl⟩
    · rw [h1]; unfold manyV; rw [e]; rfl
    · rw [hq] at e; cases e
    · have : (fs.length : Int) = 1 := by
        rw [h1]; unfold manyV
        rw [e1, hq, if_neg (by decide), if_neg (by simpa using e3), if_neg (by decide)]
      omega
  | true =>
    have hwd : wdsV n fs = fs.map (fun f => (f.length : Int)) := by unfold wdsV; rw [hq]; rfl
    have h24 := rMany_chk hk hq
    rw [hwd] at hin hlen hs hL hk h24
    simp only [List.length_map] at hlen h24
    have hle : ∀ f ∈ fs, 1 ≤ f.length ∧ f.length ≤ 16 := fun f hf => by
      have := hin _ (List.mem_map.2 ⟨f, hf, rfl⟩)
      omega
    have h0e : rd (fs.map (fun f => (f.length : Int))) 0 = (fr fs 0).length := by
      have hk0 : (0 : Int).toNat < fs.length := by simp; omega
      simp [rd, fr, List.getD]
      cases fs with
      | nil => simp at hpos
      | cons a b => rfl
    rw [h0e] at hs hL
    have hw0 := hle _ hf0m
    obtain ⟨hwl, hbl⟩ := ws_le (v := ((fr fs 0).length : Int)) (by omega) he hs
    refine ⟨⟨hpos, hm⟩, hw0, rfl, fun f hf => (hle f hf).2, hnum, fun k8 => ?_, fun _ => h24.2, hpost, by omega, hwl, hbl⟩
    have k7 : n.k = 7 := by
      unfold rMany at hq
      simp only [Bool.or_eq_true, beq_iff_eq] at hq
      omega
    have hsame : ∀ f ∈ fs, f.length = (fr fs 0).length := fun f hf => by
      have := chkL7 k7 _ _ _ hL _ (List.mem_map.2 ⟨f, hf, rfl⟩)
      omega
    have hrep : fs.map (fun f => (f.length : Int)) = List.replicate n.inn.length ((fr fs 0).length : Int) := by
      rw [← hlen, List.eq_replicate_iff]
      exact ⟨by simp, fun b hb => by obtain ⟨f, hf, rfl⟩ := List.mem_map.1 hb; rw [hsame f hf]⟩
    refine ⟨hw0, ⟨hpos, hm⟩, hsame, hnum, fun e => ?_, fun _ => hlen, fun _ e => ?_, by rw [← hrep]; exact hk, by omega, hwl, hbl⟩
    · rw [k7] at e; cases e
    · rw [hq] at e; cases e
/-! the plain law of kernels -/
theorem scale32 (x m s : Int) : in32 (scaleV x m s) := by
  unfold scaleV
  split
  · exact clamp32 _
  · decide
theorem pst32 (n : Nd) (x : Int) (hl : -2147483648 ≤ n.low) (hm : n.low ≤ n.high) (hh : n.high ≤ 2147483647) : in32 (n.pst x) := by
  unfold Nd.pst
  split
  · have := clampV_in (x := if (Go.bits .and .i64 n.post 1 != 0) = true then scaleV (clampV x (-2147483648) 2147483647) n.mult n.shift else clampV x (-2147483648) 2147483647) hm
    unfold in32; omega
  · split
    · exact scale32 _ _ _
    · exact clamp32 _
theorem mostV_b (xs : List Int) (h : 1 ≤ xs.length) : 0 ≤ mostV xs ∧ mostV xs < xs.length := mostN_b xs h _ (Nat.le_refl _)
/-- another Post, another Bias, and what they need -/
def Nd.wq (n : Nd) (bs : List Int) (mu sh lo hi po : Int) : Nd := { n with bs := bs, mult := mu, shift := sh, low := lo, high := hi, post := po }
def Nd.wp (n : Nd) (mu sh lo hi po : Int) : Nd := n.wq n.bs mu sh lo hi po
theorem rchk_postq {n : Nd} {l bs : List Int} {mu sh lo hi po : Int} (h : n.rchk l = 0) (hw : rWeighs n.k = true) (hbl : bs.length = n.bs.length) (h21 : ∀ v m, n.s21 v m = false → (n.wq bs mu sh lo hi po).s21 v m = false) (h9 : 0 ≤ po ∧ po ≤ 3) (h12 : (n.wq bs mu sh lo hi po).e12 = true) (h27 : (n.wq bs mu sh lo hi po).s27 = true) : (n.wq bs mu sh lo hi po).rchk l = 0 := by
  obtain ⟨c1, c7, c9, he, hs, hL⟩ := rchk_unpack h
  have d1 : (n.wq bs mu sh lo hi po).chk1 l = false := c1
  have d7 : (n.wq bs mu sh lo hi po).r7 l = false := c7
  have d9 : (n.wq bs mu sh lo hi po).r9 = false := by
    show (decide (po < 0) || decide (3 < po) || po != 0 && !rWeighs n.k) = false
    rw [hw, decide_eq_false (by omega), decide_eq_false (by omega)]; simp
  have de : (n.wq bs mu sh lo hi po).else0 = true := by
    show (if n.e6 = true then false else if n.e8 = true then false else if (n.wq bs mu sh lo hi po).e10 = true then false else (n.wq bs mu sh lo hi po).e12) = true
    unfold Nd.else0 at he
    rw [h12]
    split at he
    · cases he
    · rename_i q1
      rw [if_neg q1]
      split at he
      · cases he
      · rename_i q2
        rw [if_neg q2]
        split at he
        · cases he
        · rename_i q3
          rw [if_neg (by rw [show (n.wq bs mu sh lo hi po).e10 = n.e10 by unfold Nd.e10; rw [show (n.wq bs mu sh lo hi po).bs.length = n.bs.length from hbl]; rfl]; exact q3)]
  have ds : (n.wq bs mu sh lo hi po).sized (rd l 0) = true := by
    show (if n.s4 = true then false else if n.s8 = true then false else if n.s10 = true then false else if n.s13 = true then false else
      if rWeighs n.k = true then (if ((n.wq bs mu sh lo hi po).s21 (rd l 0) (if (n.k == 2) = true then rd l 0 else n.wid)) = true then false else (n.wq bs mu sh lo hi po).s27) else (n.wq bs mu sh lo hi po).s27) = true
    unfold Nd.sized at hs
    rw [h27]
    rw [if_pos hw] at hs ⊢
    split at hs
    · cases hs
    · rename_i q1
      rw [if_neg q1]
      split at hs
      · cases hs
      · rename_i q2
        rw [if_neg q2]
        split at hs
        · cases hs
        · rename_i q3
          rw [if_neg q3]
          split at hs
          · cases hs
          · rename_i q4
            rw [if_neg q4]
            generalize (if (n.k == 2) = true then rd l 0 else n.wid) = mm at hs ⊢
            split at hs
            · cases hs
            · rename_i q5
              rw [if_neg (by rw [h21 _ _ (by simpa using q5)]; decide)]
  have dL : (n.wq bs mu sh lo hi po).chkL (rd l 0) 0 l = 0 := by
    have : ∀ (v s : Int) (l : List Int), (n.wq bs mu sh lo hi po).chkL v s l = n.chkL v s l := by
      intro v s l
      induction l generalizing s with
      | nil => rfl
      | cons x l ih => simp only [Nd.chkL]; rw [ih]; rfl
    exact (this _ _ _).trans hL
  unfold Nd.rchk
  rw [d1, d7, d9, de, ds, dL]
  rfl
theorem rchk_post {n : Nd} {l : List Int} {mu sh lo hi po : Int} (h : n.rchk l = 0) (hw : rWeighs n.k = true) (h9 : 0 ≤ po ∧ po ≤ 3) (h12 : (n.wp mu sh lo hi po).e12 = true) (h27 : (n.wp mu sh lo hi po).s27 = true) : (n.wp mu sh lo hi po).rchk l = 0 :=
  rchk_postq h hw rfl (fun _ _ h => h) h9 h12 h27
theorem KOk.wp {n : Nd} {fs : List (List Int)} {w : Nat} {mu sh lo hi po : Int} (h : KOk n fs w) (hw : rWeighs n.k = true) (h9 : 0 ≤ po ∧ po ≤ 3) (h12 : (n.wp mu sh lo hi po).e12 = true) (h27 : (n.wp mu sh lo hi po).s27 = true) : KOk (n.wp mu sh lo hi po) fs w :=
  ⟨h.w0, h.m0, h.len, h.num, h.win, h.many, h.one, rchk_post h.chk hw h9 h12 h27, h.il, h.wl, h.bl⟩
theorem weighed_num {n : Nd} {fs : List (List Int)} {w : Nat} (hl : -2147483648 ≤ n.low) (hm : n.low ≤ n.high) (hh : n.high ≤ 2147483647) : ∀ b, ∀ x ∈ weighedN n fs w b, in32 x
  | 0, x, hx => by simp [weighedN] at hx
  | b + 1, x, hx => by
    unfold weighedN at hx
    rcases List.mem_append.1 hx with h | h
    · exact weighed_num hl hm hh b x h
    · obtain rfl := List.mem_singleton.1 h; exact pst32 n _ hl hm hh
theorem s27_iff {n : Nd} (h : n.s27 = true) : (0 ≤ n.mult ∧ n.mult ≤ 32767) ∧ (0 ≤ n.shift ∧ n.shift ≤ 30) ∧ -2147483648 ≤ n.low ∧ n.low ≤ n.high ∧ n.high ≤ 2147483647 := by
  unfold Nd.s27 at h
  simp only [Bool.and_eq_true, inB_iff, decide_eq_true_eq] at h
  omega
theorem KOk.s27 {n : Nd} {fs : List (List Int)} {w : Nat} (h : KOk n fs w) : n.s27 = true := by
  have hs := h.sized
  unfold Nd.sized at hs
  repeat' (split at hs <;> try (cases hs; done))
  all_goals exact hs
end Go.Proofs.YtgomeljgbjgbkaaDoor.Aw
namespace Go.Proofs.YtgomeljgbjgbkaaDoor.Aw
open Go.RowKit
attribute [local go_sem_proc] Nat.reduceAdd Nat.reduceMul Nat.reduceSub Nat.reduceEqDiff Nat.reduceLeDiff Nat.reduceBEq Nat.reduceBNe Int.reduceToNat reduceIte reduceCtorEq
attribute [local go_sem] initT SQ so pe he ev lk constS stp stc gdS nth pickS pickD loadS cellsAt okAt fieldAddrS fieldS partS indexAddrS indexS extractS binS binD binI isShift unS convS lenS sliceS bndI bndC mmS mm2 mmD builtS fillS okCells cellsS splS solid aliveL alive okS boxS allocS makeS bsliceS elemsOf dcells stF storeS frzA frz frzT frzS frzL frzO frzH appS srcS appVC killS killT killC killH killO k1 k2 S.has S.hasL St.add St.upd dropH lh cond_or cond_and rw_intC rw_intC0 rw_set rw_app rw_apps rw_rep rw_slice wr64 cond_true cond_false true_and and_true List.map_cons List.map_nil List.length_cons List.length_nil List.drop_succ_cons List.drop_zero List.take_succ_cons List.take_zero List.nil_append List.cons_append List.getD_cons_zero List.getD_cons_succ List.headD_cons List.length_map ite_true ite_false if_true if_false Bool.false_eq_true and_self forall_const List.drop_nil List.take_nil List.append_nil Option.map_some Option.map_none List.mapM_cons List.mapM_nil Option.bind_eq_bind Option.bind_some Option.pure_def knows resL resV oneS freshS freshL cv cvL stpL stcL or_true true_or or_false false_or List.all_cons List.all_nil Bool.and_self Bool.or_self Bool.true_and Bool.and_true Bool.or_false Bool.false_or implies_true flatD allm_nil allm_cons List.getElem?_cons_zero List.getElem?_cons_succ Nd.cs Nd.ds ml mln Option.isSome_some Option.isSome_none eq_self Int.toNat_natCast AP ldOk isLd inL subL crt chg chgS chgP idxs aliveW Option.toList_some Option.toList_none Option.toList RetG Nd.win frzA offK keepH aliveK nkH closedH closedO keysK inH St.upd rowO List.contains_cons List.contains_nil Bool.or_self Option.isNone_none Option.isNone_some Bool.not_true Bool.not_false gcs rowN e0N frzC
attribute [local go_sem] sz2 ag2 ok2 kk2 iu2 zc2 zd2 by2 sz3 ag3 ok3 kk3 iu3 zc3 zd3 by3 sz4 ag4 ok4 bo4 zc4 zd4 by4 sz5 ag5 ok5 kk5 iu5 zc5 zd5 by5 sz9 ag9 ok9 st9 zc9 zd9 by9 sz12 ag12 ok12 kk12 iu12 zc12 zd12 by12 sz15 ag15 ok15 zc15 by15 sz16 ag16 ok16 zc16 by16 sz21 ag21 ok21 kk21 iu21 zc21 zd21 by21 sz22 ag22 ok22 sl22 zc22 zd22 by22 sz24 ag24 ok24 sl24 zc24 zd24 by24 sz25 ag25 ok25 zc25 zd25 pl25 by25 fl25_0 fl25_1 fl25_2 fl25_3 fl25_4 sz26 ag26 ok26 zc26 zd26 pl26 by26 fl26_0 fl26_1 fl26_2 fl26_3 fl26_4 sz30 ag30 ok30 sl30 ar30 zc30 zd30 pl30 by30 sz31 ag31 ok31 sl31 ar31 zc31 zd31 pl31 by31 sz32 ag32 ok32 sl32 zc32 zd32 by32 sz36 ag36 ok36 kk36 iu36 zc36 zd36 by36 sz37 ag37 ok37 zc37 zd37 pl37 by37 fl37_0 fl37_1 fl37_2 fl37_3 sz38 ag38 ok38 zc38 zd38 pl38 by38 fl38_0 fl38_1 fl38_2 fl38_3 sz40 ag40 ok40 sl40 zc40 zd40 by40 sz41 ag41 ok41 zc41 zd41 pl41 by41 fl41_0 fl41_1 sz42 ag42 ok42 zc42 zd42 pl42 by42 fl42_0 fl42_1 sz44 ag44 ok44 kk44 iu44 zc44 zd44 by44 sz49 ag49 ok49 zc49 zd49 pl49 by49 fl49_0 fl49_1 fl49_2 fl49_3 fl49_4 fl49_5 fl49_6 fl49_7 fl49_8 fl49_9 fl49_10 fl49_11 fl49_12 fl49_13 fl49_14 sz50 ag50 ok50 zc50 zd50 pl50 by50 fl50_0 fl50_1 fl50_2 fl50_3 fl50_4 fl50_5 fl50_6 fl50_7 fl50_8 fl50_9 fl50_10 fl50_11 fl50_12 fl50_13 fl50_14 sz55 ag55 ok55 zc55 zd55 pl55 by55 fl55_0 fl55_1 fl55_2 sz56 ag56 ok56 zc56 zd56 pl56 by56 fl56_0 fl56_1 fl56_2 sz65 ag65 ok65 sl65 zc65 zd65 by65 sz68 ag68 ok68 zc68 by68 sz81 ag81 ok81 zc81 zd81 pl81 by81 fl81_0 fl81_1 fl81_2 fl81_3 sz82 ag82 ok82 zc82 zd82 pl82 by82 fl82_0 fl82_1 fl82_2 fl82_3 sz87 ag87 ok87 zc87 by87 sz88 ag88 ok88 zc88 zd88 pl88 by88 fl88_0 fl88_1 fl88_2 sz89 ag89 ok89 zc89 zd89 pl89 by89 fl89_0 fl89_1 fl89_2 sz92 ag92 ok92 zc92 by92 sz93 ag93 ok93 zc93 zd93 pl93 by93 fl93_0 fl93_1 sz94 ag94 ok94 zc94 zd94 pl94 by94 fl94_0 fl94_1 sz98 ag98 ok98 zc98 zd98 pl98 by98 fl98_0 fl98_1 fl98_2 sz99 ag99 ok99 zc99 zd99 pl99 by99 fl99_0 fl99_1 fl99_2 sz112 ag112 ok112 sl112 ar112 zc112 zd112 pl112 by112 sz113 ag113 ok113 sl113 ar113 zc113 zd113 pl113 by113 sz124 ag124 ok124 zc124 zd124 pl124 by124 fl124_0 fl124_1 sz125 ag125 ok125 sl125 ar125 zc125 zd125 pl125 by125 sz126 ag126 ok126 zc126 by126 sz130 ag130 ok130 zc130 by130 sz132 ag132 ok132 zc132 zd132 pl132 by132 fl132_0 fl132_1 sz133 ag133 ok133 zc133 zd133 pl133 by133 fl133_0 fl133_1 sz151 ag151 ok151 kk151 iu151 zc151 zd151 by151 sz155 ag155 ok155 zc155 by155
set_option maxRecDepth 100000
/-! all frames of all nodes, in plain lists -/
def nodeF (n : Nd) (ins : List (List (List Int))) (w : Nat) : List (List Int) := (List.range (n.rCount (ins.map fun s => (s.length : Int))).toNat).map fun i => frameV n (inpF n ins w (i : Nat)) w
def frF (ns : List Nd) (W : List Int) (u : Int → List (List Int)) (i : Int) : List (List Int) := nodeF (nd ns (i - 1)) ((nd ns (i - 1)).inn.map u) (rd W (rd (nd ns (i - 1)).inn 0)).toNat
theorem frF_loc {ns : List Nd} {W : List Int} (u v : Int → List (List Int)) (i : Int) (h : ∀ j ∈ (nd ns (i - 1)).inn, u j = v j) : frF ns W u i = frF ns W v i := by
  unfold frF; rw [List.map_congr_left h]
structure SG (w : Int) (b : Nat) (s : List (List Int)) : Prop where
  wid : ∀ f ∈ s, (f.length : Int) = w
  num : ∀ f ∈ s, ∀ x ∈ f, in32 x
  len : s.length ≤ b
theorem SG.at_w {w : Int} {b : Nat} {s : List (List Int)} (h : SG w b s) (hw : 0 ≤ w) (t : Int) : ((atV s t w.toNat).length : Int) = w ∧ ∀ x ∈ atV s t w.toNat, in32 x := by
  unfold atV
  split
  · refine ⟨by rw [List.length_replicate]; omega, fun x hx => ?_⟩
    have := (List.mem_replicate.1 hx).2
    subst this
    exact ⟨by decide, by decide⟩
  · have hm := fr_mem (fs := s) (i := t) (by omega) (by omega)
    exact ⟨h.wid _ hm, h.num _ hm⟩
theorem mean32 (xs : List Int) (h0 : 1 ≤ xs.length) (h : ∀ x ∈ xs, in32 x) : in32 (meanV xs) := by
  obtain ⟨h1, h2⟩ := sum32 xs h
  unfold meanV divV
  have hl : (1 : Int) ≤ xs.length := by omega
  generalize (xs.length : Int) = m at *
  generalize xs.sum = s at *
  rw [if_neg (by omega)]
  refine ⟨(Int.le_ediv_iff_mul_le (by omega)).2 (by omega), ?_⟩
  have : (2 * s + m) / (2 * m) < 2147483648 := (Int.ediv_lt_iff_lt_mul (by omega)).2 (by omega)
  omega
/-- the frames that a node's frame is told from are as they should be -/
structure NI (n : Nd) (W : Int → Int) (fs : List (List Int)) : Prop where
  h0 : 1 ≤ fs.length ∧ fs.length ≤ 4096
  many : (fs.length : Int) = manyV n fs
  wds : wdsV n fs = n.inn.map W
  num : ∀ f ∈ fs, ∀ x ∈ f, in32 x
  one : rMany n.k = false → ∀ f ∈ fs, (f.length : Int) = W (rd n.inn 0)
section
variable {N : Int} {n : Nd} {W R : Int → Int} {rk : Int → Nat} {i : Int} (hn : NodeG N n W R rk i)
include hn
theorem NodeG.rd0 : rd (n.inn.map W) 0 = W (rd n.inn 0) := rd_map hn.l1
theorem NodeG.w0 : 1 ≤ W (rd n.inn 0) ∧ W (rd n.inn 0) ≤ 16 := by
  obtain ⟨c1, _⟩ := rchk_unpack hn.chk
  exact chk1_all c1 _ (List.mem_map_of_mem (rd_mem (by omega) (by have := hn.l1; omega)))
theorem NodeG.one_inn (hm : rMany n.k = false) : ∃ a, n.inn = [a] := by
  obtain ⟨_, h7, _⟩ := rchk_unpack hn.chk
  unfold Nd.r7 at h7
  rw [hm] at h7
  rcases inn12 hn with h | ⟨a, b, h⟩
  · exact h
  · rw [h] at h7; simp at h7
theorem NI.right {fs : List (List Int)} (h : NI n W fs) : rightV n fs = true := by
  unfold rightV
  have e0 : ((fs.length : Int) == 0) = false := by
    have := h.h0
    cases e : ((fs.length : Int) == 0) with
    | false => rfl
    | true => have := of_decide_eq_true e; omega
  have e1 : ((fs.length : Int) != manyV n fs) = false := by simpa using h.many
  have e2 : (n.rchk (wdsV n fs) != 0) = false := by rw [h.wds, hn.chk]; rfl
  rw [e0, e1, e2]
  simp only [Bool.not_false, Bool.or_self, Bool.true_and]
  refine List.all_eq_true.2 fun f hf => ?_
  unfold frOk
  have e3 : f.all fits32 = true := List.all_eq_true.2 fun x hx => (fits32_iff x).2 (h.num f hf x hx)
  rw [e3, Bool.and_true, h.wds]
  cases hm : rMany n.k with
  | true =>
    have h2 := rMany_chk hn.chk hm
    have h3 : (((n.inn.map W).length : Int) == 1) = false := by
      cases e : (((n.inn.map W).length : Int) == 1) with
      | false => rfl
      | true => have := of_decide_eq_true e; omega
    rw [h3]; rfl
  | false =>
    rw [hn.rd0, h.one hm f hf]; simp
theorem NI.w {fs : List (List Int)} (h : NI n W fs) : (fr fs 0).length = (W (rd n.inn 0)).toNat := by
  have hf0 : fr fs 0 ∈ fs := fr_mem (by decide) (by have := h.h0; omega)
  cases hm : rMany n.k with
  | false => have := h.one hm _ hf0; omega
  | true =>
    have e := h.wds
    unfold wdsV at e
    rw [if_pos hm] at e
    have e2 : rd (fs.map fun f => (f.length : Int)) 0 = rd (n.inn.map W) 0 := congrArg (fun l => rd l 0) e
    rw [hn.rd0] at e2
    have e3 : rd (fs.map fun f => (f.length : Int)) 0 = (fr fs 0).length := by
      have := h.h0
      cases fs with
      | nil => simp at this
      | cons x l => rfl
    omega
theorem NI.fok {fs : List (List Int)} (h : NI n W fs) : FOk n fs (W (rd n.inn 0)).toNat := by
  rw [← h.w hn]
  exact right_fok h.h0.2 (h.right hn)
omit hn in
theorem sized_s27 {v : Int} (hs : n.sized v = true) : n.s27 = true := by
  unfold Nd.sized at hs
  repeat' (split at hs <;> try (cases hs; done))
  all_goals exact hs
omit hn in
theorem sized_wid {v : Int} (hs : n.sized v = true) (hk : n.k = 1 ∨ n.k = 6) : (n.bs.length : Int) = n.wid := by
  have hw : rWeighs n.k = true := by rcases hk with e | e <;> (rw [e]; rfl)
  have h2 : (n.k == 2) = false := by rcases hk with e | e <;> (rw [e]; rfl)
  unfold Nd.sized at hs
  rw [if_pos hw, h2] at hs
  simp only [Bool.false_eq_true, if_false] at hs
  have h21 : n.s21 v n.wid = false := by
    cases e : n.s21 v n.wid with
    | false => rfl
    | true => rw [e] at hs; simp at hs
  unfold Nd.s21 at h21
  simp only [Bool.or_eq_false_iff, bne_eq_false_iff_eq] at h21
  exact h21.1.1.2
omit hn in
theorem each_num {fs : List (List Int)} {w : Nat} (h : KOk n fs w) {g : List Int → Int} (hg : ∀ xs : List Int, xs.length = fs.length → (∀ x ∈ xs, in32 x) → in32 (g xs)) : ∀ x ∈ eachL g fs w, in32 x := by
  intro x hx
  unfold eachL at hx
  obtain ⟨k, hk, rfl⟩ := List.mem_map.1 hx
  have hk := List.mem_range.1 hk
  exact hg _ (col_len _ _) (h.col (by omega) (by omega))
/-- what comes of them is as wide as it should be, of words -/
theorem NI.out {fs : List (List Int)} (h : NI n W fs) : ((frameV n fs (W (rd n.inn 0)).toNat).length : Int) = W i ∧ ∀ x ∈ frameV n fs (W (rd n.inn 0)).toNat, in32 x := by
  have hF := h.fok hn
  have hw := hn.w0
  have hrd := hn.rd0
  obtain ⟨c1, c7, c9, he, hs, hL⟩ := rchk_unpack hn.chk
  have h27 := s27_iff (sized_s27 hs)
  have hwd := hn.wd
  unfold Nd.rwide at hwd
  rw [hn.chk, if_neg (by decide)] at hwd
  rw [hrd] at hwd
  generalize hww : (W (rd n.inn 0)).toNat = w at *
  unfold frameV
  by_cases h8 : n.k = 8
  · rw [if_neg (by rw [h8]; decide), if_neg (by omega), if_neg (by omega), if_neg (by omega), if_neg (by omega), if_neg (by omega), if_neg (by omega)]
    rw [if_neg (by rw [h8]; decide), if_neg (by rw [h8]; decide), if_neg (by rw [h8]; decide)] at hwd
    have e := h.wds
    unfold wdsV at e
    rw [if_pos (show rMany n.k = true by rw [h8]; rfl)] at e
    refine ⟨?_, fun x hx => ?_⟩
    · rw [hwd, ← e]
      have hm : rMany n.k = true := by rw [h8]; rfl
      have hall := chk1_all c1
      rw [← e] at hall
      have hlen : fs.length = n.inn.length := by
        have := congrArg List.length e
        simpa using this
      have hl2 := hn.l2
      have hl1 := hn.l1
      clear e hF h
      match fs, hlen with
      | [f], _ => simp [sumL]; have := hall f.length (by simp); rw [w64 (by omega) (by omega)]
      | [f, g], _ =>
        have h1 := hall f.length (by simp)
        have h2 := hall g.length (by simp)
        simp only [List.flatten_cons, List.flatten_nil, List.append_nil, List.length_append, List.map_cons, List.map_nil, sumL]
        rw [w64 (x := 0 + (f.length : Int)) (by omega) (by omega), w64 (by omega) (by omega)]
        omega
      | [], e => simp at e; omega
      | _ :: _ :: _ :: _, e => simp at e; omega
    · obtain ⟨f, hf, hx⟩ := List.mem_flatten.1 hx
      exact h.num f hf x hx
  · have hK := hF.kok h8
    by_cases hwe : rWeighs n.k = true
    · rw [if_pos hwe]
      unfold weighedV
      rw [weighedN_len]
      refine ⟨?_, weighed_num h27.2.2.1 h27.2.2.2.1 h27.2.2.2.2 _⟩
      have hc : n.k = 1 ∨ n.k = 2 ∨ n.k = 6 := by unfold rWeighs at hwe; simpa [or_assoc] using hwe
      by_cases h2 : n.k = 2
      · have := (hK.wok hwe).dp h2
        rw [if_neg (by rw [h2]; decide), if_neg (by rw [h2]; decide), if_pos (by rw [h2]; decide)] at hwd
        omega
      · rw [if_pos (by simp; omega)] at hwd
        rw [hwd]
        exact sized_wid hs (by omega)
    · rw [if_neg hwe]
      have hwe2 : ¬ (n.k == 1 || n.k == 6) = true := fun e => hwe (by unfold rWeighs; simp at e ⊢; omega)
      rw [if_neg hwe2] at hwd
      by_cases h11 : n.k = 11
      · rw [if_neg (by omega), if_neg (by omega), if_neg (by omega), if_neg (by omega), if_neg (by omega), if_pos h11]
        rw [if_pos (by rw [h11]; decide)] at hwd
        refine ⟨by rw [hwd]; rfl, fun x hx => ?_⟩
        obtain rfl := List.mem_singleton.1 hx
        have := h.w hn
        have := mostV_b (fr fs 0) (by omega)
        exact ⟨by omega, by omega⟩
      · rw [if_neg (by simpa using h11), if_pos (by simpa using h8)] at hwd
        have hlen := hK.m0.1
        have hwW : ((w : Nat) : Int) = W i := by omega
        have h0 : ∀ xs : List Int, xs.length = fs.length → (∀ x ∈ xs, in32 x) → in32 (rd xs 0) := fun xs hx hxs => hxs _ (rd_mem (by decide) (by omega))
        rw [if_neg h11]
        split
        · exact ⟨by rw [eachL_len]; exact hwW, each_num hK fun xs hx hxs => by
            have := mostV_b xs (by omega)
            exact hxs _ (rd_mem this.1 this.2)⟩
        split
        · exact ⟨by rw [eachL_len]; exact hwW, each_num hK fun xs hx hxs => mean32 xs (by omega) hxs⟩
        split
        · exact ⟨by rw [eachL_len]; exact hwW, each_num hK fun xs hx hxs => add_in xs⟩
        split
        · exact ⟨by rw [eachL_len]; exact hwW, each_num hK fun xs hx hxs => by
            have := clampV_in (x := rd xs 0) h27.2.2.2.1
            exact ⟨by omega, by omega⟩⟩
        split
        · exact ⟨by rw [eachL_len]; exact hwW, each_num hK fun xs hx hxs => scale32 _ _ _⟩
        · exfalso
          obtain ⟨k1, k2, _⟩ := hK.unpack
          unfold rWeighs at hwe
          simp at hwe
          omega
/-- which frames go into a frame -/
theorem NodeG.ni {u : Int → List (List Int)} {b : Nat} (hb : b ≤ 4096) (hu : ∀ j ∈ n.inn, SG (W j) b (u j)) {k : Int} (k0 : 0 ≤ k) (k1 : k < n.rCount ((n.inn.map u).map fun s => (s.length : Int))) :
    NI n W (inpF n (n.inn.map u) (W (rd n.inn 0)).toNat k) := by
  have hw := hn.w0
  obtain ⟨c1, c7, c9, he, hs, hL⟩ := rchk_unpack hn.chk
  have hone : ∀ fs : List (List Int), 1 ≤ fs.length → rMany n.k = false → (∀ f ∈ fs, (f.length : Int) = W (rd n.inn 0)) → wdsV n fs = n.inn.map W := fun fs h1 hm hf => by
    obtain ⟨a, ha⟩ := hn.one_inn hm
    unfold wdsV
    rw [hm, if_neg (by decide), hf _ (fr_mem (by decide) (by omega)), ha]; rfl
  by_cases hwin : rWin n.k = true
  · have hsz := win_size hs hwin
    have hm : rMany n.k = false := by
      unfold rWin at hwin; unfold rMany
      simp only [Bool.or_eq_true, beq_iff_eq] at hwin
      simp only [Bool.or_eq_false_iff, beq_eq_false_iff_ne]
      omega
    obtain ⟨a, ha⟩ := hn.one_inn hm
    have hua := hu a (by rw [ha]; simp)
    have hWa : W (rd n.inn 0) = W a := by rw [ha]; rfl
    have hat := fun t => hua.at_w (t := t) (by omega)
    have hin : inF (n.inn.map u) 0 = u a := by rw [ha]; rfl
    unfold inpF
    rw [if_pos hwin, hin, hWa]
    have hf : ∀ f ∈ (List.range n.size.toNat).map (fun j => atV (u a) (wrap64 (n.rFirst k + wrap64 ((j : Nat) * gapV n))) (W a).toNat), (f.length : Int) = W (rd n.inn 0) ∧ ∀ x ∈ f, in32 x := fun f hf => by
      obtain ⟨j, _, rfl⟩ := List.mem_map.1 hf
      rw [hWa]; exact hat _
    have hlen : ((List.range n.size.toNat).map (fun j => atV (u a) (wrap64 (n.rFirst k + wrap64 ((j : Nat) * gapV n))) (W a).toNat)).length = n.size.toNat := by simp
    generalize (List.range n.size.toNat).map (fun j => atV (u a) (wrap64 (n.rFirst k + wrap64 ((j : Nat) * gapV n))) (W a).toNat) = fs at *
    exact ⟨by omega, by unfold manyV; rw [if_pos hwin]; omega, hone fs (by omega) hm fun f h => (hf f h).1, fun f h => (hf f h).2, fun _ f h => (hf f h).1⟩
  · have hwin : rWin n.k = false := by simpa using hwin
    unfold Nd.rCount at k1
    rw [hwin, Bool.false_and, if_neg (by decide)] at k1
    unfold inpF
    rw [if_neg (by rw [hwin]; decide)]
    by_cases h5 : n.k = 5
    · have hm : rMany n.k = false := by rw [h5]; rfl
      obtain ⟨a, ha⟩ := hn.one_inn hm
      have hua := hu a (by rw [ha]; simp)
      have hWa : W (rd n.inn 0) = W a := by rw [ha]; rfl
      have hin : inF (n.inn.map u) 0 = u a := by rw [ha]; rfl
      rw [if_pos h5, hin]
      have hpos : 1 ≤ (u a).length := by
        rw [ha] at k1
        simp only [List.map_cons, List.map_nil] at k1
        rw [fewest1 (by omega)] at k1
        by_cases e : (u a).length = 0
        · rw [e] at k1; simp at k1; omega
        · omega
      have hul := hua.len
      exact ⟨by omega, by unfold manyV; rw [hwin, if_neg (by decide), h5, if_pos (by decide)], hone _ hpos hm fun f h => by rw [hWa]; exact hua.wid f h, hua.num, fun _ f h => by rw [hWa]; exact hua.wid f h⟩
    · rw [if_neg h5]
      rw [show (n.k == 5) = false by simpa using h5, Bool.false_and, if_neg (by decide)] at k1
      have hk : ∀ j ∈ n.inn, k < (u j).length := by
        rcases inn12 hn with ⟨a, ha⟩ | ⟨a, c, ha⟩
        · rw [ha] at k1 ⊢
          simp only [List.map_cons, List.map_nil] at k1
          rw [fewest1 (by omega)] at k1
          intro j hj
          obtain rfl := List.mem_singleton.1 hj
          exact k1
        · rw [ha] at k1 ⊢
          simp only [List.map_cons, List.map_nil] at k1
          rw [fewest2 (by omega) (by omega)] at k1
          intro j hj
          unfold mn at k1
          split at k1 <;> rcases List.mem_cons.1 hj with rfl | hj <;> (try obtain rfl := List.mem_singleton.1 hj) <;> omega
      have hmem : ∀ j ∈ n.inn, fr (u j) k ∈ u j := fun j hj => fr_mem k0 (hk j hj)
      have hml : ((n.inn.map u).map fun s => fr s k) = n.inn.map fun j => fr (u j) k := by rw [List.map_map]; rfl
      have hl1 := hn.l1
      have hl2 := hn.l2
      rw [hml]
      refine ⟨by rw [List.length_map]; omega, ?_, ?_, fun f hf => ?_, fun hm f hf => ?_⟩
      · unfold manyV
        rw [hwin, if_neg (by decide), show (n.k == 5) = false by simpa using h5, if_neg (by decide), List.length_map]
        cases hm : rMany n.k with
        | true => rfl
        | false =>
          obtain ⟨a, ha⟩ := hn.one_inn hm
          rw [ha]; rfl
      · cases hm : rMany n.k with
        | true =>
          unfold wdsV
          rw [if_pos hm, List.map_map]
          exact List.map_congr_left fun j hj => (hu j hj).wid _ (hmem j hj)
        | false =>
          refine hone _ (by rw [List.length_map]; omega) hm fun f hf => ?_
          obtain ⟨j, hj, rfl⟩ := List.mem_map.1 hf
          obtain ⟨a, ha⟩ := hn.one_inn hm
          have : j = rd n.inn 0 := by rw [ha] at hj ⊢; exact List.mem_singleton.1 hj
          rw [← this]
          exact (hu j hj).wid _ (hmem j hj)
      · obtain ⟨j, hj, rfl⟩ := List.mem_map.1 hf
        exact (hu j hj).num _ (hmem j hj)
      · obtain ⟨j, hj, rfl⟩ := List.mem_map.1 hf
        obtain ⟨a, ha⟩ := hn.one_inn hm
        have : j = rd n.inn 0 := by rw [ha] at hj ⊢; exact List.mem_singleton.1 hj
        rw [← this]
        exact (hu j hj).wid _ (hmem j hj)
/-- how many come -/
theorem NodeG.cnt {l : List Int} {b : Nat} (hb : b ≤ 4000) (hl : l.length = n.inn.length) (h : ∀ x ∈ l, 0 ≤ x ∧ x ≤ b) : 0 ≤ n.rCount l ∧ n.rCount l ≤ b + 10 := by
  have hw := hn.wf
  have hf : 0 ≤ fewestV l ∧ fewestV l ≤ b := by
    rcases inn12 hn with ⟨a, ha⟩ | ⟨a, c, ha⟩
    · rw [ha] at hl
      match l, hl with
      | [x], _ => have := h x (by simp); rw [fewest1 this.1]; exact this
    · rw [ha] at hl
      match l, hl with
      | [x, y], _ =>
        have h1 := h x (by simp)
        have h2 := h y (by simp)
        rw [fewest2 h1.1 h2.1]
        unfold mn
        split <;> omega
  have hr := hw.rt
  have hsp := hw.sp
  have hst := hw.st
  unfold Nd.rCount
  split
  · rw [w64 (x := fewestV l + n.rRight) (by omega) (by omega), hw.ends (by omega) (by omega)]
    split
    · omega
    · have hlf := hw.lf
      have d1 := Int.ediv_nonneg (a := fewestV l + n.rRight - 1 - (n.rSpan - 1 - n.rLeft)) (b := n.rStp) (by omega) (by omega)
      have d2 := Int.ediv_le_self (a := fewestV l + n.rRight - 1 - (n.rSpan - 1 - n.rLeft)) n.rStp (by omega)
      omega
  split
  · omega
  · omega
theorem NodeG.lens {u : Int → List (List Int)} {b : Nat} (hu : ∀ j ∈ n.inn, (u j).length ≤ b) : ((n.inn.map u).map fun s => (s.length : Int)).length = n.inn.length ∧ ∀ x ∈ (n.inn.map u).map (fun s => (s.length : Int)), 0 ≤ x ∧ x ≤ b := by
  refine ⟨by simp, fun x hx => ?_⟩
  obtain ⟨s, hs, rfl⟩ := List.mem_map.1 hx
  obtain ⟨j, hj, rfl⟩ := List.mem_map.1 hs
  have := hu j hj
  omega
theorem NodeG.sg {u : Int → List (List Int)} {b : Nat} (hb : b ≤ 4000) (hu : ∀ j ∈ n.inn, SG (W j) b (u j)) : SG (W i) (b + 10) (nodeF n (n.inn.map u) (W (rd n.inn 0)).toNat) := by
  obtain ⟨l1, l2⟩ := hn.lens (u := u) (b := b) fun j hj => (hu j hj).len
  have hc := hn.cnt hb l1 l2
  have key : ∀ f ∈ nodeF n (n.inn.map u) (W (rd n.inn 0)).toNat, (f.length : Int) = W i ∧ ∀ x ∈ f, in32 x := fun f hf => by
    unfold nodeF at hf
    obtain ⟨k, hk, rfl⟩ := List.mem_map.1 hf
    have hk := List.mem_range.1 hk
    exact (hn.ni (k := (k : Nat)) (by omega) hu (by omega) (by omega)).out hn
  refine ⟨fun f hf => (key f hf).1, fun f hf => (key f hf).2, ?_⟩
  unfold nodeF
  rw [List.length_map, List.length_range]
  omega
end
set_option maxRecDepth 100000
/-! a frame hangs on the frames of its reach alone -/
theorem GG.lo_eq {wd : Int} {ns : List Nd} {W R : Int → Int} {rk : Int → Nat} (h : GG wd ns W R rk) {R2 : List Int} : rd (loL ns R2) 0 = 0 ∧ ∀ i : Int, 1 ≤ i → i ≤ ns.length → rd (loL ns R2) i = loF ns R2 (rd (loL ns R2)) 0 i := by
  obtain ⟨a, b⟩ := h.ordL (d := (0 : Int)) (f := loF ns R2) loF_loc (List.replicate (ns.length + 1) 0) (by simp)
  have e : ∀ x : Int, ga (0 : Int) (List.replicate (ns.length + 1) 0) x = 0 := fun x => by
    unfold ga
    rw [List.getD_eq_getElem?_getD, List.getElem?_replicate]
    split <;> rfl
  refine ⟨?_, fun i i1 i2 => ?_⟩
  · rw [e] at a; exact a
  · have := b i i1 i2
    rw [e] at this
    exact this
theorem least1 (a : Int) : leastL [a] = a := by
  unfold leastL
  simp [mn, rd]
theorem least2 (a b : Int) : leastL [a, b] = mn a b := by
  unfold leastL
  simp [mn, rd]
theorem fr_out {s : List (List Int)} {k : Int} (h : (s.length : Int) ≤ k) : fr s k = [] := by
  unfold fr
  rw [List.getD_eq_getElem?_getD, List.getElem?_eq_none (by omega)]; rfl
theorem fr_range {C : Nat} {g : Nat → List Int} {k : Int} (h0 : 0 ≤ k) (h1 : k < C) : fr ((List.range C).map g) k = g k.toNat := by
  unfold fr
  rw [List.getD_eq_getElem?_getD, List.getElem?_map, List.getElem?_range (by omega)]; rfl
theorem inpF_win {n : Nd} {w : Nat} {a b : List (List Int)} {k : Int} (hwin : rWin n.k = true) (hl : a.length = b.length) (h : ∀ j : Nat, j < n.size.toNat → ∀ t : Int, t = wrap64 (n.rFirst k + wrap64 ((j : Nat) * gapV n)) → 0 ≤ t → t < a.length → fr a t = fr b t) :
    inpF n [a] w k = inpF n [b] w k := by
  unfold inpF
  rw [if_pos hwin, if_pos hwin]
  refine List.map_congr_left fun j hj => ?_
  have hj := List.mem_range.1 hj
  have hin : ∀ x : List (List Int), inF [x] 0 = x := fun x => rfl
  rw [hin, hin]
  generalize ht : wrap64 (n.rFirst k + wrap64 ((j : Nat) * gapV n)) = t
  have := h j hj t ht.symm
  unfold atV
  rw [hl]
  split
  · rfl
  · exact this (by omega) (by omega)
/-- where a window's frames stand -/
theorem win_at {n : Nd} {v : Int} (hs : n.sized v = true) (hw : WF n) (hwin : rWin n.k = true) {k : Int} (k0 : 0 ≤ k) (k1 : k ≤ 1000000) {j : Nat} (hj : j < n.size.toNat) :
    ∃ m : Int, wrap64 (n.rFirst k + wrap64 ((j : Nat) * gapV n)) = k * n.rStp - n.rLeft + m ∧ 0 ≤ m ∧ m ≤ n.rSpan - 1 := by
  have hsz := win_size hs hwin
  have hst := hw.st
  have hsp := hw.sp
  have hlf := hw.lf
  have m1 := mul_le k 1000000 n.rStp 3 k0 k1 (by omega) hst.2
  have hm : ∃ m : Int, wrap64 ((j : Nat) * gapV n) = m ∧ 0 ≤ m ∧ m ≤ n.rSpan - 1 := by
    by_cases h12 : n.k = 12
    · have e1 : gapV n = 1 := by unfold gapV; rw [h12]; rfl
      have e2 : n.rSpan = n.size := by unfold Nd.rSpan; rw [h12]; rfl
      rw [e1, Int.mul_one, e2, w64 (by omega) (by omega)]
      exact ⟨_, rfl, by omega, by omega⟩
    · have hb12 : (n.k == 12) = false := by simpa using h12
      have h4 : rFour n.k = true := by
        rw [rWin_four, hb12, Bool.or_false] at hwin; exact hwin
      have e1 : gapV n = n.gap := by unfold gapV; rw [hb12]; rfl
      have h8 : n.s8 = false := by
        unfold Nd.sized at hs
        cases e : n.s8 with
        | false => rfl
        | true => rw [e] at hs; simp at hs
      unfold Nd.s8 at h8
      rw [h4] at h8
      simp only [Bool.true_and, Bool.or_eq_false_iff, Bool.not_eq_false', inB_iff] at h8
      have hg := h8.2
      have m2 := mul_le (n.size - 1) 7 n.gap 4 (by omega) (by omega) (by omega) hg.2
      have e2 : n.rSpan = (n.size - 1) * n.gap + 1 := by
        unfold Nd.rSpan
        rw [hb12, hwin, if_neg (by decide), if_neg (by decide), w64 (x := n.size - 1) (by omega) (by omega), w64 (x := (n.size - 1) * n.gap) (by omega) (by omega), w64 (by omega) (by omega)]
      have m3 := mul_le (j : Int) (n.size - 1) n.gap n.gap (by omega) (by omega) (by omega) (by omega)
      rw [e1, e2, w64 (by omega) (by omega)]
      exact ⟨_, rfl, by omega, by omega⟩
  obtain ⟨m, e, h0, h1⟩ := hm
  refine ⟨m, ?_, h0, h1⟩
  rw [e]
  unfold Nd.rFirst
  rw [w64 (x := k * n.rStp) (by omega) (by omega), w64 (x := k * n.rStp - n.rLeft) (by omega) (by omega), w64 (by omega) (by omega)]
/-- the frames of all nodes, as they go along -/
structure FX (ns : List Nd) (W2 : List Int) (A : Int → List (List Int)) : Prop where
  fx : ∀ i : Int, 1 ≤ i → i ≤ ns.length → A i = frF ns W2 A i
  le : ∀ i : Int, 0 ≤ i → i ≤ ns.length → (A i).length ≤ 65536
section
variable {wd lo hi out : Int} {ns : List Nd} {W R : Int → Int} {rk : Int → Nat} {W2 R2 : List Int} (h : GF wd lo hi out ns W R rk W2 R2)
include h
theorem GF.reach {A B : Int → List (List Int)} (hA : FX ns W2 A) (hB : FX ns W2 B) (h0 : (A 0).length = (B 0).length) : ∀ (r : Nat), r ≤ 12 → ∀ i : Int, 0 ≤ i → i ≤ ns.length → rk i ≤ r → (A i).length = (B i).length ∧
    (0 < R i → (-(r * 10000000) ≤ rd (loL ns R2) i ∧ rd (loL ns R2) i ≤ 0) ∧ ∀ k : Int, 0 ≤ k → (∀ t : Int, 0 ≤ t → t < (A 0).length → k * R i + rd (loL ns R2) i ≤ t → t ≤ k * R i + rd (hiL ns R2) i → fr (A 0) t = fr (B 0) t) → fr (A i) k = fr (B i) k)
  | r, hr, i, i0, i1, hk => by
    obtain ⟨u0, u⟩ := h.gg.lo_eq (R2 := R2)
    obtain ⟨v0, v⟩ := h.gg.hi_eq (fun x a b => (h.eq x a b).2)
    rcases Int.lt_or_le 0 i with i2 | i2
    · have hn := (h.gg.node i i2 i1).1
      have hw := hn.wf
      obtain ⟨e, hst⟩ := hn.rate_v
      have hu := u i i2 i1
      have hv := v i i2 i1
      have hRi := (h.eq i i0 i1).2
      have hin := hn.inn
      have fA := hA.fx i i2 i1
      have fB := hB.fx i i2 i1
      have lA := hA.le i i0 i1
      match r, hr, hk with
      | 0, _, hk =>
        have := hin _ (rd_mem (l := (nd ns (i - 1)).inn) (j := 0) (by omega) (by have := hn.l1; omega))
        omega
      | r + 1, hr, hk =>
        have ih : ∀ j ∈ (nd ns (i - 1)).inn, (A j).length = (B j).length ∧ (0 < R j → (-(r * 10000000) ≤ rd (loL ns R2) j ∧ rd (loL ns R2) j ≤ 0) ∧ ∀ k : Int, 0 ≤ k → (∀ t : Int, 0 ≤ t → t < (A 0).length → k * R j + rd (loL ns R2) j ≤ t → t ≤ k * R j + rd (hiL ns R2) j → fr (A 0) t = fr (B 0) t) → fr (A j) k = fr (B j) k) := fun j hj => by
          have := hin j hj
          exact GF.reach hA hB h0 r (by omega) j this.1 this.2.1 (by omega)
        have hRj : ∀ j ∈ (nd ns (i - 1)).inn, (0 ≤ R j ∧ R j ≤ 531441) ∧ (0 < R j → 0 ≤ rd (hiL ns R2) j ∧ rd (hiL ns R2) j ≤ 120000000) := fun j hj => by
          have := hin j hj
          have h1 := h.wants (N := 0) (by omega) j this.1 this.2.1
          rw [(h.eq j this.1 this.2.1).2] at h1
          exact ⟨h1.1, h1.2.1⟩
        have hj0 := rd_mem (l := (nd ns (i - 1)).inn) (j := 0) (by omega) (by have := hn.l1; omega)
        have hsame := fun j hj => hn.same j hj _ hj0
        have h12 := inn12 hn
        obtain ⟨_, _, _, _, hs, _⟩ := rchk_unpack hn.chk
        have hR0 : rd R2 (rd (nd ns (i - 1)).inn 0) = R (rd (nd ns (i - 1)).inn 0) := by
          have := hin _ hj0
          exact (h.eq _ this.1 this.2.1).2
        have hlen : ((nd ns (i - 1)).inn.map A).map (fun s => (s.length : Int)) = ((nd ns (i - 1)).inn.map B).map (fun s => (s.length : Int)) := by
          rw [List.map_map, List.map_map]
          exact List.map_congr_left fun j hj => by
            have := (ih j hj).1
            show ((A j).length : Int) = (B j).length
            rw [this]
        unfold frF at fA fB
        unfold loF at hu
        unfold hiF at hv
        rw [hRi, hR0] at hu hv
        clear u v u0 v0 hin hR0 hRi
        generalize nd ns (i - 1) = n at *
        generalize (rd W2 (rd n.inn 0)).toNat = w at *
        unfold nodeF at fA fB
        rw [← hlen] at fB
        generalize hC : n.rCount ((n.inn.map A).map fun s => (s.length : Int)) = C at *
        have hlA : (A i).length = C.toNat := by rw [fA]; simp
        have hlB : (B i).length = C.toNat := by rw [fB]; simp
        refine ⟨by omega, fun hp => ?_⟩
        generalize hra : R (rd n.inn 0) = ra at *
        have hr0 := hRj _ hj0
        rw [hra] at hr0
        have k5 : n.k ≠ 5 := fun e5 => by
          rw [e5] at e
          have e : R i = 0 := e
          omega
        rw [if_neg (by simpa using k5)] at e
        have mm := mul_le ra 531441 n.rStp 3 hr0.1.1 hr0.1.2 (by have := hw.st; omega) hw.st.2
        rw [w64 (x := ra * n.rStp) (by omega) (by omega)] at e
        have hpa : 0 < ra := by
          rcases Int.lt_or_le 0 ra with h | h
          · exact h
          · have : ra = 0 := by omega
            rw [this, Int.zero_mul] at e; omega
        have hl := hw.lf
        have hsp := hw.sp
        have hst2 := hw.st
        rw [if_neg (by simp; omega)] at hu hv
        have ml := mul_le ra 531441 n.rLeft 9 hr0.1.1 hr0.1.2 hl.1 (by omega)
        have mh := mul_le ra 531441 (n.rSpan - 1 - n.rLeft) 9 hr0.1.1 hr0.1.2 (by omega) (by omega)
        have hlo : ∀ j ∈ n.inn, leastL (n.inn.map (rd (loL ns R2))) ≤ rd (loL ns R2) j := by
          rcases h12 with ⟨a, ea⟩ | ⟨a, b, ea⟩
          · rw [ea]; intro j hj; obtain rfl := List.mem_singleton.1 hj
            simp only [List.map_cons, List.map_nil, least1]; omega
          · rw [ea]; intro j hj
            simp only [List.map_cons, List.map_nil, least2]
            unfold mn
            split <;> rcases List.mem_cons.1 hj with rfl | hj <;> (try obtain rfl := List.mem_singleton.1 hj) <;> omega
        have hhi : ∀ j ∈ n.inn, rd (hiL ns R2) j ≤ mostL (n.inn.map (rd (hiL ns R2))) := by
          rcases h12 with ⟨a, ea⟩ | ⟨a, b, ea⟩
          · rw [ea]; intro j hj; obtain rfl := List.mem_singleton.1 hj
            simp only [List.map_cons, List.map_nil, most1]; omega
          · rw [ea]; intro j hj
            simp only [List.map_cons, List.map_nil, most2]
            unfold mx
            split <;> rcases List.mem_cons.1 hj with rfl | hj <;> (try obtain rfl := List.mem_singleton.1 hj) <;> omega
        have hlm : -(r * 10000000) ≤ leastL (n.inn.map (rd (loL ns R2))) ∧ leastL (n.inn.map (rd (loL ns R2))) ≤ 0 := by
          have hb : ∀ j ∈ n.inn, -(r * 10000000) ≤ rd (loL ns R2) j ∧ rd (loL ns R2) j ≤ 0 := fun j hj => ((ih j hj).2 (by rw [hsame j hj]; omega)).1
          rcases h12 with ⟨a, ea⟩ | ⟨a, b, ea⟩
          · rw [ea] at hb ⊢
            have := hb a (by simp)
            simp only [List.map_cons, List.map_nil, least1]; omega
          · rw [ea] at hb ⊢
            have := hb a (by simp)
            have := hb b (by simp)
            simp only [List.map_cons, List.map_nil, least2]
            unfold mn
            split <;> omega
        have hhm : 0 ≤ mostL (n.inn.map (rd (hiL ns R2))) ∧ mostL (n.inn.map (rd (hiL ns R2))) ≤ 120000000 := by
          have hb : ∀ j ∈ n.inn, 0 ≤ rd (hiL ns R2) j ∧ rd (hiL ns R2) j ≤ 120000000 := fun j hj => (hRj j hj).2 (by rw [hsame j hj]; omega)
          rcases h12 with ⟨a, ea⟩ | ⟨a, b, ea⟩
          · rw [ea] at hb ⊢
            have := hb a (by simp)
            simp only [List.map_cons, List.map_nil, most1]; omega
          · rw [ea] at hb ⊢
            have := hb a (by simp)
            have := hb b (by simp)
            simp only [List.map_cons, List.map_nil, most2]
            unfold mx
            split <;> omega
        generalize leastL (n.inn.map (rd (loL ns R2))) = L at *
        generalize mostL (n.inn.map (rd (hiL ns R2))) = H at *
        rw [w64 (x := ra * n.rLeft) (by omega) (by omega), w64 (by omega) (by omega)] at hu
        rw [w64 (x := n.rSpan - 1) (by omega) (by omega), w64 (x := n.rSpan - 1 - n.rLeft) (by omega) (by omega), w64 (x := ra * _) (by omega) (by omega), w64 (by omega) (by omega)] at hv
        refine ⟨⟨by simp only [Int.natCast_add]; omega, by omega⟩, fun k k0 hf => ?_⟩
        rcases Int.lt_or_le k C with hkC | hkC
        · have key : inpF n (n.inn.map A) w k = inpF n (n.inn.map B) w k := by
            rw [hu, hv, e] at hf
            by_cases hwin : rWin n.k = true
            · have hm : rMany n.k = false := by
                unfold rWin at hwin; unfold rMany
                simp only [Bool.or_eq_true, beq_iff_eq] at hwin
                simp only [Bool.or_eq_false_iff, beq_eq_false_iff_ne]
                omega
              obtain ⟨a, ha⟩ := hn.one_inn hm
              have iha := ih a (by rw [ha]; simp)
              have hsa := hsame a (by rw [ha]; simp)
              have hla := hlo a (by rw [ha]; simp)
              have hha := hhi a (by rw [ha]; simp)
              rw [ha]
              refine inpF_win hwin iha.1 fun j hj t ht t0 t1 => ?_
              obtain ⟨m, hm1, hm2, hm3⟩ := win_at hs hw hwin k0 (by omega) hj
              rw [hm1] at ht
              have p1 := mul_le ra ra m (n.rSpan - 1) (by omega) (Int.le_refl _) hm2 hm3
              have p2 : ra * (n.rSpan - 1 - n.rLeft) = ra * (n.rSpan - 1) - ra * n.rLeft := Int.mul_sub ..
              have p3 : t * ra = k * (ra * n.rStp) - ra * n.rLeft + ra * m := by
                rw [ht, Int.add_mul, Int.sub_mul, Int.mul_assoc, Int.mul_comm n.rStp, Int.mul_comm n.rLeft, Int.mul_comm m]
              refine (iha.2 (by omega)).2 t t0 fun t' a1 a2 a3 a4 => hf t' a1 a2 ?_ ?_
              · rw [hsa, p3] at a3; omega
              · rw [hsa, p3] at a4; omega
            · have hwin : rWin n.k = false := by simpa using hwin
              obtain ⟨o1, o2, o3, _⟩ := hw.one hwin
              rw [o1, o2, o3, Int.mul_one, show (1 : Int) - 1 - 0 = 0 by decide, Int.mul_zero] at hf
              have hX : ∀ X, inpF n X w k = X.map fun s => fr s k := fun X => by
                unfold inpF
                rw [if_neg (by rw [hwin]; decide), if_neg k5]
              rw [hX, hX, List.map_map, List.map_map]
              refine List.map_congr_left fun j hj => ?_
              have ihj := ih j hj
              have hsa := hsame j hj
              have hla := hlo j hj
              have hha := hhi j hj
              refine (ihj.2 (by omega)).2 k k0 fun t' a1 a2 a3 a4 => hf t' a1 a2 ?_ ?_
              · rw [hsa] at a3; omega
              · rw [hsa] at a4; omega
          rw [fA, fB, fr_range k0 (by omega), fr_range k0 (by omega), Int.toNat_of_nonneg k0, key]
        · rw [fr_out (by omega), fr_out (by omega)]
    · obtain rfl : i = 0 := by omega
      rw [h.gg.R0, u0, v0]
      refine ⟨h0, fun _ => ⟨by omega, fun k k0 hf => ?_⟩⟩
      rcases Int.lt_or_le k (A 0).length with hkl | hkl
      · exact hf k k0 hkl (by omega) (by omega)
      · rw [fr_out hkl, fr_out (by omega)]
end
/-! frames of a graph's input -/
structure Fin18 (wd lo hi many : Int) (fs : List (List Int)) : Prop where
  len : (fs.length : Int) = many
  wid : ∀ f ∈ fs, (f.length : Int) = wd
  num : ∀ f ∈ fs, ∀ x ∈ f, lo ≤ x ∧ x ≤ hi
theorem num18 {lo hi x i : Int} (h : lo ≤ hi) (hl : -32768 ≤ lo ∧ hi ≤ 32767) (hi0 : 0 ≤ i ∧ i ≤ 1000) : lo ≤ wrap64 (lo + Int.tmod (wrap64 (wrap64 (Int.tmod x (wrap64 (wrap64 (hi - lo) + 1)) + wrap64 (wrap64 (hi - lo) + 1)) + i)) (wrap64 (wrap64 (hi - lo) + 1))) ∧ wrap64 (lo + Int.tmod (wrap64 (wrap64 (Int.tmod x (wrap64 (wrap64 (hi - lo) + 1)) + wrap64 (wrap64 (hi - lo) + 1)) + i)) (wrap64 (wrap64 (hi - lo) + 1))) ≤ hi := by
  rw [w64 (x := hi - lo) (by omega) (by omega), w64 (x := hi - lo + 1) (by omega) (by omega)]
  have h1 := Int.lt_tmod_of_pos x (show 0 < hi - lo + 1 by omega)
  have h2 := Int.tmod_lt_of_pos x (show 0 < hi - lo + 1 by omega)
  generalize Int.tmod x (hi - lo + 1) = y at *
  rw [w64 (x := y + (hi - lo + 1)) (by omega) (by omega), w64 (x := y + (hi - lo + 1) + i) (by omega) (by omega)]
  have h3 := Int.tmod_nonneg (hi - lo + 1) (show 0 ≤ y + (hi - lo + 1) + i by omega)
  have h4 := Int.tmod_lt_of_pos (y + (hi - lo + 1) + i) (show 0 < hi - lo + 1 by omega)
  generalize Int.tmod (y + (hi - lo + 1) + i) (hi - lo + 1) = z at *
  rw [w64 (by omega) (by omega)]
  omega
theorem Made18_c {T : World → Prop} (Tm : TP T) (wd lo hi out many : Int) (ns : List Nd) (xs : List Int) (hwd : 1 ≤ wd ∧ wd ≤ 16) (hlh : lo ≤ hi) (hl : -32768 ≤ lo ∧ hi ≤ 32767) (hm : 0 ≤ many ∧ many ≤ 1000) :
    Cg Go.Proofs.Tryd.prog T 14 [] [.agg (gcs wd lo hi out (.d (rowN ns))), .d (.i .i64 many), .d (.row [.i .i64 0] (xs.map intC))] (fun r H => H = [] ∧ ∃ fs, Fin18 wd lo hi many fs ∧ r = .d (frD fs)) := by
  refine Cg_of [] Tm Go.Proofs.Tryd.func14 rfl rfl Go.Proofs.Tryd.ntmps14 (by simp) rfl (rs := [.tmp 6]) rfl fun E hP hn hT hpn => ?_
  (repeat (first | refine TS.imp ?_ | refine n9 (by decide) ?_))
  refine TR.imp ?_; intro K hK; simp only [go_sem, hP, hn]; (repeat refine vc ?_); refine hK _ ?_; clear K hK
  (repeat (first | refine TS.imp ?_ | refine n9 (by decide) ?_))
  refine TR.imp ?_; intro K hK; simp only [go_sem, hP, hn]; (repeat refine vc ?_); refine hK _ ?_; clear K hK
  (repeat (first | refine TS.imp ?_ | refine n9 (by decide) ?_))
  refine TR.imp ?_; intro K hK; simp only [go_sem, hP, hn]; (repeat refine vc ?_); refine hK _ ?_; clear K hK
  (repeat (first | refine TS.imp ?_ | refine n9 (by decide) ?_))
  refine Tr.le (Le.nilslot 3007 7 22 [.nil] rfl (by rw [hpn] <;> rfl) rfl rfl) ?_
  simp only [go_sem, hP, hn]
  refine Tr.loop (fun q s => ∃ (i : Int) (F : List (List Int)), s = ⟨[(1, .d (.i .i64 many)), (2, .d (.row [.i .i64 0] (xs.map intC))), (3, .ptr 3 0), (7, .own 3007), (8, .d (.i .i64 i))], [(3, .box 26 (gcs wd lo hi out (.d (rowN ns)))), (3007, .row 22 [.nil] (F.map frE))]⟩ ∧ 0 ≤ i ∧ i + q = many ∧ Fin18 wd lo hi i F) many.toNat ⟨_, ?_, 0, [], rfl, by omega, by omega, ⟨rfl, by simp, by simp⟩⟩ ?_
  · exact (Le.mv (by simp only [go_sem, hP, hn]; first | done | (simp; done) | (simp [intC]; done) | (repeat (first | rfl | constructor))) (by simp only [go_sem, hP, hn]; first | done | (simp; done) | (simp [intC]; done) | (repeat (first | rfl | constructor))))
  rintro q s ⟨i, F, rfl, i0, iq, hF⟩
  (repeat (first | refine TS.imp ?_ | refine n9 (by decide) ?_))
  refine TR.imp ?_; intro K hK; simp only [go_sem, hP, hn]; (repeat refine vc ?_); refine hK _ ?_; clear K hK
  (repeat (first | refine TS.imp ?_ | refine n9 (by decide) ?_))
  refine Tr.cond rfl (fun hb => ?_) (fun hb => ?_)
  · have hi1 : i < many := of_decide_eq_true hb
    clear hb
    have w1 : wrap64 (i + 1) = i + 1 := w64 (by omega) (by omega)
    have hF0 := hF.len
    (repeat (first | refine TS.imp ?_ | refine n9 (by decide) ?_))
    refine TR.imp ?_; intro K hK; simp only [go_sem, hP, hn]; (repeat refine vc ?_); refine hK _ ?_; clear K hK
    (repeat (first | refine TS.imp ?_ | refine n9 (by decide) ?_))
    refine TR.imp ?_; intro K hK; simp only [go_sem, hP, hn]; (repeat refine vc ?_); refine hK _ ?_; clear K hK
    (repeat (first | refine TS.imp ?_ | refine n9 (by decide) ?_))
    refine Tr.loop (fun p s => ∃ (k : Int) (f : List Int), s = ⟨[(1, .d (.i .i64 many)), (2, .d (.row [.i .i64 0] (xs.map intC))), (3, .ptr 3 0), (7, .own 3007), (8, .d (.i .i64 i)), (9, .own 19), (10, .d (.i .i64 k))], [(3, .box 26 (gcs wd lo hi out (.d (rowN ns)))), (3007, .row 22 [.nil] (F.map frE)), (19, .row 3 [.i .i64 0] (f.map intC))]⟩ ∧ 0 ≤ k ∧ k + p = wd ∧ (f.length : Int) = wd ∧ ∀ x ∈ f.take k.toNat, lo ≤ x ∧ x ≤ hi) wd.toNat ⟨_, (Le.mv (by simp only [go_sem, hP, hn]; first | done | (simp; done) | (simp [intC]; done) | (repeat (first | rfl | constructor))) (by simp only [go_sem, hP, hn]; first | done | (simp; done) | (simp [intC]; done) | (repeat (first | rfl | constructor)))), 0, List.replicate wd.toNat 0, rfl, by omega, by omega, by simp; omega, by simp⟩ ?_
    rintro p s ⟨k, f, rfl, k0, kp, hf, hft⟩
    (repeat (first | refine TS.imp ?_ | refine n9 (by decide) ?_))
    refine TR.imp ?_; intro K hK; simp only [go_sem, hP, hn]; (repeat refine vc ?_); refine hK _ ?_; clear K hK
    (repeat (first | refine TS.imp ?_ | refine n9 (by decide) ?_))
    refine Tr.cond rfl (fun hc => ?_) (fun hc => ?_)
    · have hk1 : k < wd := of_decide_eq_true hc
      clear hc
      have w2 : wrap64 (k + 1) = k + 1 := w64 (by omega) (by omega)
      (repeat (first | refine TS.imp ?_ | refine n9 (by decide) ?_))
      refine TR.imp ?_; intro K hK; simp only [go_sem, hP, hn]; (repeat refine vc ?_); refine hK _ ?_; clear K hK
      (repeat (first | refine TS.imp ?_ | refine n9 (by decide) ?_))
      refine TR.imp ?_; intro K hK; simp only [go_sem, hP, hn]; (repeat refine vc ?_); refine hK _ ?_; clear K hK
      (repeat (first | refine TS.imp ?_ | refine n9 (by decide) ?_))
      have hfin : ∀ (g : List Int) (v : Int), (g.length : Int) = wd → g.take k.toNat = f.take k.toNat → lo ≤ v ∧ v ≤ hi → ∀ x ∈ (g.set k.toNat v).take (k + 1).toNat, lo ≤ x ∧ x ≤ hi := fun g v hg ht hv x hx => by
        rw [take_set k0 (by omega), ht] at hx
        rcases List.mem_append.1 hx with hx | hx
        · exact hft x hx
        · obtain rfl : x = v := by simpa using hx
          exact hv
      refine Tr.cond rfl (fun hd => ?_) (fun hd => ?_)
      · have hx : 0 < xs.length := by simpa using hd
        clear hd
        have g1 : wrap64 (i * wd) = i * wd := by
          have : i * wd ≤ 1000 * 16 := Int.mul_le_mul (by omega) (by omega) (by omega) (by omega)
          have : 0 ≤ i * wd := Int.mul_nonneg i0 (by omega)
          exact w64 (by omega) (by omega)
        have g0 : 0 ≤ i * wd := Int.mul_nonneg i0 (by omega)
        have g2 : i * wd ≤ 1000 * 16 := Int.mul_le_mul (by omega) (by omega) (by omega) (by omega)
        have g3 : wrap64 (i * wd + k) = i * wd + k := w64 (by omega) (by omega)
        have g4 := Int.tmod_nonneg (xs.length : Int) (show 0 ≤ i * wd + k by omega)
        have g5 := Int.tmod_lt_of_pos (i * wd + k) (show (0 : Int) < xs.length by omega)
        have g6 : wrap64 (wrap64 (hi - lo) + 1) ≠ 0 := by rw [w64 (x := hi - lo) (by omega) (by omega), w64 (by omega) (by omega)]; omega
        (repeat (first | refine TS.imp ?_ | refine n9 (by decide) ?_))
        refine TR.imp ?_; intro K hK; simp only [go_sem, hP, hn]; (repeat refine vc ?_); refine hK _ ?_; clear K hK
        (repeat (first | refine TS.imp ?_ | refine n9 (by decide) ?_))
        refine Tr.le (Le.keep [1, 2, 3, 7, 8, 9, 10, 11]) ?_; simp only [List.map_cons, List.map_nil, lk, Nat.reduceEqDiff, reduceIte]
        (repeat (first | refine TS.imp ?_ | refine n9 (by decide) ?_))
        (first | refine d1 (.p true 0 (.p true 1 (.p true 2 (.p true 3 (.p true 4 (.p true 5 (.p true 6 (.p true 7 (.p true 8 (.p true 9 (.p true 10 (.p true 11 (.p true 12 (.p true 13 (.p true 14 (.p true 15 (.p true 16 (.p true 17 (.p true 18 (.p true 19 (.p true 20 (.p true 21 (.p true 22 (.p true 23 (.p true 24 (.p true 25 (.alt 26 .nil .nil))))))))))))))))))))))))))) [19] (by rw [hP]; kernel_rfl) (by kernel_rfl) (by simp only [go_sem, hP, hn]; try simp) (fun _ _ h => h) fun K hK => ?_ | refine d2 (.p true 0 (.p true 1 (.p true 2 (.p true 3 (.p true 4 (.p true 5 (.p true 6 (.p true 7 (.p true 8 (.p true 9 (.p true 10 (.p true 11 (.p true 12 (.p true 13 (.p true 14 (.p true 15 (.p true 16 (.p true 17 (.p true 18 (.p true 19 (.p true 20 (.p true 21 (.p true 22 (.p true 23 (.p true 24 (.p true 25 (.alt 26 .nil .nil))))))))))))))))))))))))))) [19] (by rw [hP]; kernel_rfl) (by kernel_rfl) (by simp only [go_sem, hP, hn]; try simp) (fun _ _ h => h) fun K hK => ?_ | refine d4 (.p true 0 (.p true 1 (.p true 2 (.p true 3 (.p true 4 (.p true 5 (.p true 6 (.p true 7 (.p true 8 (.p true 9 (.p true 10 (.p true 11 (.p true 12 (.p true 13 (.p true 14 (.p true 15 (.p true 16 (.p true 17 (.p true 18 (.p true 19 (.p true 20 (.p true 21 (.p true 22 (.p true 23 (.p true 24 (.p true 25 (.alt 26 .nil .nil))))))))))))))))))))))))))) [19] (by rw [hP]; kernel_rfl) (by kernel_rfl) (by simp only [go_sem, hP, hn]; try simp) (fun _ _ h => h) fun K hK => ?_); simp only [go_sem, hP, hn]
        simp only [g1, g3]
        have hnum := num18 (x := rd xs (Int.tmod (i * wd + k) xs.length)) hlh hl (show 0 ≤ i ∧ i ≤ 1000 by omega)
        generalize wrap64 (wrap64 (hi - lo) + 1) = m at *
        generalize Int.tmod (i * wd + k) xs.length = ix at *
        clear g1 g2 g3 g0
        have k2 : k.toNat < f.length := by omega
        simp only [List.length_set]
        (repeat (refine ⟨by first | trivial | omega, ?_⟩))
        refine hK _ ?_; clear K hK
        (repeat (first | refine TS.imp ?_ | refine n9 (by decide) ?_))
        refine TR.imp ?_; intro K hK; simp only [w2, go_sem, hP, hn]; (repeat refine vc ?_); refine hK _ ?_; clear K hK
        (repeat (first | refine TS.imp ?_ | refine n9 (by decide) ?_))
        exact ⟨p - 1, _, by omega, (Le.mv (by simp only [go_sem, hP, hn]; first | done | (simp; done) | (simp [intC]; done) | (repeat (first | rfl | constructor))) (by simp only [go_sem, hP, hn]; first | done | (simp; done) | (simp [intC]; done) | (repeat (first | rfl | constructor)))), k + 1, _, rfl, by omega, by omega, by simp [hf], hfin (f.set k.toNat lo) _ (by simp [hf]) (by rw [List.take_set_of_le (Nat.le_refl _)]) hnum⟩
      · (repeat (first | refine TS.imp ?_ | refine n9 (by decide) ?_))
        refine TR.imp ?_; intro K hK; simp only [w2, go_sem, hP, hn]; (repeat refine vc ?_); refine hK _ ?_; clear K hK
        (repeat (first | refine TS.imp ?_ | refine n9 (by decide) ?_))
        exact ⟨p - 1, _, by omega, (Le.mv (by simp only [go_sem, hP, hn]; first | done | (simp; done) | (simp [intC]; done) | (repeat (first | rfl | constructor))) (by simp only [go_sem, hP, hn]; first | done | (simp; done) | (simp [intC]; done) | (repeat (first | rfl | constructor)))), k + 1, _, rfl, by omega, by omega, by simp [hf], hfin f lo hf rfl ⟨Int.le_refl _, hlh⟩⟩
    · have hk : k = wd := by have := of_decide_eq_false hc; omega
      clear hc
      rw [List.take_of_length_le (by omega)] at hft
      (repeat (first | refine TS.imp ?_ | refine n9 (by decide) ?_))
      refine TR.imp ?_; intro K hK; simp only [go_sem, hP, hn]; (repeat refine vc ?_); refine hK _ ?_; clear K hK
      (repeat (first | refine TS.imp ?_ | refine n9 (by decide) ?_))
      refine TR.imp ?_; intro K hK; simp only [w1, go_sem, hP, hn]; (repeat refine vc ?_); refine hK _ ?_; clear K hK
      (repeat (first | refine TS.imp ?_ | refine n9 (by decide) ?_))
      refine ⟨q - 1, _, by omega, ?_, i + 1, F ++ [f], rfl, by omega, by omega, ⟨by simp; omega, fun g hg => ?_, fun g hg => ?_⟩⟩
      · refine Le.trans (b := ⟨[(1, .d (.i .i64 many)), (2, .d (.row [.i .i64 0] (xs.map intC))), (3, .ptr 3 0), (7, .own 69), (8, .d (.i .i64 (i + 1)))], [(3, .box 26 (gcs wd lo hi out (.d (rowN ns)))), (69, .row 22 [.nil] ((F ++ [f]).map frE))]⟩) ?_ ?_
        · rw [List.map_append (l₁ := F)]
          exact (Le.mv (by simp only [go_sem, hP, hn]; first | done | (simp; done) | (simp [intC]; done) | (repeat (first | rfl | constructor))) (by simp only [go_sem, hP, hn]; first | done | (simp; done) | (simp [intC]; done) | (repeat (first | rfl | constructor))))
        refine Le.trans (Le.ren 69 3007 (by rw [hpn] <;> rfl) rfl rfl) ?_; simp only [renT, renH, renO, renS, renL, rn, go_sem, hP, hn]
        exact Le.refl _
      · rcases List.mem_append.1 hg with hg | hg
        · exact hF.wid g hg
        · obtain rfl : g = f := by simpa using hg
          exact hf
      · rcases List.mem_append.1 hg with hg | hg
        · exact hF.num g hg
        · obtain rfl : g = f := by simpa using hg
          exact hft
  have hi1 : i = many := by have := of_decide_eq_false hb; omega
  subst hi1
  clear hb
  (repeat (first | refine TS.imp ?_ | refine n9 (by decide) ?_))
  refine TR.imp ?_; intro K hK; simp only [go_sem, hP, hn]; (repeat refine vc ?_); refine hK _ ?_; clear K hK
  (repeat (first | refine TS.imp ?_ | refine n9 (by decide) ?_))
  simp only [RetG, go_sem]; (repeat with_reducible refine vc ?_)
  exact ⟨F, hF, rfl⟩
section
attribute [local go_sem] rtup frD insD
theorem wE_rep : ∀ n : Nat, wE (List.replicate n [D.nil]) ((List.replicate n ([] : List (List Int))).map insE)
  | 0 => trivial
  | n + 1 => ⟨by simp [insE, Aw.wd, frD], wE_rep n⟩
theorem setE_ins (l : List (List (List Int))) (i : Nat) (n : List (List Int)) : setE (l.map insE) i 0 [frD n] = (l.set i n).map insE := by
  unfold setE
  apply List.ext_getElem?
  intro j
  rw [List.getElem?_modify, List.getElem?_map, List.getElem?_map, List.getElem?_set]
  by_cases h : i = j
  · subst h
    by_cases h2 : i < l.length
    · simp [h2, insE]
    · simp [h2]
  · simp [h]
/-- all frames of all nodes: each node's, f u i, of its inputs' -/
theorem Streams_c {T : World → Prop} (Tm : TP T) (wd lo hi out many : Int) (ns : List Nd) (os W R : List Int) (fs : List (List Int)) (f : (Int → List (List Int)) → Int → List (List Int)) (G : Int → List (List Int) → Prop) (hwd : 1 ≤ wd ∧ wd ≤ 16) (hns : ns.length ≤ 4000) (hin : ∀ n ∈ ns, n.inn.length ≤ 4096 ∧ n.ws.length ≤ 65536 ∧ n.bs.length ≤ 65536)
    (hok : lookG wd lo hi out ns = (0, os, W, R)) (hW : W.length = ns.length + 1) (hO : RO ns os) (hfs : Fin18 wd lo hi many fs) (hm : 0 ≤ many ∧ many ≤ 1000)
    (hord : ∀ (o1 : List Int) (i : Int) (r : List Int), os = o1 ++ i :: r → ∀ j ∈ (nd ns (i - 1)).inn, j = 0 ∨ j ∈ o1) (hG0 : G 0 fs)
    (hG : ∀ i ∈ os, ∀ u : Int → List (List Int), (∀ j ∈ (nd ns (i - 1)).inn, G j (u j)) → G i (f u i) ∧ Cg Go.Proofs.Tryd.prog T 45 [] [.agg (nd ns (i - 1)).cs, .d (insD ((nd ns (i - 1)).inn.map u)), .d (.i .i64 (rd W (rd (nd ns (i - 1)).inn 0)))] (fun r H => H = [] ∧ r = .d (frD (f u i)))) :
    Cg Go.Proofs.Tryd.prog T 17 [] [.agg (gcs wd lo hi out (.d (rowN ns))), .d (frD fs)] (fun r H => H = [] ∧ r = .agg [.d (insD (ordL [] (fun u _ i => f u i) os (fs :: List.replicate ns.length []))), .d (.i .i64 0)]) := by
  have cL := Look_r Tm wd lo hi out ns (by omega) hin
  rw [← look_same, hok] at cL
  have hl0 := hfs.len
  have w1 : wrap64 ((ns.length : Int) + 1) = ((ns.length + 1 : Nat) : Int) := by rw [w64 (by omega) (by omega)]; omega
  refine Cg_of [] Tm Go.Proofs.Tryd.func17 rfl rfl Go.Proofs.Tryd.ntmps17 (by simp) rfl (rs := [.cell 4 42]) rfl fun E hP hn hT hpn => ?_
  (repeat (first | refine TS.imp ?_ | refine n9 (by decide) ?_))
  refine TR.imp ?_; intro K hK; simp only [go_sem, hP, hn]; (repeat refine vc ?_); refine hK _ ?_; clear K hK
  (repeat (first | refine TS.imp ?_ | refine n9 (by decide) ?_))
  refine TR.imp ?_; intro K hK; simp only [go_sem, hP, hn]
  (repeat refine vc ?_)
  refine CallN_cs (Hi := [] ) (by rw [hP, hT]; exact  cL) rfl rfl rfl trivial (by simp only [go_sem, hP, hn]; try trivial) (by simp only [go_sem, hP, hn]; try rfl) (by simp only [inH, go_sem, hP, hn]; try simp) (by rw [hn]; decide) ?_; simp only [go_sem, hP, hn]; (repeat refine vc ?_)
  refine hK _ ?_; clear K hK
  (repeat (first | refine TS.imp ?_ | refine n9 (by decide) ?_))
  refine TR.imp ?_; intro K hK; simp only [go_sem, hP, hn]; (repeat refine vc ?_); refine hK _ ?_; clear K hK
  (repeat (first | refine TS.imp ?_ | refine n9 (by decide) ?_))
  refine Tr.cond rfl (fun hb => ?_) (fun hb => ?_)
  · cases hb
  clear hb
  (repeat (first | refine TS.imp ?_ | refine n9 (by decide) ?_))
  refine Tr.le (Le.keep [1, 2, 4, 5]) ?_; simp only [List.map_cons, List.map_nil, lk, Nat.reduceEqDiff, reduceIte]
  refine Tr.le (Le.fz 5 5 [.row [.i .i64 0] (os.map intC), .row [.i .i64 0] (W.map intC), .row [.i .i64 0] (R.map intC), .i .i64 0] rfl rfl rfl) ?_
  simp only [go_sem, hP, hn]
  (repeat (first | refine TS.imp ?_ | refine n9 (by decide) ?_))
  refine TR.imp ?_; intro K hK; simp only [go_sem, hP, hn]; (repeat refine vc ?_); refine hK _ ?_; clear K hK
  (repeat (first | refine TS.imp ?_ | refine n9 (by decide) ?_))
  refine Tr.loop (fun q s => ∃ i : Int, s = ⟨[(1, .d (frD fs)), (2, .ptr 2 0), (4, .ptr 4 0), (5, .fptr [.row [.i .i64 0] (os.map intC), .row [.i .i64 0] (W.map intC), .row [.i .i64 0] (R.map intC), .i .i64 0]), (6, .d (.i .i64 i))], [(2, .box 26 (gcs wd lo hi out (.d (rowN ns)))), (4, .box 42 [.d .nil, .d (.i .i64 0)])]⟩ ∧ 0 ≤ i ∧ i + q = fs.length) fs.length ⟨_, ?_, 0, rfl, by omega, by omega⟩ ?_
  · exact (Le.mv (by simp only [go_sem, hP, hn]; first | done | (simp; done) | (simp [intC]; done) | (repeat (first | rfl | constructor))) (by simp only [go_sem, hP, hn]; first | done | (simp; done) | (simp [intC]; done) | (repeat (first | rfl | constructor))))
  rintro q s ⟨i, rfl, i0, iq⟩
  (repeat (first | refine TS.imp ?_ | refine n9 (by decide) ?_))
  refine TR.imp ?_; intro K hK; simp only [go_sem, hP, hn]; (repeat refine vc ?_); refine hK _ ?_; clear K hK
  (repeat (first | refine TS.imp ?_ | refine n9 (by decide) ?_))
  refine Tr.cond rfl (fun hb => ?_) (fun hb => ?_)
  · have hi1 : i < fs.length := by simpa using hb
    clear hb
    have hmem := fr_mem i0 hi1
    have hfw := hfs.wid _ hmem
    have hfn := hfs.num _ hmem
    have hrf := rw_fr fs i i0 hi1
    have w2 : wrap64 (i + 1) = i + 1 := w64 (by omega) (by omega)
    (repeat (first | refine TS.imp ?_ | refine n9 (by decide) ?_))
    (first | refine d1 (.p true 0 (.p true 1 (.p true 2 (.p true 3 (.p true 4 (.p true 5 (.p true 6 (.p true 7 .nil)))))))) [] (by rw [hP]; kernel_rfl) (by kernel_rfl) (by simp only [go_sem, hP, hn]; try simp) (fun _ _ h => h) fun K hK => ?_ | refine d2 (.p true 0 (.p true 1 (.p true 2 (.p true 3 (.p true 4 (.p true 5 (.p true 6 (.p true 7 .nil)))))))) [] (by rw [hP]; kernel_rfl) (by kernel_rfl) (by simp only [go_sem, hP, hn]; try simp) (fun _ _ h => h) fun K hK => ?_ | refine d4 (.p true 0 (.p true 1 (.p true 2 (.p true 3 (.p true 4 (.p true 5 (.p true 6 (.p true 7 .nil)))))))) [] (by rw [hP]; kernel_rfl) (by kernel_rfl) (by simp only [go_sem, hP, hn]; try simp) (fun _ _ h => h) fun K hK => ?_); simp only [go_sem, hP, hn]
    rw [hrf]
    simp only [go_sem, hP, hn]
    (repeat refine vc ?_)
    refine hK _ ?_; clear K hK
    (repeat (first | refine TS.imp ?_ | refine n9 (by decide) ?_))
    refine Tr.cond rfl (fun hc => ?_) (fun hc => ?_)
    · rw [hfw] at hc; simp at hc
    clear hc
    (repeat (first | refine TS.imp ?_ | refine n9 (by decide) ?_))
    refine TR.imp ?_; intro K hK; simp only [go_sem, hP, hn]; (repeat refine vc ?_); refine hK _ ?_; clear K hK
    (repeat (first | refine TS.imp ?_ | refine n9 (by decide) ?_))
    refine Tr.loop (fun p s => ∃ k : Int, s = ⟨[(1, .d (frD fs)), (2, .ptr 2 0), (4, .ptr 4 0), (5, .fptr [.row [.i .i64 0] (os.map intC), .row [.i .i64 0] (W.map intC), .row [.i .i64 0] (R.map intC), .i .i64 0]), (6, .d (.i .i64 i)), (7, .d (.i .i64 k))], [(2, .box 26 (gcs wd lo hi out (.d (rowN ns)))), (4, .box 42 [.d .nil, .d (.i .i64 0)])]⟩ ∧ 0 ≤ k ∧ k + p = wd) wd.toNat ⟨_, ?_, 0, rfl, by omega, by omega⟩ ?_
    · exact (Le.mv (by simp only [go_sem, hP, hn]; first | done | (simp; done) | (simp [intC]; done) | (repeat (first | rfl | constructor))) (by simp only [go_sem, hP, hn]; first | done | (simp; done) | (simp [intC]; done) | (repeat (first | rfl | constructor))))
    rintro p s ⟨k, rfl, k0, kp⟩
    (repeat (first | refine TS.imp ?_ | refine n9 (by decide) ?_))
    refine TR.imp ?_; intro K hK; simp only [go_sem, hP, hn]; (repeat refine vc ?_); refine hK _ ?_; clear K hK
    (repeat (first | refine TS.imp ?_ | refine n9 (by decide) ?_))
    refine Tr.cond rfl (fun hc => ?_) (fun hc => ?_)
    · have hk : k < wd := of_decide_eq_true hc
      clear hc
      have hx := hfn _ (rd_mem k0 (show k < (fr fs i).length by omega))
      have w3 : wrap64 (k + 1) = k + 1 := w64 (by omega) (by omega)
      (repeat (first | refine TS.imp ?_ | refine n9 (by decide) ?_))
      (first | refine d1 (.p true 0 (.p true 1 (.p true 2 (.p true 3 (.p true 4 (.p true 5 (.p true 6 (.p true 7 (.p true 8 (.p true 9 (.p true 10 (.p true 11 (.p true 12 (.p true 13 (.p true 14 (.p true 15 (.p true 16 (.p true 17 (.p true 18 (.p true 19 (.p true 20 (.p true 21 .nil)))))))))))))))))))))) [] (by rw [hP]; kernel_rfl) (by kernel_rfl) (by simp only [go_sem, hP, hn]; try simp) (fun _ _ h => h) fun K hK => ?_ | refine d2 (.p true 0 (.p true 1 (.p true 2 (.p true 3 (.p true 4 (.p true 5 (.p true 6 (.p true 7 (.p true 8 (.p true 9 (.p true 10 (.p true 11 (.p true 12 (.p true 13 (.p true 14 (.p true 15 (.p true 16 (.p true 17 (.p true 18 (.p true 19 (.p true 20 (.p true 21 .nil)))))))))))))))))))))) [] (by rw [hP]; kernel_rfl) (by kernel_rfl) (by simp only [go_sem, hP, hn]; try simp) (fun _ _ h => h) fun K hK => ?_ | refine d4 (.p true 0 (.p true 1 (.p true 2 (.p true 3 (.p true 4 (.p true 5 (.p true 6 (.p true 7 (.p true 8 (.p true 9 (.p true 10 (.p true 11 (.p true 12 (.p true 13 (.p true 14 (.p true 15 (.p true 16 (.p true 17 (.p true 18 (.p true 19 (.p true 20 (.p true 21 .nil)))))))))))))))))))))) [] (by rw [hP]; kernel_rfl) (by kernel_rfl) (by simp only [go_sem, hP, hn]; try simp) (fun _ _ h => h) fun K hK => ?_); simp only [go_sem, hP, hn]
      rw [hrf]
      simp only [go_sem, hP, hn]
      (repeat refine vc ?_)
      refine hK _ ?_; clear K hK
      (repeat (first | refine TS.imp ?_ | refine n9 (by decide) ?_))
      refine Tr.cond rfl (fun hd => ?_) (fun hd => ?_)
      · exfalso
        simp at hd
        omega
      (repeat (first | refine TS.imp ?_ | refine n9 (by decide) ?_))
      refine TR.imp ?_; intro K hK; simp only [w3, go_sem, hP, hn]; (repeat refine vc ?_); refine hK _ ?_; clear K hK
      (repeat (first | refine TS.imp ?_ | refine n9 (by decide) ?_))
      exact ⟨p - 1, _, by omega, (Le.mv (by simp only [go_sem, hP, hn]; first | done | (simp; done) | (simp [intC]; done) | (repeat (first | rfl | constructor))) (by simp only [go_sem, hP, hn]; first | done | (simp; done) | (simp [intC]; done) | (repeat (first | rfl | constructor)))), k + 1, rfl, by omega, by omega⟩
    (repeat (first | refine TS.imp ?_ | refine n9 (by decide) ?_))
    refine TR.imp ?_; intro K hK; simp only [w2, go_sem, hP, hn]; (repeat refine vc ?_); refine hK _ ?_; clear K hK
    (repeat (first | refine TS.imp ?_ | refine n9 (by decide) ?_))
    exact ⟨q - 1, _, by omega, (Le.mv (by simp only [go_sem, hP, hn]; first | done | (simp; done) | (simp [intC]; done) | (repeat (first | rfl | constructor))) (by simp only [go_sem, hP, hn]; first | done | (simp; done) | (simp [intC]; done) | (repeat (first | rfl | constructor)))), i + 1, rfl, by omega, by omega⟩
  clear hb
  (repeat (first | refine TS.imp ?_ | refine n9 (by decide) ?_))
  refine TR.imp ?_; intro K hK; simp only [w1, go_sem, hP, hn]; (repeat refine vc ?_); refine hK _ ?_; clear K hK
  (repeat (first | refine TS.imp ?_ | refine n9 (by decide) ?_))
  refine Tr.le (Le.wrow 69 ((List.replicate (ns.length + 1) ([] : List (List Int))).map insE) rfl (wE_rep _)) ?_
  simp only [go_sem, hP, hn]
  (repeat (first | refine TS.imp ?_ | refine n9 (by decide) ?_))
  refine TR.imp ?_; intro K hK; simp only [go_sem, hP, hn]; (repeat refine vc ?_); refine hK _ ?_; clear K hK
  (repeat (first | refine TS.imp ?_ | refine n9 (by decide) ?_))
  refine TR.imp ?_; intro K hK; simp only [go_sem, hP, hn]; (repeat refine vc ?_); refine hK _ ?_; clear K hK
  (repeat (first | refine TS.imp ?_ | refine n9 (by decide) ?_))
  generalize hOUT : ordL [] (fun u _ i => f u i) os (fs :: List.replicate ns.length []) = OUT
  refine Tr.loop (fun q s => ∃ (k : Nat) (o : List (List (List Int))), s = ⟨[(1, .d (frD fs)), (2, .ptr 2 0), (4, .ptr 4 0), (5, .fptr [.row [.i .i64 0] (os.map intC), .row [.i .i64 0] (W.map intC), .row [.i .i64 0] (R.map intC), .i .i64 0]), (8, .own 69), (9, .d (.i .i64 k))], [(2, .box 26 (gcs wd lo hi out (.d (rowN ns)))), (4, .box 42 [.d .nil, .d (.i .i64 0)]), (69, .row 32 [.nil] (o.map insE))]⟩ ∧ k + q = os.length ∧ o.length = ns.length + 1 ∧ ordL [] (fun u _ i => f u i) (os.drop k) o = OUT ∧ ∀ j : Int, (j = 0 ∨ j ∈ os.take k) → G j (ga [] o j)) os.length ⟨_, ?_, 0, fs :: List.replicate ns.length [], rfl, by omega, by simp, hOUT, fun j hj => ?_⟩ ?_
  · exact (Le.mv (by simp only [go_sem, hP, hn]; first | done | (simp; done) | (simp [intC]; done) | (repeat (first | rfl | constructor))) (by simp only [go_sem, hP, hn]; first | done | (simp; done) | (simp [intC]; done) | (repeat (first | rfl | constructor))))
  · obtain rfl : j = 0 := by simpa using hj
    exact hG0
  rintro q s ⟨k, o, rfl, kq, hol, hro, hgo⟩
  (repeat (first | refine TS.imp ?_ | refine n9 (by decide) ?_))
  refine TR.imp ?_; intro K hK; simp only [go_sem, hP, hn]; (repeat refine vc ?_); refine hK _ ?_; clear K hK
  (repeat (first | refine TS.imp ?_ | refine n9 (by decide) ?_))
  refine Tr.cond rfl (fun hb => ?_) (fun hb => ?_)
  · have hk : k < os.length := by simpa using hb
    clear hb
    have hmo := rd_mem (l := os) (j := (k : Int)) (by omega) (by omega)
    obtain ⟨⟨hi1, hi2⟩, hj, hl1⟩ := hO.nd _ hmo
    have hdr := drop_rd (l := os) (j := (k : Int)) (by omega) (by omega)
    rw [show ((k : Int) + 1).toNat = k + 1 by omega, Int.toNat_natCast] at hdr
    have hsp := (List.take_append_drop k os).symm
    rw [hdr] at hsp
    have hjo := hord _ _ _ hsp
    clear hsp
    rw [hdr, ordL] at hro
    clear hdr
    obtain ⟨hGi, cN⟩ := hG _ hmo (ga [] o) fun j hj => hgo j (hjo j hj)
    have hnd := rw_nd ns (rd os k - 1) (by omega) (by omega)
    have hini := hin _ (nd_mem (ns := ns) (i := rd os k - 1) (by omega) (by omega))
    have q1 : (0 : Int) ≤ (k : Int) := by omega
    have q2 : (k : Int) < os.length := by omega
    have q3 : 0 ≤ rd os k - 1 := by omega
    have q4 : rd os k - 1 < ns.length := by omega
    have w3 : Unit → wrap64 ((k : Int) + 1) = ((k + 1 : Nat) : Int) := fun _ => by
      have := hO.le
      rw [w64 (by omega) (by omega)]; omega
    have hil0 : ∀ j ∈ (nd ns (rd os k - 1)).inn, j.toNat < o.length := fun j hjx => by have := hj j hjx; omega
    have w2 : wrap64 (rd os k - 1) = rd os k - 1 := w64 (by omega) (by omega)
    have hk2 : (os.map intC).getD k [.i .i64 0] = [.i .i64 (rd os k)] := by
      have := rw_intC os (k : Int)
      rwa [Int.toNat_natCast] at this
    clear w1
    (repeat (first | refine TS.imp ?_ | refine n9 (by decide) ?_))
    (first | refine d1 (.p true 0 (.p true 1 (.p true 2 (.p true 3 (.p true 4 (.p true 5 (.p true 6 (.p true 7 (.p true 8 (.p true 9 (.alt 10 (.alt 11 .nil .nil) .nil))))))))))) [] (by rw [hP]; kernel_rfl) (by kernel_rfl) (by simp only [go_sem, hP, hn]; try simp) (fun _ _ h => h) fun K hK => ?_ | refine d2 (.p true 0 (.p true 1 (.p true 2 (.p true 3 (.p true 4 (.p true 5 (.p true 6 (.p true 7 (.p true 8 (.p true 9 (.alt 10 (.alt 11 .nil .nil) .nil))))))))))) [] (by rw [hP]; kernel_rfl) (by kernel_rfl) (by simp only [go_sem, hP, hn]; try simp) (fun _ _ h => h) fun K hK => ?_ | refine d4 (.p true 0 (.p true 1 (.p true 2 (.p true 3 (.p true 4 (.p true 5 (.p true 6 (.p true 7 (.p true 8 (.p true 9 (.alt 10 (.alt 11 .nil .nil) .nil))))))))))) [] (by rw [hP]; kernel_rfl) (by kernel_rfl) (by simp only [go_sem, hP, hn]; try simp) (fun _ _ h => h) fun K hK => ?_); simp only [go_sem, hP, hn]
    rw [hk2]
    simp only [go_sem, hP, hn]
    simp only [w2, hnd]
    simp only [go_sem, hP, hn]
    simp only [q1, q2, q3, q4, and_self, true_and, Nat.reduceLT]
    clear w2
    have htk : os.take (k + 1) = os.take k ++ [rd os k] := by
      have := take_rd (l := os) (j := (k : Int)) (by omega) (by omega)
      rwa [show ((k : Int) + 1).toNat = k + 1 by omega, Int.toNat_natCast] at this
    generalize rd os k = i at *
    generalize nd ns (i - 1) = x at *
    refine hK _ ?_; clear K hK
    (repeat (first | refine TS.imp ?_ | refine n9 (by decide) ?_))
    refine TR.imp ?_; intro K hK; simp only [go_sem, hP, hn]; (repeat refine vc ?_); refine hK _ ?_; clear K hK
    (repeat (first | refine TS.imp ?_ | refine n9 (by decide) ?_))
    refine TR.imp ?_; intro K hK; simp only [go_sem, hP, hn]; (repeat refine vc ?_); refine hK _ ?_; clear K hK
    (repeat (first | refine TS.imp ?_ | refine n9 (by decide) ?_))
    refine Tr.le (Le.nilslot 3011 11 32 [.nil] rfl (by rw [hpn] <;> rfl) rfl rfl) ?_
    simp only [go_sem, hP, hn]
    refine Tr.loop (fun p s => ∃ (j : Int) (F : List (List (List Int))), s = ⟨[(1, .d (frD fs)), (2, .ptr 2 0), (4, .ptr 4 0), (5, .fptr [.row [.i .i64 0] (os.map intC), .row [.i .i64 0] (W.map intC), .row [.i .i64 0] (R.map intC), .i .i64 0]), (8, .own 69), (9, .d (.i .i64 k)), (10, .ptr 10 0), (11, .own 3011), (12, .d (.i .i64 j))], [(2, .box 26 (gcs wd lo hi out (.d (rowN ns)))), (4, .box 42 [.d .nil, .d (.i .i64 0)]), (69, .row 32 [.nil] (o.map insE)), (10, .box 50 x.cs), (3011, .row 32 [.nil] (F.map insE))]⟩ ∧ 0 ≤ j ∧ j + p = x.inn.length ∧ F = (x.inn.take j.toNat).map (ga [] o)) x.inn.length ⟨_, ?_, 0, [], rfl, by omega, by omega, rfl⟩ ?_
    · exact (Le.mv (by simp only [go_sem, hP, hn]; first | done | (simp; done) | (simp [intC]; done) | (repeat (first | rfl | constructor))) (by simp only [go_sem, hP, hn]; first | done | (simp; done) | (simp [intC]; done) | (repeat (first | rfl | constructor))))
    rintro p s ⟨j, F, rfl, j0, jp, hFj⟩
    (repeat (first | refine TS.imp ?_ | refine n9 (by decide) ?_))
    refine TR.imp ?_; intro K hK; simp only [go_sem, hP, hn]; (repeat refine vc ?_); refine hK _ ?_; clear K hK
    (repeat (first | refine TS.imp ?_ | refine n9 (by decide) ?_))
    refine Tr.cond rfl (fun hc => ?_) (fun hc => ?_)
    · have hj1 : j < x.inn.length := by simpa using hc
      clear hc
      have hjr := hj _ (rd_mem j0 hj1)
      have hri := rw_ins o (rd x.inn j) (by omega) (by omega)
      have w4 : Unit → wrap64 (j + 1) = j + 1 := fun _ => w64 (by omega) (by omega)
      have z1 := hjr.1
      have hFl : F.length ≤ 4096 := by
        rw [hFj, List.length_map, List.length_take]; omega
      have z2 : rd x.inn j < o.length := by omega
      have hil := hil0 _ (rd_mem j0 hj1)
      (repeat (first | refine TS.imp ?_ | refine n9 (by decide) ?_))
      refine TR.imp ?_; intro K hK; simp only [hri, go_sem, hP, hn]
      simp only [z1, z2, j0, hj1, hil, insE, and_self, true_and, Nat.reduceLT, Nat.zero_lt_one, List.length_cons, List.length_nil]
      (repeat (refine ⟨by first | trivial | omega, ?_⟩))
      refine hK _ ?_; clear K hK
      (repeat (first | refine TS.imp ?_ | refine n9 (by decide) ?_))
      replace w4 := w4 ()
      refine TR.imp ?_; intro K hK; simp only [w4, go_sem, hP, hn]; (repeat refine vc ?_); refine hK _ ?_; clear K hK
      (repeat (first | refine TS.imp ?_ | refine n9 (by decide) ?_))
      refine ⟨p - 1, _, by omega, ?_, j + 1, F ++ [inF o (rd x.inn j)], rfl, by omega, by omega, ?_⟩
      · refine Le.trans (b := ⟨[(1, .d (frD fs)), (2, .ptr 2 0), (4, .ptr 4 0), (5, .fptr [.row [.i .i64 0] (os.map intC), .row [.i .i64 0] (W.map intC), .row [.i .i64 0] (R.map intC), .i .i64 0]), (8, .own 69), (9, .d (.i .i64 k)), (10, .ptr 10 0), (11, .own 107), (12, .d (.i .i64 (j + 1)))], [(2, .box 26 (gcs wd lo hi out (.d (rowN ns)))), (4, .box 42 [.d .nil, .d (.i .i64 0)]), (69, .row 32 [.nil] (o.map insE)), (10, .box 50 x.cs), (107, .row 32 [.nil] ((F ++ [inF o (rd x.inn j)]).map insE))]⟩) ?_ ?_
        · rw [List.map_append (l₁ := F)]
          exact (Le.mv (by simp only [go_sem, hP, hn]; first | done | (simp; done) | (simp [intC]; done) | (repeat (first | rfl | constructor))) (by simp only [go_sem, hP, hn]; first | done | (simp; done) | (simp [intC]; done) | (repeat (first | rfl | constructor))))
        refine Le.trans (Le.ren 107 3011 (by rw [hpn] <;> rfl) rfl rfl) ?_; simp only [renT, renH, renO, renS, renL, rn, go_sem, hP, hn]
        exact Le.refl _
      · rw [hFj, take_rd j0 hj1, List.map_append, List.map_cons, List.map_nil]
        rfl
    · have hj1 : j = x.inn.length := by have := of_decide_eq_false hc; omega
      subst hj1
      rw [Int.toNat_natCast, List.take_length] at hFj
      subst hFj
      clear hc
      refine Tr.le (Le.freeze 3011) ?_
      simp only [go_sem, hP, hn]
      have hj0 := hj _ (rd_mem (l := x.inn) (j := 0) (by omega) (by omega))
      have q5 : rd x.inn 0 < W.length := by omega
      have q6 : 0 ≤ i := by omega
      have q7 : i < o.length := by omega
      have q8 : (0 : Int) < x.inn.length := by omega
      have q9 := hj0.1
      have q10 : i.toNat < o.length := by omega
      (repeat (first | refine TS.imp ?_ | refine n9 (by decide) ?_))
      refine Tr.le (Le.keep [1, 2, 4, 5, 8, 9, 10, 11]) ?_; simp only [List.map_cons, List.map_nil, lk, Nat.reduceEqDiff, reduceIte]
      (repeat (first | refine TS.imp ?_ | refine n9 (by decide) ?_))
      have hgn : ∀ j : Int, (j = 0 ∨ j ∈ os.take (k + 1)) → G j (ga [] (o.set i.toNat (f (ga [] o) i)) j) := fun j hj => by
        have hj0 : 0 ≤ j := by
          rcases hj with rfl | hj
          · exact Int.le_refl _
          · have := (hO.nd j (List.mem_of_mem_take hj)).1.1; omega
        rw [ga_set q6 q7 hj0]
        split
        · rename_i e; subst e; exact hGi
        · rename_i hne
          refine hgo j ?_
          rcases hj with hj | hj
          · exact .inl hj
          · rw [htk] at hj
            rcases List.mem_append.1 hj with hj | hj
            · exact .inr hj
            · exact absurd (by simpa using hj) hne
      have hset : (o.set i.toNat (f (ga [] o) i)).map insE = (o.map insE).set i.toNat [frD (f (ga [] o) i)] := by rw [List.map_set]; rfl
      (first | refine d1 (.p true 0 (.p true 1 (.p true 2 (.p true 3 (.p true 4 (.p true 5 (.p true 6 (.p true 7 (.p true 8 (.p true 9 (.p true 10 (.p true 11 (.p true 12 (.p true 13 (.p true 14 (.p true 15 (.alt 16 (.p true 17 (.alt 18 .nil .nil)) .nil))))))))))))))))) [69] (by rw [hP]; kernel_rfl) (by kernel_rfl) (by simp only [go_sem, hP, hn]; try simp) (fun _ _ h => h) fun K hK => ?_ | refine d2 (.p true 0 (.p true 1 (.p true 2 (.p true 3 (.p true 4 (.p true 5 (.p true 6 (.p true 7 (.p true 8 (.p true 9 (.p true 10 (.p true 11 (.p true 12 (.p true 13 (.p true 14 (.p true 15 (.alt 16 (.p true 17 (.alt 18 .nil .nil)) .nil))))))))))))))))) [69] (by rw [hP]; kernel_rfl) (by kernel_rfl) (by simp only [go_sem, hP, hn]; try simp) (fun _ _ h => h) fun K hK => ?_ | refine d4 (.p true 0 (.p true 1 (.p true 2 (.p true 3 (.p true 4 (.p true 5 (.p true 6 (.p true 7 (.p true 8 (.p true 9 (.p true 10 (.p true 11 (.p true 12 (.p true 13 (.p true 14 (.p true 15 (.alt 16 (.p true 17 (.alt 18 .nil .nil)) .nil))))))))))))))))) [69] (by rw [hP]; kernel_rfl) (by kernel_rfl) (by simp only [go_sem, hP, hn]; try simp) (fun _ _ h => h) fun K hK => ?_); simp only [go_sem, hP, hn]
      rw [hk2]
      simp only [go_sem, hP, hn]
      simp only [q1, q2, q5, q6, q7, q8, q9, q10, and_self, true_and, Nat.reduceLT, Nat.zero_lt_one]
      (repeat (refine ⟨by first | trivial | omega, ?_⟩))
      refine CallP_cs (by rw [hP, hT]; exact cN) rfl rfl rfl trivial (by simp only [go_sem, hP, hn]; try trivial) (by simp only [go_sem, hP, hn]; try rfl) (by rw [hn]; decide) ?_
      simp only [go_sem, hP, hn]
      simp only [q1, q2, q5, q6, q7, q8, q9, q10, and_self, true_and, Nat.reduceLT, Nat.zero_lt_one, List.length_map]
      (repeat (refine ⟨by first | trivial | omega, ?_⟩))
      refine hK _ ?_; clear K hK
      (repeat (first | refine TS.imp ?_ | refine n9 (by decide) ?_))
      have z3 : q - 1 < q := by omega
      have z4 : k + 1 + (q - 1) = os.length := by omega
      have z5 : (o.set i.toNat (f (ga [] o) i)).length = ns.length + 1 := by simp [hol]
      replace w3 := w3 ()
      refine TR.imp ?_; intro K hK; simp only [w3, go_sem, hP, hn]
      (repeat (refine ⟨by first | trivial | omega, ?_⟩))
      refine hK _ ?_; clear K hK
      (repeat (first | refine TS.imp ?_ | refine n9 (by decide) ?_))
      clear w3
      refine ⟨q - 1, _, z3, ?_, k + 1, o.set i.toNat (f (ga [] o) i), rfl, z4, z5, hro, hgn⟩
      have hse : setE (o.map insE) i.toNat 0 [D.row [D.nil] (List.map frE (f (ga [] o) i))] = (o.set i.toNat (f (ga [] o) i)).map insE := setE_ins o i.toNat _
      rw [← hse]
      exact (Le.mv (by simp only [go_sem, hP, hn]; first | done | (simp; done) | (simp [intC]; done) | (repeat (first | rfl | constructor))) (by simp only [go_sem, hP, hn]; first | done | (simp; done) | (simp [intC]; done) | (repeat (first | rfl | constructor))))
  have hk : k = os.length := by
    have : ¬ k < os.length := by simpa using hb
    omega
  subst hk
  rw [List.drop_length, ordL] at hro
  subst hro
  clear hb
  (repeat (first | refine TS.imp ?_ | refine n9 (by decide) ?_))
  refine TR.imp ?_; intro K hK; simp only [go_sem, hP, hn]; (repeat refine vc ?_); refine hK _ ?_; clear K hK
  (repeat (first | refine TS.imp ?_ | refine n9 (by decide) ?_))
  simp only [RetG, go_sem]; (repeat with_reducible refine vc ?_)
  all_goals omega
end
/-! the document's sat and round, over words -/
theorem Word_c {T : World → Prop} (Tm : TP T) (x : Int) : Ct Go.Proofs.Tryd.prog T 133 [.d (.i .i64 x)] true (fun r => r = .d (.b (fits32 x))) := by
  refine Ct_of Tm Go.Proofs.Tryd.func133 rfl rfl Go.Proofs.Tryd.ntmps133 (by simp) (rs := [.tmp 2]) rfl fun E hP hn hT => ?_
  (repeat (first | (refine TR.imp ?_; intro K hK; simp only [go_sem, hP, hn]; (repeat refine vc ?_); refine hK _ ?_; clear K hK) | refine TS.imp ?_ | refine n9 (by decide) ?_))
  simp only [RetQ, go_sem]
  unfold fits32
  congr 2
  rw [Bool.eq_iff_iff]; simp; omega
theorem May32_c {T : World → Prop} (Tm : TP T) : Ct Go.Proofs.Tryd.prog T 152 [.d (.i .i64 32)] true (fun r => r = .d (.b true)) := by
  refine Ct_of Tm Go.Proofs.Tryd.func152 rfl rfl Go.Proofs.Tryd.ntmps152 (by simp) (rs := [.tmp 2]) rfl fun E hP hn hT => ?_
  (repeat (first | (refine TR.imp ?_; intro K hK; simp only [go_sem, hP, hn]; (repeat refine vc ?_); refine hK _ ?_; clear K hK) | refine TS.imp ?_ | refine n9 (by decide) ?_))
  simp only [RetQ, go_sem]
  rfl
theorem pw_step : ∀ n : Fin 62, wrap64 (-(2 ^ n.val) * 2) = -(2 ^ (n.val + 1)) ∧ wrap64 (2 ^ n.val * 2) = 2 ^ (n.val + 1) := by decide +kernel
theorem Low32_c {T : World → Prop} (Tm : TP T) : Ct Go.Proofs.Tryd.prog T 153 [.d (.i .i64 32)] true (fun r => r = .d (.i .i64 (-2147483648))) := by
  refine Ct_of Tm Go.Proofs.Tryd.func153 rfl rfl Go.Proofs.Tryd.ntmps153 (by simp) (rs := [.tmp 2]) rfl fun E hP hn hT => ?_
  (repeat (first | (refine TR.imp ?_; intro K hK; simp only [go_sem, hP, hn]; (repeat refine vc ?_); refine hK _ ?_; clear K hK) | refine TS.imp ?_ | refine n9 (by decide) ?_))
  refine Tr.loop (fun m s => ∃ (k : Nat), s = ⟨[(0, .d (.i .i64 32)), (3, .d (.i .i64 (-(2 ^ k)))), (4, .d (.i .i64 (k + 1 : Int)))], []⟩ ∧ k + m = 31) 31 ⟨_, (Le.mv (by simp only [go_sem, hP, hn]; first | done | (simp; done) | (simp [intC]; done) | (repeat (first | rfl | constructor))) (by simp only [go_sem, hP, hn]; first | done | (simp; done) | (simp [intC]; done) | (repeat (first | rfl | constructor)))), 0, rfl, rfl⟩ ?_
  rintro m s ⟨k, rfl, hk⟩
  (repeat (first | (refine TR.imp ?_; intro K hK; simp only [go_sem, hP, hn]; (repeat refine vc ?_); refine hK _ ?_; clear K hK) | refine TS.imp ?_ | refine n9 (by decide) ?_))
  refine Tr.cond rfl (fun hb => ?_) (fun hb => ?_)
  · have hk1 : (k : Int) + 1 < 32 := by simpa using hb
    have hs := (pw_step ⟨k, by omega⟩).1
    simp only at hs
    (repeat (first | (refine TR.imp ?_; intro K hK; simp only [go_sem, hP, hn]; (repeat refine vc ?_); refine hK _ ?_; clear K hK) | refine TS.imp ?_ | refine n9 (by decide) ?_))
    rw [w64 (x := (k : Int) + 1 + 1) (by omega) (by omega)]
    refine ⟨m - 1, _, by omega, ?_, k + 1, rfl, by omega⟩
    rw [← hs]
    exact (Le.mv (by simp only [go_sem, hP, hn]; first | done | (simp; done) | (simp [intC]; done) | (repeat (first | rfl | constructor))) (by simp only [go_sem, hP, hn]; first | done | (simp; done) | (simp [intC]; done) | (repeat (first | rfl | constructor))))
  · have hk1 : k = 31 := by have := of_decide_eq_false hb; omega
    subst hk1
    (repeat (first | (refine TR.imp ?_; intro K hK; simp only [go_sem, hP, hn]; (repeat refine vc ?_); refine hK _ ?_; clear K hK) | refine TS.imp ?_ | refine n9 (by decide) ?_))
    simp only [RetQ, go_sem]
    rfl
theorem rClamp_c {T : World → Prop} (Tm : TP T) (x l h : Int) : Ct Go.Proofs.Tryd.prog T 114 [.d (.i .i64 x), .d (.i .i64 l), .d (.i .i64 h)] true (fun r => r = .d (.i .i64 (clampV x l h))) := by
  refine Ct_of Tm Go.Proofs.Tryd.func114 rfl rfl Go.Proofs.Tryd.ntmps114 (by simp) (rs := [.tmp 6]) rfl fun E hP hn hT => ?_
  (repeat (first | (refine TR.imp ?_; intro K hK; simp only [go_sem, hP, hn]; (repeat refine vc ?_); refine hK _ ?_; clear K hK) | refine TS.imp ?_ | refine n9 (by decide) ?_))
  unfold clampV
  refine Tr.cond rfl (fun hb => ?_) (fun hb => ?_)
  · have h1 : x < l := by simpa using hb
    (repeat (first | (refine TR.imp ?_; intro K hK; simp only [go_sem, hP, hn]; (repeat refine vc ?_); refine hK _ ?_; clear K hK) | refine TS.imp ?_ | refine n9 (by decide) ?_))
    simp only [RetQ, go_sem]
    simp [h1]
  · have h1 : ¬ x < l := by simpa using hb
    (repeat (first | (refine TR.imp ?_; intro K hK; simp only [go_sem, hP, hn]; (repeat refine vc ?_); refine hK _ ?_; clear K hK) | refine TS.imp ?_ | refine n9 (by decide) ?_))
    refine Tr.cond rfl (fun hc => ?_) (fun hc => ?_)
    · have h2 : h < x := by simpa using hc
      (repeat (first | (refine TR.imp ?_; intro K hK; simp only [go_sem, hP, hn]; (repeat refine vc ?_); refine hK _ ?_; clear K hK) | refine TS.imp ?_ | refine n9 (by decide) ?_))
      simp only [RetQ, go_sem]
      simp [h1, h2]
    · have h2 : ¬ h < x := by simpa using hc
      (repeat (first | (refine TR.imp ?_; intro K hK; simp only [go_sem, hP, hn]; (repeat refine vc ?_); refine hK _ ?_; clear K hK) | refine TS.imp ?_ | refine n9 (by decide) ?_))
      simp only [RetQ, go_sem]
      simp [h1, h2]
theorem rSat_c {T : World → Prop} (Tm : TP T) (x : Int) : Ct Go.Proofs.Tryd.prog T 137 [.d (.i .i64 x), .d (.i .i64 32)] true (fun r => r = .d (.i .i64 (clampV x (-2147483648) 2147483647))) := by
  have e1 : wrap64 (-1 - -2147483648) = 2147483647 := w64 (by decide) (by decide)
  refine Ct_of Tm Go.Proofs.Tryd.func137 rfl rfl Go.Proofs.Tryd.ntmps137 (by simp) (rs := [.tmp 4]) rfl fun E hP hn hT => ?_
  (repeat (first | refine TS.imp ?_ | refine n9 (by decide) ?_))
  refine TR.imp ?_; intro K hK; simp only [go_sem, hP, hn]; (repeat refine vc ?_); refine hK _ ?_; clear K hK
  (repeat (first | refine TS.imp ?_ | refine n9 (by decide) ?_))
  refine TR.imp ?_; intro K hK; simp only [go_sem, hP, hn]; (repeat refine vc ?_); refine c1 (by rw [hP, hT]; exact May32_c Tm) rfl rfl rfl trivial (by simp only [go_sem, hP, hn]; try trivial) (by simp only [go_sem, hP, hn]; try rfl) (by rw [hn]; decide) (by rfl) ?_; simp only [go_sem, hP, hn]; (repeat refine vc ?_); refine hK _ ?_; clear K hK
  (repeat (first | refine TS.imp ?_ | refine n9 (by decide) ?_))
  refine TR.imp ?_; intro K hK; simp only [go_sem, hP, hn]; (repeat refine vc ?_); refine hK _ ?_; clear K hK
  (repeat (first | refine TS.imp ?_ | refine n9 (by decide) ?_))
  refine Tr.cond rfl (fun hb => ?_) (fun hb => ?_)
  · exact absurd hb (by decide)
  (repeat (first | refine TS.imp ?_ | refine n9 (by decide) ?_))
  refine TR.imp ?_; intro K hK; simp only [go_sem, hP, hn]; (repeat refine vc ?_); refine c1 (by rw [hP, hT]; exact Low32_c Tm) rfl rfl rfl trivial (by simp only [go_sem, hP, hn]; try trivial) (by simp only [go_sem, hP, hn]; try rfl) (by rw [hn]; decide) (by rfl) ?_; simp only [go_sem, hP, hn]; (repeat refine vc ?_); refine hK _ ?_; clear K hK
  (repeat (first | refine TS.imp ?_ | refine n9 (by decide) ?_))
  refine TR.imp ?_; intro K hK; simp only [e1, go_sem, hP, hn]
  (repeat refine vc ?_)
  refine c1 (by rw [hP, hT]; exact rClamp_c Tm x (-2147483648) 2147483647) rfl rfl rfl trivial (by simp only [go_sem, hP, hn]; try trivial) (by simp only [go_sem, hP, hn]; try rfl) (by rw [hn]; decide) (by rfl) ?_; simp only [go_sem, hP, hn]; (repeat refine vc ?_)
  refine hK _ ?_; clear K hK
  (repeat (first | refine TS.imp ?_ | refine n9 (by decide) ?_))
  simp only [RetQ, go_sem]
theorem plus_c {T : World → Prop} (Tm : TP T) (x n : Int) (hx : in32 x) (hn' : in32 n) : Ct Go.Proofs.Tryd.prog T 138 [.d (.i .i64 n), .d (.i .i64 x)] true (fun r => r = .d (.i .i64 (n + x))) := by
  obtain ⟨hx0, hx1⟩ := hx
  obtain ⟨hn0, hn1⟩ := hn'
  have e1 : wrap64 (9223372036854775807 - x) = if 0 ≤ x then 9223372036854775807 - x else wrap64 (9223372036854775807 - x) := by
    split
    · exact w64 (by omega) (by omega)
    · rfl
  have e2 : wrap64 (-9223372036854775808 - x) = if x ≤ 0 then -9223372036854775808 - x else wrap64 (-9223372036854775808 - x) := by
    split
    · exact w64 (by omega) (by omega)
    · rfl
  refine Ct_of Tm Go.Proofs.Tryd.func138 rfl rfl Go.Proofs.Tryd.ntmps138 (by simp) (rs := [.tmp 4]) rfl fun E hP hn hT => ?_
  (repeat (first | refine TS.imp ?_ | refine n9 (by decide) ?_))
  refine TR.imp ?_; intro K hK; simp only [go_sem, hP, hn]; (repeat refine vc ?_); refine hK _ ?_; clear K hK
  (repeat (first | refine TS.imp ?_ | refine n9 (by decide) ?_))
  refine TR.imp ?_; intro K hK; simp only [go_sem, hP, hn]; (repeat refine vc ?_); refine hK _ ?_; clear K hK
  (repeat (first | refine TS.imp ?_ | refine n9 (by decide) ?_))
  refine Tr.cond rfl (fun hb => ?_) (fun hb => ?_)
  · exfalso
    simp only [Bool.and_eq_true, decide_eq_true_eq] at hb
    rw [e1, if_pos (by omega)] at hb
    omega
  (repeat (first | refine TS.imp ?_ | refine n9 (by decide) ?_))
  refine TR.imp ?_; intro K hK; simp only [go_sem, hP, hn]; (repeat refine vc ?_); refine hK _ ?_; clear K hK
  (repeat (first | refine TS.imp ?_ | refine n9 (by decide) ?_))
  refine Tr.cond rfl (fun hc => ?_) (fun hc => ?_)
  · exfalso
    simp only [Bool.and_eq_true, decide_eq_true_eq] at hc
    rw [e2, if_pos (by omega)] at hc
    omega
  (repeat (first | (refine TR.imp ?_; intro K hK; simp only [go_sem, hP, hn]; (repeat refine vc ?_); refine hK _ ?_; clear K hK) | refine TS.imp ?_ | refine n9 (by decide) ?_))
  simp only [RetQ, go_sem]
  rw [w64 (x := n + x) (by omega) (by omega)]
theorem rAdd_c {T : World → Prop} (Tm : TP T) (xs : List Int) (hl : xs.length ≤ 65536) (hx : ∀ x ∈ xs, in32 x) : Ct Go.Proofs.Tryd.prog T 113 [.d (.i .i64 32), .d (.row [.i .i64 0] (xs.map intC))] true (fun r => r = .d (.i .i64 (addV xs))) := by
  refine Ct_of Tm Go.Proofs.Tryd.func113 rfl rfl Go.Proofs.Tryd.ntmps113 (by simp) (rs := [.tmp 4]) rfl fun E hP hn hT => ?_
  (repeat (first | (refine TR.imp ?_; intro K hK; simp only [go_sem, hP, hn]; (repeat refine vc ?_); refine hK _ ?_; clear K hK) | refine TS.imp ?_ | refine n9 (by decide) ?_))
  refine Tr.loop (fun m s => ∃ (i : Int), s = ⟨[(0, .d (.i .i64 32)), (1, .d (.row [.i .i64 0] (xs.map intC))), (5, .d (.i .i64 (addV (xs.take i.toNat)))), (6, .d (.i .i64 i))], []⟩ ∧ 0 ≤ i ∧ i + m = xs.length) xs.length ⟨_, (Le.mv (by simp only [go_sem, hP, hn]; first | done | (simp; done) | (simp [intC]; done) | (repeat (first | rfl | constructor))) (by simp only [go_sem, hP, hn]; first | done | (simp; done) | (simp [intC]; done) | (repeat (first | rfl | constructor)))), 0, rfl, by omega, by omega⟩ ?_
  rintro m s ⟨i, rfl, hi, him⟩
  (repeat (first | (refine TR.imp ?_; intro K hK; simp only [go_sem, hP, hn]; (repeat refine vc ?_); refine hK _ ?_; clear K hK) | refine TS.imp ?_ | refine n9 (by decide) ?_))
  refine Tr.cond rfl (fun hb => ?_) (fun hb => ?_)
  · have hi1 : i < xs.length := by simpa using hb
    have hk : i.toNat < xs.length := by omega
    have hrd : rd xs i = xs[i.toNat] := by unfold rd; simp [hk]
    have hxi := hx xs[i.toNat] (List.getElem_mem hk)
    clear hb
    (repeat (first | refine TS.imp ?_ | refine n9 (by decide) ?_))
    refine TR.imp ?_; intro K hK; simp only [go_sem, hP, hn]; (repeat refine vc ?_); refine c1 (by rw [hP, hT]; exact plus_c Tm (rd xs i) (addV (xs.take i.toNat)) (hrd ▸ hxi) (add_in _)) rfl rfl rfl trivial (by simp only [go_sem, hP, hn]; try trivial) (by simp only [go_sem, hP, hn]; try rfl) (by rw [hn]; decide) (by rfl) ?_; simp only [go_sem, hP, hn]; (repeat refine vc ?_); refine c1 (by rw [hP, hT]; exact rSat_c Tm (addV (xs.take i.toNat) + rd xs i)) rfl rfl rfl trivial (by simp only [go_sem, hP, hn]; try trivial) (by simp only [go_sem, hP, hn]; try rfl) (by rw [hn]; decide) (by rfl) ?_; simp only [go_sem, hP, hn]; (repeat refine vc ?_); refine hK _ ?_; clear K hK
    (repeat (first | (refine TR.imp ?_; intro K hK; simp only [go_sem, hP, hn]; (repeat refine vc ?_); refine hK _ ?_; clear K hK) | refine TS.imp ?_ | refine n9 (by decide) ?_))
    rw [w64 (x := i + 1) (by omega) (by omega), hrd, ← add_take xs i.toNat hk]
    refine ⟨m - 1, _, by omega, ?_, i + 1, rfl, by omega, by omega⟩
    rw [show (i + 1).toNat = i.toNat + 1 by omega]
    exact (Le.mv (by simp only [go_sem, hP, hn]; first | done | (simp; done) | (simp [intC]; done) | (repeat (first | rfl | constructor))) (by simp only [go_sem, hP, hn]; first | done | (simp; done) | (simp [intC]; done) | (repeat (first | rfl | constructor))))
  · have hie : i = xs.length := by have := of_decide_eq_false hb; omega
    subst hie
    rw [Int.toNat_natCast, List.take_length]
    (repeat (first | (refine TR.imp ?_; intro K hK; simp only [go_sem, hP, hn]; (repeat refine vc ?_); refine hK _ ?_; clear K hK) | refine TS.imp ?_ | refine n9 (by decide) ?_))
    simp only [RetQ, go_sem]
theorem rSum_c {T : World → Prop} (Tm : TP T) (xs : List Int) (hl : xs.length ≤ 65536) (hx : ∀ x ∈ xs, in32 x) : Ct Go.Proofs.Tryd.prog T 135 [.d (.row [.i .i64 0] (xs.map intC))] true (fun r => r = .agg [.d (.i .i64 xs.sum), .d (.b true)]) := by
  refine Ct_of Tm Go.Proofs.Tryd.func135 rfl rfl Go.Proofs.Tryd.ntmps135 (by simp) (rs := [.cell 2 133]) rfl fun E hP hn hT => ?_
  (repeat (first | (refine TR.imp ?_; intro K hK; simp only [go_sem, hP, hn]; (repeat refine vc ?_); refine hK _ ?_; clear K hK) | refine TS.imp ?_ | refine n9 (by decide) ?_))
  refine Tr.loop (fun m s => ∃ (i : Int), s = ⟨[(0, .d (.row [.i .i64 0] (xs.map intC))), (2, .ptr 2 0), (5, .d (.i .i64 i)), (3, .d (.i .i64 (hiS (xs.take i.toNat)))), (4, .d (.i .i64 (loS (xs.take i.toNat))))], [(2, .box 133 [.d (.i .i64 0), .d (.b false)])]⟩ ∧ 0 ≤ i ∧ i + m = xs.length) xs.length ⟨_, (Le.mv (by simp only [go_sem, hP, hn]; first | done | (simp; done) | (simp [intC]; done) | (repeat (first | rfl | constructor))) (by simp only [go_sem, hP, hn]; first | done | (simp; done) | (simp [intC]; done) | (repeat (first | rfl | constructor)))), 0, rfl, by omega, by omega⟩ ?_
  rintro m s ⟨i, rfl, hi, him⟩
  (repeat (first | (refine TR.imp ?_; intro K hK; simp only [go_sem, hP, hn]; (repeat refine vc ?_); refine hK _ ?_; clear K hK) | refine TS.imp ?_ | refine n9 (by decide) ?_))
  refine Tr.cond rfl (fun hb => ?_) (fun hb => ?_)
  · have hi1 : i < xs.length := by simpa using hb
    have hk : i.toNat < xs.length := by omega
    have h1 := hi_take xs i.toNat hk
    have h2 := lo_take xs i.toNat hk
    have h3 := hi32 (xs.take i.toNat) (fun x h => hx x (List.mem_of_mem_take h))
    have h4 := lo_range (xs.take i.toNat)
    have hlt : (xs.take i.toNat).length ≤ 65536 := by rw [List.length_take]; omega
    have hrd : rd xs i = xs[i.toNat] := by unfold rd; simp [hk]
    have hxi := hx xs[i.toNat] (List.getElem_mem hk)
    unfold in32 at hxi
    (repeat (first | (refine TR.imp ?_; intro K hK; simp only [go_sem, hP, hn]; (repeat refine vc ?_); refine hK _ ?_; clear K hK) | refine TS.imp ?_ | refine n9 (by decide) ?_))
    rw [hrd, fd32, am32, w64 (x := i + 1) (by omega) (by omega), w64 (x := hiS (xs.take i.toNat) + xs[i.toNat] / 4294967296) (by omega) (by omega), w64 (x := loS (xs.take i.toNat) + xs[i.toNat] % 4294967296) (by omega) (by omega), ← h1, ← h2]
    refine ⟨m - 1, _, by omega, ?_, i + 1, rfl, by omega, by omega⟩
    rw [show (i + 1).toNat = i.toNat + 1 by omega]
    exact (Le.mv (by simp only [go_sem, hP, hn]; first | done | (simp; done) | (simp [intC]; done) | (repeat (first | rfl | constructor))) (by simp only [go_sem, hP, hn]; first | done | (simp; done) | (simp [intC]; done) | (repeat (first | rfl | constructor))))
  · have hie : i = xs.length := by have := of_decide_eq_false hb; omega
    subst hie
    rw [Int.toNat_natCast, List.take_length]
    have h3 := hi32 xs hx
    have h4 := lo_range xs
    have h5 := hi_lo xs
    have h6 : wrap64 (hiS xs + loS xs / 4294967296) = hiS xs + loS xs / 4294967296 := w64 (by omega) (by omega)
    (repeat (first | refine TS.imp ?_ | refine n9 (by decide) ?_))
    refine TR.imp ?_; intro K hK; simp only [fd32, am32, h6, go_sem, hP, hn]; (repeat refine vc ?_); refine hK _ ?_; clear K hK
    (repeat (first | refine TS.imp ?_ | refine n9 (by decide) ?_))
    refine TR.imp ?_; intro K hK; simp only [fd32, am32, h6, go_sem, hP, hn]; (repeat refine vc ?_); refine hK _ ?_; clear K hK
    (repeat (first | refine TS.imp ?_ | refine n9 (by decide) ?_))
    refine TR.imp ?_; intro K hK; simp only [fd32, am32, h6, go_sem, hP, hn]; (repeat refine vc ?_); refine hK _ ?_; clear K hK
    (repeat (first | refine TS.imp ?_ | refine n9 (by decide) ?_))
    refine Tr.cond rfl (fun hc => ?_) (fun hc => ?_)
    · exfalso
      simp at hc
      omega
    clear hc
    (repeat (first | (refine TR.imp ?_; intro K hK; simp only [go_sem, hP, hn]; (repeat refine vc ?_); refine hK _ ?_; clear K hK) | refine TS.imp ?_ | refine n9 (by decide) ?_))
    simp only [RetQ, go_sem]
    rw [show (hiS xs + loS xs / 4294967296) * 2 ^ min 32 64 = (hiS xs + loS xs / 4294967296) * 4294967296 by rw [show (2 : Int) ^ min 32 64 = 4294967296 by decide], w64 (x := (hiS xs + loS xs / 4294967296) * 4294967296) (by omega) (by omega), show (hiS xs + loS xs / 4294967296) * 4294967296 + loS xs % 4294967296 = xs.sum by omega]
    rw [w64 (x := xs.sum) (by omega) (by omega)]
    exact ⟨by decide, rfl⟩
theorem Quot_c {T : World → Prop} (Tm : TP T) (x n : Int) (h0 : -4611686018427387904 ≤ x) (h1 : x ≤ 4611686018427387904) (n0 : 1 ≤ n) (n1 : n ≤ 4611686018427387904) : Ct Go.Proofs.Tryd.prog T 150 [.d (.i .i64 x), .d (.i .i64 n)] true (fun r => r = .d (.i .i64 (x / n))) := by
  have hb2 := ediv_bounds (x := x) n0
  have hp := parts_t (x := x) n0
  have hq : wrap64 (Int.tdiv x n) = Int.tdiv x n := by
    rcases Decidable.em (Int.tmod x n < 0) with h | h
    · have := hp.1 h; exact w64 (by omega) (by omega)
    · have := hp.2 h; exact w64 (by omega) (by omega)
  refine Ct_of Tm Go.Proofs.Tryd.func150 rfl rfl Go.Proofs.Tryd.ntmps150 (by simp) (rs := [.tmp 4]) rfl fun E hP hn hT => ?_
  (repeat (first | refine TS.imp ?_ | refine n9 (by decide) ?_))
  refine TR.imp ?_; intro K hK; simp only [go_sem, hP, hn]; (repeat refine vc ?_); refine hK _ ?_; clear K hK
  (repeat (first | refine TS.imp ?_ | refine n9 (by decide) ?_))
  refine TR.imp ?_; intro K hK; simp only [hq, go_sem, hP, hn]; (repeat refine vc ?_); refine hK _ ?_; clear K hK
  (repeat (first | refine TS.imp ?_ | refine n9 (by decide) ?_))
  refine TR.imp ?_; intro K hK; simp only [hq, go_sem, hP, hn]; (repeat refine vc ?_); refine hK _ ?_; clear K hK
  (repeat (first | refine TS.imp ?_ | refine n9 (by decide) ?_))
  refine Tr.cond rfl (fun hb => ?_) (fun hb => ?_)
  · have hc : Int.tmod x n < 0 := by simpa using hb
    have := hp.1 hc
    (repeat (first | (refine TR.imp ?_; intro K hK; simp only [go_sem, hP, hn]; (repeat refine vc ?_); refine hK _ ?_; clear K hK) | refine TS.imp ?_ | refine n9 (by decide) ?_))
    simp only [RetQ, go_sem]
    rw [w64 (x := Int.tdiv x n - 1) (by omega) (by omega), this.1]
  · have hc : ¬ Int.tmod x n < 0 := by simpa using hb
    have := hp.2 hc
    (repeat (first | (refine TR.imp ?_; intro K hK; simp only [go_sem, hP, hn]; (repeat refine vc ?_); refine hK _ ?_; clear K hK) | refine TS.imp ?_ | refine n9 (by decide) ?_))
    simp only [RetQ, go_sem]
    rw [this.1]
theorem Rest_c {T : World → Prop} (Tm : TP T) (x n : Int) (h0 : -4611686018427387904 ≤ x) (h1 : x ≤ 4611686018427387904) (n0 : 1 ≤ n) (n1 : n ≤ 4611686018427387904) : Ct Go.Proofs.Tryd.prog T 151 [.d (.i .i64 x), .d (.i .i64 n)] true (fun r => r = .d (.i .i64 (x % n))) := by
  have e := Int.emod_add_mul_ediv x n
  have m1 := Int.emod_nonneg x (show n ≠ 0 by omega)
  have m2 := Int.emod_lt_of_pos x (show 0 < n by omega)
  have e2 : x / n * n = x - x % n := by rw [Int.mul_comm]; omega
  refine Ct_of Tm Go.Proofs.Tryd.func151 rfl rfl Go.Proofs.Tryd.ntmps151 (by simp) (rs := [.tmp 4]) rfl fun E hP hn hT => ?_
  (repeat (first | refine TS.imp ?_ | refine n9 (by decide) ?_))
  refine TR.imp ?_; intro K hK; simp only [go_sem, hP, hn]; (repeat refine vc ?_); refine hK _ ?_; clear K hK
  (repeat (first | refine TS.imp ?_ | refine n9 (by decide) ?_))
  refine TR.imp ?_; intro K hK; simp only [go_sem, hP, hn]; (repeat refine vc ?_); refine c1 (by rw [hP, hT]; exact Quot_c Tm x n h0 h1 n0 n1) rfl rfl rfl trivial (by simp only [go_sem, hP, hn]; try trivial) (by simp only [go_sem, hP, hn]; try rfl) (by rw [hn]; decide) (by rfl) ?_; simp only [go_sem, hP, hn]; (repeat refine vc ?_); refine hK _ ?_; clear K hK
  (repeat (first | (refine TR.imp ?_; intro K hK; simp only [go_sem, hP, hn]; (repeat refine vc ?_); refine hK _ ?_; clear K hK) | refine TS.imp ?_ | refine n9 (by decide) ?_))
  simp only [RetQ, go_sem]
  rw [e2, w64 (x := x - x % n) (by omega) (by omega), w64 (by omega) (by omega)]
  congr 2
  omega
theorem rDiv_c {T : World → Prop} (Tm : TP T) (x n : Int) (h0 : -4611686018427387904 ≤ x) (h1 : x ≤ 4611686018427387904) (n0 : 1 ≤ n) (n1 : n ≤ 4611686018427387904) : Ct Go.Proofs.Tryd.prog T 136 [.d (.i .i64 x), .d (.i .i64 n)] true (fun r => r = .d (.i .i64 (divV x n))) := by
  have hb2 := ediv_bounds (x := x) n0
  have m1 := Int.emod_nonneg x (show n ≠ 0 by omega)
  have m2 := Int.emod_lt_of_pos x (show 0 < n by omega)
  have e1 : wrap64 (n - x % n) = n - x % n := w64 (by omega) (by omega)
  refine Ct_of Tm Go.Proofs.Tryd.func136 rfl rfl Go.Proofs.Tryd.ntmps136 (by simp) (rs := [.tmp 4]) rfl fun E hP hn hT => ?_
  (repeat (first | refine TS.imp ?_ | refine n9 (by decide) ?_))
  refine TR.imp ?_; intro K hK; simp only [go_sem, hP, hn]; (repeat refine vc ?_); refine hK _ ?_; clear K hK
  (repeat (first | refine TS.imp ?_ | refine n9 (by decide) ?_))
  refine TR.imp ?_; intro K hK; simp only [go_sem, hP, hn]; (repeat refine vc ?_); refine hK _ ?_; clear K hK
  (repeat (first | refine TS.imp ?_ | refine n9 (by decide) ?_))
  refine Tr.cond rfl (fun hb => ?_) (fun hb => ?_)
  · have := of_decide_eq_true hb; omega
  clear hb
  (repeat (first | refine TS.imp ?_ | refine n9 (by decide) ?_))
  refine TR.imp ?_; intro K hK; simp only [go_sem, hP, hn]; (repeat refine vc ?_); refine c1 (by rw [hP, hT]; exact Quot_c Tm x n h0 h1 n0 n1) rfl rfl rfl trivial (by simp only [go_sem, hP, hn]; try trivial) (by simp only [go_sem, hP, hn]; try rfl) (by rw [hn]; decide) (by rfl) ?_; simp only [go_sem, hP, hn]; (repeat refine vc ?_); refine hK _ ?_; clear K hK
  (repeat (first | refine TS.imp ?_ | refine n9 (by decide) ?_))
  refine TR.imp ?_; intro K hK; simp only [go_sem, hP, hn]; (repeat refine vc ?_); refine c1 (by rw [hP, hT]; exact Rest_c Tm x n h0 h1 n0 n1) rfl rfl rfl trivial (by simp only [go_sem, hP, hn]; try trivial) (by simp only [go_sem, hP, hn]; try rfl) (by rw [hn]; decide) (by rfl) ?_; simp only [go_sem, hP, hn]; (repeat refine vc ?_); refine hK _ ?_; clear K hK
  (repeat (first | refine TS.imp ?_ | refine n9 (by decide) ?_))
  refine TR.imp ?_; intro K hK; simp only [e1, go_sem, hP, hn]; (repeat refine vc ?_); refine hK _ ?_; clear K hK
  (repeat (first | refine TS.imp ?_ | refine n9 (by decide) ?_))
  unfold divV
  rw [if_neg (show ¬ n < 1 by omega), div_split n0]
  refine Tr.cond rfl (fun hb => ?_) (fun hb => ?_)
  · have hc : n ≤ 2 * (x % n) := by have := of_decide_eq_true hb; omega
    (repeat (first | (refine TR.imp ?_; intro K hK; simp only [go_sem, hP, hn]; (repeat refine vc ?_); refine hK _ ?_; clear K hK) | refine TS.imp ?_ | refine n9 (by decide) ?_))
    simp only [RetQ, go_sem]
    rw [w64 (x := x / n + 1) (by omega) (by omega), if_pos hc]
  · have hc : ¬ n ≤ 2 * (x % n) := by have := of_decide_eq_false hb; omega
    (repeat (first | (refine TR.imp ?_; intro K hK; simp only [go_sem, hP, hn]; (repeat refine vc ?_); refine hK _ ?_; clear K hK) | refine TS.imp ?_ | refine n9 (by decide) ?_))
    simp only [RetQ, go_sem]
    rw [if_neg hc, Int.add_zero]
theorem power_c {T : World → Prop} (Tm : TP T) (n : Int) (h0 : 0 ≤ n) (h1 : n ≤ 30) : Ct Go.Proofs.Tryd.prog T 154 [.d (.i .i64 n)] true (fun r => r = .d (.i .i64 (2 ^ n.toNat))) := by
  refine Ct_of Tm Go.Proofs.Tryd.func154 rfl rfl Go.Proofs.Tryd.ntmps154 (by simp) (rs := [.tmp 2]) rfl fun E hP hn hT => ?_
  (repeat (first | (refine TR.imp ?_; intro K hK; simp only [go_sem, hP, hn]; (repeat refine vc ?_); refine hK _ ?_; clear K hK) | refine TS.imp ?_ | refine n9 (by decide) ?_))
  refine Tr.loop (fun m s => ∃ (k : Nat), s = ⟨[(0, .d (.i .i64 n)), (3, .d (.i .i64 (2 ^ k))), (4, .d (.i .i64 (k : Int)))], []⟩ ∧ (k + m : Int) = n) n.toNat ⟨_, (Le.mv (by simp only [go_sem, hP, hn]; first | done | (simp; done) | (simp [intC]; done) | (repeat (first | rfl | constructor))) (by simp only [go_sem, hP, hn]; first | done | (simp; done) | (simp [intC]; done) | (repeat (first | rfl | constructor)))), 0, rfl, by omega⟩ ?_
  rintro m s ⟨k, rfl, hk⟩
  (repeat (first | (refine TR.imp ?_; intro K hK; simp only [go_sem, hP, hn]; (repeat refine vc ?_); refine hK _ ?_; clear K hK) | refine TS.imp ?_ | refine n9 (by decide) ?_))
  refine Tr.cond rfl (fun hb => ?_) (fun hb => ?_)
  · have hk1 : (k : Int) < n := by simpa using hb
    have hs := (pw_step ⟨k, by omega⟩).2
    simp only at hs
    (repeat (first | (refine TR.imp ?_; intro K hK; simp only [go_sem, hP, hn]; (repeat refine vc ?_); refine hK _ ?_; clear K hK) | refine TS.imp ?_ | refine n9 (by decide) ?_))
    rw [w64 (x := (k : Int) + 1) (by omega) (by omega)]
    refine ⟨m - 1, _, by omega, ?_, k + 1, rfl, by omega⟩
    rw [← hs]
    exact (Le.mv (by simp only [go_sem, hP, hn]; first | done | (simp; done) | (simp [intC]; done) | (repeat (first | rfl | constructor))) (by simp only [go_sem, hP, hn]; first | done | (simp; done) | (simp [intC]; done) | (repeat (first | rfl | constructor))))
  · have hk1 : n = k := by have := of_decide_eq_false hb; omega
    subst hk1
    (repeat (first | (refine TR.imp ?_; intro K hK; simp only [go_sem, hP, hn]; (repeat refine vc ?_); refine hK _ ?_; clear K hK) | refine TS.imp ?_ | refine n9 (by decide) ?_))
    simp only [RetQ, go_sem]
theorem rHalf_c {T : World → Prop} (Tm : TP T) (p k : Int) (h0 : -4611686018427387904 ≤ p) (h1 : p ≤ 4611686018427387904) (k0 : 0 ≤ k) (k1 : k ≤ 30) : Ct Go.Proofs.Tryd.prog T 140 [.d (.i .i64 p), .d (.i .i64 k)] true (fun r => r = .d (.i .i64 (halfV p k))) := by
  have hp := pow_two_le k0 k1
  refine Ct_of Tm Go.Proofs.Tryd.func140 rfl rfl Go.Proofs.Tryd.ntmps140 (by simp) (rs := [.tmp 4]) rfl fun E hP hn hT => ?_
  (repeat (first | (refine TR.imp ?_; intro K hK; simp only [go_sem, hP, hn]; (repeat refine vc ?_); refine hK _ ?_; clear K hK) | refine TS.imp ?_ | refine n9 (by decide) ?_))
  refine Tr.cond rfl (fun hb => ?_) (fun hb => ?_)
  · exfalso; simp at hb; omega
  (repeat (first | refine TS.imp ?_ | refine n9 (by decide) ?_))
  refine TR.imp ?_; intro K hK; simp only [go_sem, hP, hn]; (repeat refine vc ?_); refine c1 (by rw [hP, hT]; exact power_c Tm k k0 k1) rfl rfl rfl trivial (by simp only [go_sem, hP, hn]; try trivial) (by simp only [go_sem, hP, hn]; try rfl) (by rw [hn]; decide) (by rfl) ?_; simp only [go_sem, hP, hn]; (repeat refine vc ?_); refine c1 (by rw [hP, hT]; exact rDiv_c Tm p (2 ^ k.toNat) h0 h1 hp.1 (by omega)) rfl rfl rfl trivial (by simp only [go_sem, hP, hn]; try trivial) (by simp only [go_sem, hP, hn]; try rfl) (by rw [hn]; decide) (by rfl) ?_; simp only [go_sem, hP, hn]; (repeat refine vc ?_); refine hK _ ?_; clear K hK
  (repeat (first | (refine TR.imp ?_; intro K hK; simp only [go_sem, hP, hn]; (repeat refine vc ?_); refine hK _ ?_; clear K hK) | refine TS.imp ?_ | refine n9 (by decide) ?_))
  simp only [RetQ, go_sem]
  unfold halfV
  rw [if_pos (by omega)]
theorem rMul_c {T : World → Prop} (Tm : TP T) (x m : Int) (hx : in32 x) (m0 : 0 ≤ m) (m1 : m ≤ 32767) : Ct Go.Proofs.Tryd.prog T 139 [.d (.i .i64 x), .d (.i .i64 m)] true (fun r => r = .agg [.d (.i .i64 (x * m)), .d (.b true)]) := by
  obtain ⟨hx0, hx1⟩ := hx
  have hm : -2147483648 * 32767 ≤ x * m ∧ x * m ≤ 2147483647 * 32767 := by
    constructor
    · have a1 : -2147483648 * m ≤ x * m := Int.mul_le_mul_of_nonneg_right hx0 m0
      omega
    · have a1 : x * m ≤ 2147483647 * m := Int.mul_le_mul_of_nonneg_right hx1 m0
      omega
  refine Ct_of Tm Go.Proofs.Tryd.func139 rfl rfl Go.Proofs.Tryd.ntmps139 (by simp) (rs := [.cell 4 133]) rfl fun E hP hn hT => ?_
  (repeat (first | (refine TR.imp ?_; intro K hK; simp only [go_sem, hP, hn]; (repeat refine vc ?_); refine hK _ ?_; clear K hK) | refine TS.imp ?_ | refine n9 (by decide) ?_))
  refine Tr.cond rfl (fun hb => ?_) (fun hb => ?_)
  · have hz : x * m = 0 := by
      simp at hb
      rcases hb with h | h <;> simp [h]
    (repeat (first | (refine TR.imp ?_; intro K hK; simp only [go_sem, hP, hn]; (repeat refine vc ?_); refine hK _ ?_; clear K hK) | refine TS.imp ?_ | refine n9 (by decide) ?_))
    simp only [RetQ, go_sem]
    rw [hz]
    exact ⟨by decide, rfl⟩
  · have hz : x ≠ 0 ∧ m ≠ 0 := by
      simp at hb; exact hb
    obtain ⟨hz1, hz2⟩ := hz
    have hw : wrap64 (x * m) = x * m := w64 (by omega) (by omega)
    have hq : Int.tdiv (x * m) m = x := Int.mul_tdiv_cancel x hz2
    clear hb
    (repeat (first | refine TS.imp ?_ | refine n9 (by decide) ?_))
    refine TR.imp ?_; intro K hK; simp only [go_sem, hP, hn]; (repeat refine vc ?_); refine hK _ ?_; clear K hK
    (repeat (first | refine TS.imp ?_ | refine n9 (by decide) ?_))
    refine Tr.cond rfl (fun hc => ?_) (fun hc => ?_)
    · exfalso
      simp only [Bool.or_eq_true, Bool.and_eq_true, beq_iff_eq] at hc
      omega
    clear hc
    (repeat (first | refine TS.imp ?_ | refine n9 (by decide) ?_))
    refine TR.imp ?_; intro K hK; simp only [hw, go_sem, hP, hn]; (repeat refine vc ?_); refine hK _ ?_; clear K hK
    (repeat (first | refine TS.imp ?_ | refine n9 (by decide) ?_))
    refine TR.imp ?_; intro K hK; simp only [hw, hq, go_sem, hP, hn]; (repeat refine vc ?_); refine hK _ ?_; clear K hK
    (repeat (first | refine TS.imp ?_ | refine n9 (by decide) ?_))
    rw [w64 (x := x) (by omega) (by omega)]
    refine Tr.cond rfl (fun hc => ?_) (fun hc => ?_)
    · exfalso; simp at hc
    (repeat (first | (refine TR.imp ?_; intro K hK; simp only [go_sem, hP, hn]; (repeat refine vc ?_); refine hK _ ?_; clear K hK) | refine TS.imp ?_ | refine n9 (by decide) ?_))
    simp only [RetQ, go_sem]
    decide
theorem rScale_c {T : World → Prop} (Tm : TP T) (x m s : Int) (hx : in32 x) : Ct Go.Proofs.Tryd.prog T 115 [.d (.i .i64 x), .d (.i .i64 m), .d (.i .i64 s)] true (fun r => r = .d (.i .i64 (scaleV x m s))) := by
  refine Ct_of Tm Go.Proofs.Tryd.func115 rfl rfl Go.Proofs.Tryd.ntmps115 (by simp) (rs := [.tmp 6]) rfl fun E hP hn hT => ?_
  (repeat (first | (refine TR.imp ?_; intro K hK; simp only [go_sem, hP, hn]; (repeat refine vc ?_); refine hK _ ?_; clear K hK) | refine TS.imp ?_ | refine n9 (by decide) ?_))
  unfold scaleV
  refine Tr.cond rfl (fun hb => ?_) (fun hb => ?_)
  · have h : ¬ (0 ≤ m ∧ m ≤ 32767 ∧ 0 ≤ s ∧ s ≤ 30) := by
      intro h
      simp only [Bool.or_eq_true, decide_eq_true_eq] at hb
      omega
    (repeat (first | (refine TR.imp ?_; intro K hK; simp only [go_sem, hP, hn]; (repeat refine vc ?_); refine hK _ ?_; clear K hK) | refine TS.imp ?_ | refine n9 (by decide) ?_))
    simp only [RetQ, go_sem]
    rw [if_neg h]
  · have h : 0 ≤ m ∧ m ≤ 32767 ∧ 0 ≤ s ∧ s ≤ 30 := by
      simp only [Bool.or_eq_false_iff, decide_eq_false_iff_not] at hb
      omega
    clear hb
    have hm : -2147483648 * 32767 ≤ x * m ∧ x * m ≤ 2147483647 * 32767 := by
      constructor
      · have a1 : -2147483648 * m ≤ x * m := Int.mul_le_mul_of_nonneg_right hx.1 h.1
        omega
      · have a1 : x * m ≤ 2147483647 * m := Int.mul_le_mul_of_nonneg_right hx.2 h.1
        omega
    rw [if_pos h]
    (repeat (first | refine TS.imp ?_ | refine n9 (by decide) ?_))
    refine TR.imp ?_; intro K hK; simp only [go_sem, hP, hn]; (repeat refine vc ?_); refine c1 (by rw [hP, hT]; exact rMul_c Tm x m hx h.1 h.2.1) rfl rfl rfl trivial (by simp only [go_sem, hP, hn]; try trivial) (by simp only [go_sem, hP, hn]; try rfl) (by rw [hn]; decide) (by rfl) ?_; simp only [go_sem, hP, hn]; (repeat refine vc ?_); refine hK _ ?_; clear K hK
    generalize x * m = p at hm ⊢
    (repeat (first | refine TS.imp ?_ | refine n9 (by decide) ?_))
    refine TR.imp ?_; intro K hK; simp only [go_sem, hP, hn]; (repeat refine vc ?_); refine hK _ ?_; clear K hK
    (repeat (first | refine TS.imp ?_ | refine n9 (by decide) ?_))
    refine Tr.cond rfl (fun hb => ?_) (fun hb => ?_)
    · exact absurd hb (by simp)
    (repeat (first | refine TS.imp ?_ | refine n9 (by decide) ?_))
    refine TR.imp ?_; intro K hK; simp only [go_sem, hP, hn]; (repeat refine vc ?_); refine hK _ ?_; clear K hK
    (repeat (first | refine TS.imp ?_ | refine n9 (by decide) ?_))
    refine Tr.cond rfl (fun hc => ?_) (fun hc => ?_)
    · exact absurd hc (by simp)
    (repeat (first | refine TS.imp ?_ | refine n9 (by decide) ?_))
    refine TR.imp ?_; intro K hK; simp only [go_sem, hP, hn]; (repeat refine vc ?_); refine c1 (by rw [hP, hT]; exact rHalf_c Tm p s (by omega) (by omega) h.2.2.1 h.2.2.2) rfl rfl rfl trivial (by simp only [go_sem, hP, hn]; try trivial) (by simp only [go_sem, hP, hn]; try rfl) (by rw [hn]; decide) (by rfl) ?_; simp only [go_sem, hP, hn]; (repeat refine vc ?_); refine c1 (by rw [hP, hT]; exact rSat_c Tm (halfV p s)) rfl rfl rfl trivial (by simp only [go_sem, hP, hn]; try trivial) (by simp only [go_sem, hP, hn]; try rfl) (by rw [hn]; decide) (by rfl) ?_; simp only [go_sem, hP, hn]; (repeat refine vc ?_); refine hK _ ?_; clear K hK
    (repeat (first | (refine TR.imp ?_; intro K hK; simp only [go_sem, hP, hn]; (repeat refine vc ?_); refine hK _ ?_; clear K hK) | refine TS.imp ?_ | refine n9 (by decide) ?_))
    simp only [RetQ, go_sem]
theorem rMean_c {T : World → Prop} (Tm : TP T) (xs : List Int) (l0 : 1 ≤ xs.length) (hl : xs.length ≤ 65536) (hx : ∀ x ∈ xs, in32 x) : Ct Go.Proofs.Tryd.prog T 112 [.d (.row [.i .i64 0] (xs.map intC))] true (fun r => r = .d (.i .i64 (meanV xs))) := by
  have hs := sum32 xs hx
  refine Ct_of Tm Go.Proofs.Tryd.func112 rfl rfl Go.Proofs.Tryd.ntmps112 (by simp) (rs := [.tmp 2]) rfl fun E hP hn hT => ?_
  (repeat (first | refine TS.imp ?_ | refine n9 (by decide) ?_))
  refine TR.imp ?_; intro K hK; simp only [go_sem, hP, hn]; (repeat refine vc ?_); refine hK _ ?_; clear K hK
  (repeat (first | refine TS.imp ?_ | refine n9 (by decide) ?_))
  refine TR.imp ?_; intro K hK; simp only [go_sem, hP, hn]; (repeat refine vc ?_); refine c1 (by rw [hP, hT]; exact rSum_c Tm xs hl hx) rfl rfl rfl trivial (by simp only [go_sem, hP, hn]; try trivial) (by simp only [go_sem, hP, hn]; try rfl) (by rw [hn]; decide) (by rfl) ?_; simp only [go_sem, hP, hn]; (repeat refine vc ?_); refine hK _ ?_; clear K hK
  (repeat (first | refine TS.imp ?_ | refine n9 (by decide) ?_))
  refine TR.imp ?_; intro K hK; simp only [go_sem, hP, hn]; (repeat refine vc ?_); refine hK _ ?_; clear K hK
  (repeat (first | refine TS.imp ?_ | refine n9 (by decide) ?_))
  refine Tr.cond rfl (fun hb => ?_) (fun hb => ?_)
  · exfalso
    simp at hb
    subst hb
    simp at l0
  (repeat (first | refine TS.imp ?_ | refine n9 (by decide) ?_))
  refine TR.imp ?_; intro K hK; simp only [go_sem, hP, hn]; (repeat refine vc ?_); refine c1 (by rw [hP, hT]; exact rDiv_c Tm xs.sum xs.length (by omega) (by omega) (by omega) (by omega)) rfl rfl rfl trivial (by simp only [go_sem, hP, hn]; try trivial) (by simp only [go_sem, hP, hn]; try rfl) (by rw [hn]; decide) (by rfl) ?_; simp only [go_sem, hP, hn]; (repeat refine vc ?_); refine hK _ ?_; clear K hK
  (repeat (first | (refine TR.imp ?_; intro K hK; simp only [go_sem, hP, hn]; (repeat refine vc ?_); refine hK _ ?_; clear K hK) | refine TS.imp ?_ | refine n9 (by decide) ?_))
  simp only [RetQ, go_sem]
  rfl
section
attribute [local go_sem] frD
theorem rmost_c {T : World → Prop} (Tm : TP T) (xs : List Int) (l0 : 1 ≤ xs.length) (hl : xs.length ≤ 65536) : Ct Go.Proofs.Tryd.prog T 110 [.d (.row [.i .i64 0] (xs.map intC))] true (fun r => r = .d (.i .i64 (mostV xs))) := by
  refine Ct_of Tm Go.Proofs.Tryd.func110 rfl rfl Go.Proofs.Tryd.ntmps110 (by simp) (rs := [.tmp 2]) rfl fun E hP hn hT => ?_
  (repeat (first | (refine TR.imp ?_; intro K hK; simp only [go_sem, hP, hn]; (repeat refine vc ?_); refine hK _ ?_; clear K hK) | refine TS.imp ?_ | refine n9 (by decide) ?_))
  refine Tr.loop (fun m s => ∃ (i : Int), s = ⟨[(0, .d (.row [.i .i64 0] (xs.map intC))), (3, .d (.i .i64 (mostN xs i.toNat))), (4, .d (.i .i64 i))], []⟩ ∧ 0 ≤ i ∧ i + m = xs.length) xs.length ⟨_, (Le.mv (by simp only [go_sem, hP, hn]; first | done | (simp; done) | (simp [intC]; done) | (repeat (first | rfl | constructor))) (by simp only [go_sem, hP, hn]; first | done | (simp; done) | (simp [intC]; done) | (repeat (first | rfl | constructor)))), 0, rfl, by omega, by omega⟩ ?_
  rintro m s ⟨i, rfl, hi, him⟩
  have hb2 := mostN_b xs l0 i.toNat (by omega)
  (repeat (first | (refine TR.imp ?_; intro K hK; simp only [go_sem, hP, hn]; (repeat refine vc ?_); refine hK _ ?_; clear K hK) | refine TS.imp ?_ | refine n9 (by decide) ?_))
  refine Tr.cond rfl (fun hb => ?_) (fun hb => ?_)
  · have hi1 : i < xs.length := by simpa using hb
    have hi2 : (i + 1).toNat = i.toNat + 1 := by omega
    have hst : mostN xs (i + 1).toNat = if rd xs (mostN xs i.toNat) < rd xs i then i else mostN xs i.toNat := by
      rw [hi2]; simp only [mostN]; rw [Int.toNat_of_nonneg hi]
    have hw : wrap64 (i + 1) = i + 1 := w64 (by omega) (by omega)
    generalize hat : mostN xs i.toNat = at_ at hb2 hst ⊢
    clear hb
    (repeat (first | (refine TR.imp ?_; intro K hK; simp only [go_sem, hP, hn]; (repeat refine vc ?_); refine hK _ ?_; clear K hK) | refine TS.imp ?_ | refine n9 (by decide) ?_))
    (first | refine d1 (.p true 0 (.p true 1 (.p true 2 (.p true 3 (.p true 4 (.p true 5 (.p true 6 (.p true 7 (.p true 8 .nil))))))))) [] (by rw [hP]; kernel_rfl) (by kernel_rfl) (by simp only [go_sem, hP, hn]; try simp) (fun _ _ h => h) fun K hK => ?_ | refine d2 (.p true 0 (.p true 1 (.p true 2 (.p true 3 (.p true 4 (.p true 5 (.p true 6 (.p true 7 (.p true 8 .nil))))))))) [] (by rw [hP]; kernel_rfl) (by kernel_rfl) (by simp only [go_sem, hP, hn]; try simp) (fun _ _ h => h) fun K hK => ?_ | refine d4 (.p true 0 (.p true 1 (.p true 2 (.p true 3 (.p true 4 (.p true 5 (.p true 6 (.p true 7 (.p true 8 .nil))))))))) [] (by rw [hP]; kernel_rfl) (by kernel_rfl) (by simp only [go_sem, hP, hn]; try simp) (fun _ _ h => h) fun K hK => ?_); simp only [go_sem, hP, hn]; (repeat refine vc ?_); refine hK _ ?_; clear K hK
    (repeat (first | refine TS.imp ?_ | refine n9 (by decide) ?_))
    refine Tr.cond rfl (fun hc => ?_) (fun hc => ?_)
    · have hc1 : rd xs at_ < rd xs i := by simpa using hc
      rw [if_pos hc1] at hst
      (repeat (first | (refine TR.imp ?_; intro K hK; simp only [go_sem, hP, hn]; (repeat refine vc ?_); refine hK _ ?_; clear K hK) | refine TS.imp ?_ | refine n9 (by decide) ?_))
      rw [hw]
      refine ⟨m - 1, _, by omega, ?_, i + 1, rfl, by omega, by omega⟩
      rw [hst]
      exact (Le.mv (by simp only [go_sem, hP, hn]; first | done | (simp; done) | (simp [intC]; done) | (repeat (first | rfl | constructor))) (by simp only [go_sem, hP, hn]; first | done | (simp; done) | (simp [intC]; done) | (repeat (first | rfl | constructor))))
    · have hc1 : ¬ rd xs at_ < rd xs i := by simpa using hc
      rw [if_neg hc1] at hst
      (repeat (first | (refine TR.imp ?_; intro K hK; simp only [go_sem, hP, hn]; (repeat refine vc ?_); refine hK _ ?_; clear K hK) | refine TS.imp ?_ | refine n9 (by decide) ?_))
      rw [hw]
      refine ⟨m - 1, _, by omega, ?_, i + 1, rfl, by omega, by omega⟩
      rw [hst]
      exact (Le.mv (by simp only [go_sem, hP, hn]; first | done | (simp; done) | (simp [intC]; done) | (repeat (first | rfl | constructor))) (by simp only [go_sem, hP, hn]; first | done | (simp; done) | (simp [intC]; done) | (repeat (first | rfl | constructor))))
  · have hie : i = xs.length := by have := of_decide_eq_false hb; omega
    subst hie
    rw [Int.toNat_natCast]
    (repeat (first | (refine TR.imp ?_; intro K hK; simp only [go_sem, hP, hn]; (repeat refine vc ?_); refine hK _ ?_; clear K hK) | refine TS.imp ?_ | refine n9 (by decide) ?_))
    simp only [RetQ, go_sem]
    rfl
theorem column_c {T : World → Prop} (Tm : TP T) (fs : List (List Int)) (k : Int) (hm : fs.length ≤ 4096) (k0 : 0 ≤ k) (hk : ∀ f ∈ fs, k < f.length) : Cg Go.Proofs.Tryd.prog T 111 [] [.d (frD fs), .d (.i .i64 k)] (fun r H => H = [] ∧ r = .d (.row [.i .i64 0] ((col fs k).map intC))) := by
  refine Cg_of [] Tm Go.Proofs.Tryd.func111 rfl rfl Go.Proofs.Tryd.ntmps111 (by simp) rfl (rs := [.tmp 4]) rfl fun E hP hn hT hpn => ?_
  (repeat (first | (refine TR.imp ?_; intro K hK; simp only [go_sem, hP, hn]; (repeat refine vc ?_); refine hK _ ?_; clear K hK) | refine TS.imp ?_ | refine n9 (by decide) ?_))
  refine Tr.le (Le.nilslot 3001 5 3 [.i .i64 0] rfl (by rw [hpn] <;> rfl) rfl rfl) ?_
  refine Tr.loop (fun m s => ∃ (i : Int), s = ⟨[(0, .d (frD fs)), (1, .d (.i .i64 k)), (5, .own 3001), (6, .d (.i .i64 i))], [(3001, .row 3 [.i .i64 0] (((col fs k).take i.toNat).map intC))]⟩ ∧ 0 ≤ i ∧ i + m = fs.length) fs.length ⟨_, (Le.mv (by simp only [go_sem, hP, hn]; first | done | (simp; done) | (simp [intC]; done) | (repeat (first | rfl | constructor))) (by simp only [go_sem, hP, hn]; first | done | (simp; done) | (simp [intC]; done) | (repeat (first | rfl | constructor)))), 0, rfl, by omega, by omega⟩ ?_
  rintro m s ⟨i, rfl, i0, him⟩
  (repeat (first | (refine TR.imp ?_; intro K hK; simp only [go_sem, hP, hn]; (repeat refine vc ?_); refine hK _ ?_; clear K hK) | refine TS.imp ?_ | refine n9 (by decide) ?_))
  refine Tr.cond rfl (fun hb => ?_) (fun hb => ?_)
  · have hi : i < fs.length := by simpa using hb
    have hfl := hk _ (fr_mem i0 hi)
    have htl : ((col fs k).take i.toNat).length ≤ 4096 := by rw [List.length_take, col_len]; omega
    clear hb
    (repeat (first | refine TS.imp ?_ | refine n9 (by decide) ?_))
    refine TR.imp ?_; intro K hK; simp only [go_sem, hP, hn]
    rw [rw_fr fs i i0 hi]
    simp only [go_sem, hP, hn]
    (repeat refine vc ?_)
    refine hK _ ?_; clear K hK
    (repeat (first | (refine TR.imp ?_; intro K hK; simp only [go_sem, hP, hn]; (repeat refine vc ?_); refine hK _ ?_; clear K hK) | refine TS.imp ?_ | refine n9 (by decide) ?_))
    rw [w64 (x := i + 1) (by omega) (by omega)]
    refine ⟨m - 1, _, by omega, ?_, i + 1, rfl, by omega, by omega⟩
    rw [take_rd i0 (by rw [col_len]; omega), col_rd fs k i0 hi]
    refine Le.trans (b := ⟨[(0, .d (frD fs)), (1, .d (.i .i64 k)), (5, .own 22), (6, .d (.i .i64 (i + 1)))], [(22, .row 3 [.i .i64 0] (((col fs k).take i.toNat ++ [rd (fr fs i) k]).map intC))]⟩) (Le.mv (by simp only [go_sem, hP, hn]; first | done | (simp; done) | (simp [intC]; done) | (repeat (first | rfl | constructor))) (by simp only [go_sem, hP, hn]; first | done | (simp; done) | (simp [intC]; done) | (repeat (first | rfl | constructor)))) ?_
    refine Le.trans (Le.ren 22 3001 (by rw [hpn] <;> rfl) rfl rfl) ?_; simp only [renT, renH, renO, renS, renL, rn, go_sem, hP, hn]
    exact (Le.mv (by simp only [go_sem, hP, hn]; first | done | (simp; done) | (simp [intC]; done) | (repeat (first | rfl | constructor))) (by simp only [go_sem, hP, hn]; first | done | (simp; done) | (simp [intC]; done) | (repeat (first | rfl | constructor))))
  · have hi : i = fs.length := by have := of_decide_eq_false hb; omega
    subst hi
    rw [Int.toNat_natCast, List.take_of_length_le (by rw [col_len]; omega)]
    refine Tr.le (Le.freeze 3001) ?_
    simp only [go_sem, hP, hn]
    (repeat (first | (refine TR.imp ?_; intro K hK; simp only [go_sem, hP, hn]; (repeat refine vc ?_); refine hK _ ?_; clear K hK) | refine TS.imp ?_ | refine n9 (by decide) ?_))
    simp only [RetG, go_sem]; (repeat with_reducible refine vc ?_)
theorem bit1 (p : Int) : (Go.bits .and .i64 p 1 == 1) = (Go.bits .and .i64 p 1 != 0) := by
  have := and_mask p 1 (by decide)
  rw [show (2 : Int) ^ 1 - 1 = 1 by decide] at this
  rw [this, Bool.eq_iff_iff]; simp; omega
theorem rpost_c {T : World → Prop} (Tm : TP T) (n : Nd) (x : Int) (h2 : (Go.bits .and .i64 n.post 2 == 2) = (Go.bits .and .i64 n.post 2 != 0)) : Ct Go.Proofs.Tryd.prog T 134 [.agg n.cs, .d (.i .i64 x)] true (fun r => r = .d (.i .i64 (n.pst x))) := by
  have h1 := bit1 n.post
  refine Ct_of Tm Go.Proofs.Tryd.func134 rfl rfl Go.Proofs.Tryd.ntmps134 (by simp) (rs := [.tmp 4]) rfl fun E hP hn hT => ?_
  (repeat (first | refine TS.imp ?_ | refine n9 (by decide) ?_))
  refine TR.imp ?_; intro K hK; simp only [go_sem, hP, hn]; (repeat refine vc ?_); refine hK _ ?_; clear K hK
  (repeat (first | refine TS.imp ?_ | refine n9 (by decide) ?_))
  refine TR.imp ?_; intro K hK; simp only [go_sem, hP, hn]; (repeat refine vc ?_); refine c1 (by rw [hP, hT]; exact rSat_c Tm x) rfl rfl rfl trivial (by simp only [go_sem, hP, hn]; try trivial) (by simp only [go_sem, hP, hn]; try rfl) (by rw [hn]; decide) (by rfl) ?_; simp only [go_sem, hP, hn]; (repeat refine vc ?_); refine hK _ ?_; clear K hK
  unfold Nd.pst
  rw [← h1, ← h2]
  refine Tr.seq ?_
  refine Tr.meet (fun s => s = ⟨[(1, .d (.i .i64 (if (Go.bits .and .i64 n.post 1 == 1) = true then scaleV (clampV x (-2147483648) 2147483647) n.mult n.shift else clampV x (-2147483648) 2147483647))), (2, .ptr 2 0)], [(2, .box 50 n.cs)]⟩) ?_ ?_
  rotate_left
  · (repeat (first | refine TS.imp ?_ | refine n9 (by decide) ?_))
    refine TR.imp ?_; intro K hK; simp only [go_sem, hP, hn]; (repeat refine vc ?_); refine hK _ ?_; clear K hK
    (repeat (first | refine TS.imp ?_ | refine n9 (by decide) ?_))
    refine Tr.cond rfl (fun hb => ?_) (fun hb => ?_)
    · (repeat (first | refine TS.imp ?_ | refine n9 (by decide) ?_))
      refine TR.imp ?_; intro K hK; simp only [go_sem, hP, hn]; (repeat refine vc ?_); refine c1 (by rw [hP, hT]; exact rScale_c Tm (clampV x (-2147483648) 2147483647) n.mult n.shift (clamp32 x)) rfl rfl rfl trivial (by simp only [go_sem, hP, hn]; try trivial) (by simp only [go_sem, hP, hn]; try rfl) (by rw [hn]; decide) (by rfl) ?_; simp only [go_sem, hP, hn]; (repeat refine vc ?_); refine hK _ ?_; clear K hK
      rw [if_pos hb]
      (repeat (first | refine TS.imp ?_ | refine n9 (by decide) ?_))
      exact ⟨_, (Le.mv (by simp only [go_sem, hP, hn]; first | done | (simp; done) | (simp [intC]; done) | (repeat (first | rfl | constructor))) (by simp only [go_sem, hP, hn]; first | done | (simp; done) | (simp [intC]; done) | (repeat (first | rfl | constructor)))), rfl⟩
    · rw [if_neg (by rw [hb]; decide)]
      (repeat (first | refine TS.imp ?_ | refine n9 (by decide) ?_))
      exact ⟨_, (Le.mv (by simp only [go_sem, hP, hn]; first | done | (simp; done) | (simp [intC]; done) | (repeat (first | rfl | constructor))) (by simp only [go_sem, hP, hn]; first | done | (simp; done) | (simp [intC]; done) | (repeat (first | rfl | constructor)))), rfl⟩
  rintro s rfl
  generalize (if (Go.bits .and .i64 n.post 1 == 1) = true then scaleV (clampV x (-2147483648) 2147483647) n.mult n.shift else clampV x (-2147483648) 2147483647) = y
  (repeat (first | refine TS.imp ?_ | refine n9 (by decide) ?_))
  refine TR.imp ?_; intro K hK; simp only [go_sem, hP, hn]; (repeat refine vc ?_); refine hK _ ?_; clear K hK
  (repeat (first | refine TS.imp ?_ | refine n9 (by decide) ?_))
  refine Tr.cond rfl (fun hb => ?_) (fun hb => ?_)
  · rw [if_pos hb]
    (repeat (first | refine TS.imp ?_ | refine n9 (by decide) ?_))
    refine TR.imp ?_; intro K hK; simp only [go_sem, hP, hn]; (repeat refine vc ?_); refine c1 (by rw [hP, hT]; exact rClamp_c Tm y n.low n.high) rfl rfl rfl trivial (by simp only [go_sem, hP, hn]; try trivial) (by simp only [go_sem, hP, hn]; try rfl) (by rw [hn]; decide) (by rfl) ?_; simp only [go_sem, hP, hn]; (repeat refine vc ?_); refine hK _ ?_; clear K hK
    (repeat (first | (refine TR.imp ?_; intro K hK; simp only [go_sem, hP, hn]; (repeat refine vc ?_); refine hK _ ?_; clear K hK) | refine TS.imp ?_ | refine n9 (by decide) ?_))
    simp only [RetQ, go_sem]
  · rw [if_neg (by rw [hb]; decide)]
    (repeat (first | (refine TR.imp ?_; intro K hK; simp only [go_sem, hP, hn]; (repeat refine vc ?_); refine hK _ ?_; clear K hK) | refine TS.imp ?_ | refine n9 (by decide) ?_))
    simp only [RetQ, go_sem]
theorem bit2 (p : Int) (h0 : 0 ≤ p) (h1 : p ≤ 3) : (Go.bits .and .i64 p 2 == 2) = (Go.bits .and .i64 p 2 != 0) := by
  have : p = 0 ∨ p = 1 ∨ p = 2 ∨ p = 3 := by omega
  rcases this with rfl | rfl | rfl | rfl <;> decide
end
section
attribute [local go_sem] frD
theorem KOk.wm {n : Nd} {fs : List (List Int)} {w : Nat} (h : KOk n fs w) (hw : rWin n.k = true) : rMany n.k = false := by
  unfold rWin at hw
  unfold rMany
  simp only [Bool.or_eq_true, beq_iff_eq] at hw
  simp only [Bool.or_eq_false_iff, beq_eq_false_iff_ne]
  omega
theorem KOk.may {n : Nd} {fs : List (List Int)} {w : Nat} (h : KOk n fs w) : (rWin n.k && (fs.length : Int) != n.size || n.k == 5 && decide ((fs.length : Int) < 1) || rMany n.k && (fs.length : Int) != (n.inn.length : Int) || !rWin n.k && !rMany n.k && n.k != 5 && (fs.length : Int) != 1) = false := by
  have q1 : decide ((fs.length : Int) < 1) = false := by have := h.m0; simp; omega
  rw [q1]
  cases hA : rWin n.k with
  | true => rw [h.win hA, h.wm hA]; simp
  | false =>
    cases hB : rMany n.k with
    | true => rw [h.many hB]; simp
    | false =>
      by_cases h5 : n.k = 5
      · simp [h5]
      · rw [h.one hA hB h5]; simp
end
section
attribute [local go_sem] frD
def J3 (n : Nd) (fs : List (List Int)) (w : Nat) (c j k x : Int) (L : List Int) : St := ⟨[(1, .d (frD fs)), (2, .ptr 2 0), (5, .d (.i .i64 w)), (6, .own 3001), (7, .d (.i .i64 c)), (8, .d (.i .i64 x)), (9, .d (.i .i64 j)), (10, .d (.i .i64 k))], [(2, .box 50 n.cs), (3001, .row 3 [.i .i64 0] (L.map intC))]⟩
attribute [local go_sem] J3
theorem rweighed_c {T : World → Prop} (Tm : TP T) (n : Nd) (fs : List (List Int)) (w : Nat) (h : WOk n fs w) (hp : 0 ≤ n.post ∧ n.post ≤ 3) : Cg Go.Proofs.Tryd.prog T 109 [] [.agg n.cs, .d (frD fs)] (fun r H => H = [] ∧ r = .d (.row [.i .i64 0] ((weighedV n fs w).map intC))) := by
  have hm0 := h.m0
  have hb0 := h.b0
  have hw0 := h.w0
  have hst := stW_pos h
  have hwl := h.wlen
  have hf0 : (fr fs 0).length = w := h.len _ (fr_mem (by omega) (by omega))
  have hfr0 : (fs.map frE).getD 0 [.nil] = [.row [.i .i64 0] ((fr fs 0).map intC)] := rw_fr fs 0 (by omega) (by omega)
  refine Cg_of [] Tm Go.Proofs.Tryd.func109 rfl rfl Go.Proofs.Tryd.ntmps109 (by simp) rfl (rs := [.tmp 4]) rfl fun E hP hn hT hpn => ?_
  (repeat (first | refine TS.imp ?_ | refine n9 (by decide) ?_))
  refine TR.imp ?_; intro K hK; simp only [go_sem, hP, hn]; (repeat refine vc ?_); refine hK _ ?_; clear K hK
  (repeat (first | refine TS.imp ?_ | refine n9 (by decide) ?_))
  refine TR.imp ?_; intro K hK; simp only [go_sem, hP, hn]
  rw [hfr0]
  simp only [go_sem, hP, hn]
  rw [hf0]
  (repeat refine vc ?_)
  refine hK _ ?_; clear K hK
  (repeat (first | refine TS.imp ?_ | refine n9 (by decide) ?_))
  refine TR.imp ?_; intro K hK; simp only [go_sem, hP, hn]; (repeat refine vc ?_); refine hK _ ?_; clear K hK
  refine Tr.le (Le.nilslot 3001 6 3 [.i .i64 0] rfl (by rw [hpn] <;> rfl) rfl rfl) ?_
  (repeat (first | refine TS.imp ?_ | refine n9 (by decide) ?_))
  refine TR.imp ?_; intro K hK; simp only [go_sem, hP, hn]; (repeat refine vc ?_); refine hK _ ?_; clear K hK
  (repeat (first | refine TS.imp ?_ | refine n9 (by decide) ?_))
  refine Tr.le (Le.keep [1, 2, 5, 6, 7]) ?_; simp only [List.map_cons, List.map_nil, lk, Nat.reduceEqDiff, reduceIte]
  refine Tr.loop (fun q s => ∃ (c : Int) (L : List Int), s = ⟨[(1, .d (frD fs)), (2, .ptr 2 0), (5, .d (.i .i64 w)), (6, .own 3001), (7, .d (.i .i64 c))], [(2, .box 50 n.cs), (3001, .row 3 [.i .i64 0] (L.map intC))]⟩ ∧ 0 ≤ c ∧ c + q = n.bs.length ∧ L = weighedN n fs w c.toNat) n.bs.length ⟨_, (Le.mv (by simp only [go_sem, hP, hn]; first | done | (simp; done) | (simp [intC]; done) | (repeat (first | rfl | constructor))) (by simp only [go_sem, hP, hn]; first | done | (simp; done) | (simp [intC]; done) | (repeat (first | rfl | constructor)))), 0, [], rfl, by omega, by omega, rfl⟩ ?_
  rintro q s ⟨c, L, rfl, c0, cq, hL⟩
  have hLl : L.length ≤ 16 := by rw [hL, weighedN_len]; omega
  (repeat (first | refine TS.imp ?_ | refine n9 (by decide) ?_))
  refine TR.imp ?_; intro K hK; simp only [go_sem, hP, hn]; (repeat refine vc ?_); refine hK _ ?_; clear K hK
  (repeat (first | refine TS.imp ?_ | refine n9 (by decide) ?_))
  refine Tr.cond rfl (fun hb => ?_) (fun hb => ?_)
  · have hc : c < n.bs.length := by simpa using hb
    clear hb
    (repeat (first | refine TS.imp ?_ | refine n9 (by decide) ?_))
    refine TR.imp ?_; intro K hK; simp only [go_sem, hP, hn]; (repeat refine vc ?_); refine hK _ ?_; clear K hK
    (repeat (first | refine TS.imp ?_ | refine n9 (by decide) ?_))
    refine TR.imp ?_; intro K hK; simp only [go_sem, hP, hn]; (repeat refine vc ?_); refine hK _ ?_; clear K hK
    (repeat (first | refine TS.imp ?_ | refine n9 (by decide) ?_))
    refine Tr.le (Le.keep [1, 2, 5, 6, 7, 8, 9]) ?_; simp only [List.map_cons, List.map_nil, lk, Nat.reduceEqDiff, reduceIte]
    refine Tr.loop (fun p s => ∃ (j : Int), s = ⟨[(1, .d (frD fs)), (2, .ptr 2 0), (5, .d (.i .i64 w)), (6, .own 3001), (7, .d (.i .i64 c)), (8, .d (.i .i64 (accW n fs w c j.toNat))), (9, .d (.i .i64 j))], [(2, .box 50 n.cs), (3001, .row 3 [.i .i64 0] (L.map intC))]⟩ ∧ 0 ≤ j ∧ j + p = fs.length) fs.length ⟨_, (Le.mv (by simp only [go_sem, hP, hn]; first | done | (simp; done) | (simp [intC]; done) | (repeat (first | rfl | constructor))) (by simp only [go_sem, hP, hn]; first | done | (simp; done) | (simp [intC]; done) | (repeat (first | rfl | constructor)))), 0, rfl, by omega, by omega⟩ ?_
    rintro p s ⟨j, rfl, j0, jp⟩
    (repeat (first | refine TS.imp ?_ | refine n9 (by decide) ?_))
    refine TR.imp ?_; intro K hK; simp only [go_sem, hP, hn]; (repeat refine vc ?_); refine hK _ ?_; clear K hK
    (repeat (first | refine TS.imp ?_ | refine n9 (by decide) ?_))
    refine Tr.cond rfl (fun hb => ?_) (fun hb => ?_)
    · have hj : j < fs.length := by simpa using hb
      clear hb
      have hfl := h.flen j0 hj
      have hfr := rw_fr fs j j0 hj
      obtain ⟨o0, o1, o2, o3, o4, o5⟩ := h.off c0 hc j0 hj
      have hacc : accW n fs w c (j + 1).toNat = dotK n.ws ((c * fs.length + j) * stW n w) (rowF n fs c j.toNat) (stW n w) (accW n fs w c j.toNat) := by
        have e : (j + 1).toNat = j.toNat + 1 := by omega
        have e2 : ((j.toNat : Nat) : Int) = j := Int.toNat_of_nonneg j0
        rw [e]; simp only [accW, e2]
      have hrow : rowF n fs c j.toNat = if n.k = 2 then [rd (fr fs j) c] else fr fs j := by
        unfold rowF; rw [Int.toNat_of_nonneg j0]
      rw [hrow] at hacc
      generalize accW n fs w c j.toNat = x at hacc
      have g1 : wrap64 (c * fs.length) = c * fs.length := w64 (by omega) (by omega)
      have g2 : wrap64 (c * fs.length + j) = c * fs.length + j := w64 (by omega) (by omega)
      generalize fr fs j = f at *
      clear hrow
      (repeat (first | refine TS.imp ?_ | refine n9 (by decide) ?_))
      refine TR.imp ?_; intro K hK; simp only [go_sem, hP, hn]; (repeat refine vc ?_); refine hK _ ?_; clear K hK
      (repeat (first | refine TS.imp ?_ | refine n9 (by decide) ?_))
      rcases Decidable.em (n.k = 2) with hk | hk
      · have hs1 : stW n w = 1 := by unfold stW; rw [if_pos hk]
        have hcw := h.dp hk
        rw [hs1] at hacc o1 o2 o3
        rw [if_pos hk] at hacc
        have hv : dotK n.ws ((c * (fs.length : Int) + j) * ((1 : Nat) : Int)) [rd f c] 1 x = wrap64 (x + wrap64 (rd n.ws (c * (fs.length : Int) + j) * rd f c)) := by
          have : rd [rd f c] ((0 : Nat) : Int) = rd f c := rfl
          simp only [dotK, this]
          rw [show (c * (fs.length : Int) + j) * ((1 : Nat) : Int) + ((0 : Nat) : Int) = c * (fs.length : Int) + j by omega]
        rw [hv] at hacc
        refine Tr.loop (fun r s => ∃ (k v : Int), s = J3 n fs w c j k v L ∧ 0 ≤ k ∧ k + r = w ∧ v = (if k ≤ c then x else wrap64 (x + wrap64 (rd n.ws (c * (fs.length : Int) + j) * rd f c)))) w ⟨_, (Le.mv (by simp only [go_sem, hP, hn]; first | done | (simp; done) | (simp [intC]; done) | (repeat (first | rfl | constructor))) (by simp only [go_sem, hP, hn]; first | done | (simp; done) | (simp [intC]; done) | (repeat (first | rfl | constructor)))), 0, x, rfl, by omega, by omega, by rw [if_pos c0]⟩ ?_
        rintro r s ⟨k, v, rfl, k0, kr, hv2⟩
        (repeat (first | refine TS.imp ?_ | refine n9 (by decide) ?_))
        refine TR.imp ?_; intro K hK; simp only [go_sem, hP, hn]; (repeat refine vc ?_); refine hK _ ?_; clear K hK
        (repeat (first | refine TS.imp ?_ | refine n9 (by decide) ?_))
        refine Tr.cond rfl (fun hb => ?_) (fun hb => ?_)
        · have hkw : k < w := by simpa using hb
          clear hb
          (repeat (first | refine TS.imp ?_ | refine n9 (by decide) ?_))
          refine TR.imp ?_; intro K hK; simp only [go_sem, hP, hn]; (repeat refine vc ?_); refine hK _ ?_; clear K hK
          (repeat (first | refine TS.imp ?_ | refine n9 (by decide) ?_))
          refine Tr.cond rfl (fun hd => ?_) (fun hd => ?_)
          · exfalso
            rw [hk] at hd
            simp at hd
          clear hd
          (repeat (first | refine TS.imp ?_ | refine n9 (by decide) ?_))
          refine TR.imp ?_; intro K hK; simp only [go_sem, hP, hn]; (repeat refine vc ?_); refine hK _ ?_; clear K hK
          (repeat (first | refine TS.imp ?_ | refine n9 (by decide) ?_))
          refine Tr.cond rfl (fun hd => ?_) (fun hd => ?_)
          · obtain rfl : k = c := by simpa using hd
            rw [if_pos (Int.le_refl _)] at hv2
            subst hv2
            clear hd
            (repeat (first | refine TS.imp ?_ | refine n9 (by decide) ?_))
            (first | refine d1 (.p true 0 (.p true 1 (.p true 2 (.p true 3 (.p true 4 (.p true 5 (.p true 6 (.p true 7 (.p true 8 (.p true 9 (.p true 10 (.p true 11 (.p true 12 (.p true 13 (.p true 14 (.p true 15 (.p true 16 (.p true 17 (.p true 18 (.p true 19 (.p true 20 .nil))))))))))))))))))))) [] (by rw [hP]; kernel_rfl) (by kernel_rfl) (by simp only [go_sem, hP, hn]; try simp) (fun _ _ h => h) fun K hK => ?_ | refine d2 (.p true 0 (.p true 1 (.p true 2 (.p true 3 (.p true 4 (.p true 5 (.p true 6 (.p true 7 (.p true 8 (.p true 9 (.p true 10 (.p true 11 (.p true 12 (.p true 13 (.p true 14 (.p true 15 (.p true 16 (.p true 17 (.p true 18 (.p true 19 (.p true 20 .nil))))))))))))))))))))) [] (by rw [hP]; kernel_rfl) (by kernel_rfl) (by simp only [go_sem, hP, hn]; try simp) (fun _ _ h => h) fun K hK => ?_ | refine d4 (.p true 0 (.p true 1 (.p true 2 (.p true 3 (.p true 4 (.p true 5 (.p true 6 (.p true 7 (.p true 8 (.p true 9 (.p true 10 (.p true 11 (.p true 12 (.p true 13 (.p true 14 (.p true 15 (.p true 16 (.p true 17 (.p true 18 (.p true 19 (.p true 20 .nil))))))))))))))))))))) [] (by rw [hP]; kernel_rfl) (by kernel_rfl) (by simp only [go_sem, hP, hn]; try simp) (fun _ _ h => h) fun K hK => ?_); simp only [go_sem, hP, hn]
            rw [hfr, g1, g2]
            simp only [go_sem, hP, hn]
            (repeat refine vc ?_)
            refine hK _ ?_; clear K hK
            (repeat (first | refine TS.imp ?_ | refine n9 (by decide) ?_))
            refine TR.imp ?_; intro K hK; simp only [go_sem, hP, hn]; (repeat refine vc ?_); refine hK _ ?_; clear K hK
            (repeat (first | refine TS.imp ?_ | refine n9 (by decide) ?_))
            rw [w64 (x := k + 1) (by omega) (by omega)]
            refine ⟨r - 1, _, by omega, ?_, k + 1, wrap64 (v + wrap64 (rd n.ws (k * (fs.length : Int) + j) * rd f k)), rfl, by omega, by omega, by rw [if_neg (by omega)]⟩
            exact (Le.mv (by simp only [go_sem, hP, hn]; first | done | (simp; done) | (simp [intC]; done) | (repeat (first | rfl | constructor))) (by simp only [go_sem, hP, hn]; first | done | (simp; done) | (simp [intC]; done) | (repeat (first | rfl | constructor))))
          · have hne : k ≠ c := by simpa using hd
            (repeat (first | refine TS.imp ?_ | refine n9 (by decide) ?_))
            refine TR.imp ?_; intro K hK; simp only [go_sem, hP, hn]; (repeat refine vc ?_); refine hK _ ?_; clear K hK
            (repeat (first | refine TS.imp ?_ | refine n9 (by decide) ?_))
            rw [w64 (x := k + 1) (by omega) (by omega)]
            refine ⟨r - 1, _, by omega, ?_, k + 1, v, rfl, by omega, by omega, ?_⟩
            · exact (Le.mv (by simp only [go_sem, hP, hn]; first | done | (simp; done) | (simp [intC]; done) | (repeat (first | rfl | constructor))) (by simp only [go_sem, hP, hn]; first | done | (simp; done) | (simp [intC]; done) | (repeat (first | rfl | constructor))))
            · rw [hv2]
              rcases Int.lt_or_le k c with h9 | h9
              · rw [if_pos (by omega), if_pos (by omega)]
              · rw [if_neg (by omega), if_neg (by omega)]
        · have hke : k = w := by have := of_decide_eq_false hb; omega
          rw [if_neg (by omega), ← hacc] at hv2
          subst hv2
          clear hb hacc
          (repeat (first | refine TS.imp ?_ | refine n9 (by decide) ?_))
          refine TR.imp ?_; intro K hK; simp only [go_sem, hP, hn]; (repeat refine vc ?_); refine hK _ ?_; clear K hK
          (repeat (first | refine TS.imp ?_ | refine n9 (by decide) ?_))
          rw [w64 (x := j + 1) (by omega) (by omega)]
          refine ⟨p - 1, _, by omega, ?_, j + 1, rfl, by omega, by omega⟩
          exact (Le.mv (by simp only [go_sem, hP, hn]; first | done | (simp; done) | (simp [intC]; done) | (repeat (first | rfl | constructor))) (by simp only [go_sem, hP, hn]; first | done | (simp; done) | (simp [intC]; done) | (repeat (first | rfl | constructor))))
      · have hs1 : stW n w = w := by unfold stW; rw [if_neg hk]
        rw [hs1] at hacc o1 o2 o3
        rw [if_neg hk] at hacc
        have g3 : wrap64 ((c * (fs.length : Int) + j) * w) = (c * (fs.length : Int) + j) * w := w64 (by omega) (by omega)
        generalize hoo : (c * (fs.length : Int) + j) * (w : Int) = o at hacc o1 o2 o3 g3
        refine Tr.loop (fun r s => ∃ (k : Int), s = J3 n fs w c j k (dotK n.ws o f k.toNat x) L ∧ 0 ≤ k ∧ k + r = w) w ⟨_, (Le.mv (by simp only [go_sem, hP, hn]; first | done | (simp; done) | (simp [intC]; done) | (repeat (first | rfl | constructor))) (by simp only [go_sem, hP, hn]; first | done | (simp; done) | (simp [intC]; done) | (repeat (first | rfl | constructor)))), 0, rfl, by omega, by omega⟩ ?_
        rintro r s ⟨k, rfl, k0, kr⟩
        (repeat (first | refine TS.imp ?_ | refine n9 (by decide) ?_))
        refine TR.imp ?_; intro K hK; simp only [go_sem, hP, hn]; (repeat refine vc ?_); refine hK _ ?_; clear K hK
        (repeat (first | refine TS.imp ?_ | refine n9 (by decide) ?_))
        refine Tr.cond rfl (fun hb => ?_) (fun hb => ?_)
        · have hkw : k < w := by simpa using hb
          clear hb
          have g4 : wrap64 (o + k) = o + k := w64 (by omega) (by omega)
          (repeat (first | refine TS.imp ?_ | refine n9 (by decide) ?_))
          refine TR.imp ?_; intro K hK; simp only [go_sem, hP, hn]; (repeat refine vc ?_); refine hK _ ?_; clear K hK
          (repeat (first | refine TS.imp ?_ | refine n9 (by decide) ?_))
          refine Tr.cond rfl (fun hd => ?_) (fun hd => ?_)
          rotate_left
          · exfalso
            exact hk (by simpa using hd)
          clear hd
          (repeat (first | refine TS.imp ?_ | refine n9 (by decide) ?_))
          (first | refine d1 (.p true 0 (.p true 1 (.p true 2 (.p true 3 (.p true 4 (.p true 5 (.p true 6 (.p true 7 (.p true 8 (.p true 9 (.p true 10 (.p true 11 (.p true 12 (.p true 13 (.p true 14 (.p true 15 (.p true 16 (.p true 17 (.p true 18 (.p true 19 (.p true 20 (.p true 21 (.p true 22 (.p true 23 (.p true 24 .nil))))))))))))))))))))))))) [] (by rw [hP]; kernel_rfl) (by kernel_rfl) (by simp only [go_sem, hP, hn]; try simp) (fun _ _ h => h) fun K hK => ?_ | refine d2 (.p true 0 (.p true 1 (.p true 2 (.p true 3 (.p true 4 (.p true 5 (.p true 6 (.p true 7 (.p true 8 (.p true 9 (.p true 10 (.p true 11 (.p true 12 (.p true 13 (.p true 14 (.p true 15 (.p true 16 (.p true 17 (.p true 18 (.p true 19 (.p true 20 (.p true 21 (.p true 22 (.p true 23 (.p true 24 .nil))))))))))))))))))))))))) [] (by rw [hP]; kernel_rfl) (by kernel_rfl) (by simp only [go_sem, hP, hn]; try simp) (fun _ _ h => h) fun K hK => ?_ | refine d4 (.p true 0 (.p true 1 (.p true 2 (.p true 3 (.p true 4 (.p true 5 (.p true 6 (.p true 7 (.p true 8 (.p true 9 (.p true 10 (.p true 11 (.p true 12 (.p true 13 (.p true 14 (.p true 15 (.p true 16 (.p true 17 (.p true 18 (.p true 19 (.p true 20 (.p true 21 (.p true 22 (.p true 23 (.p true 24 .nil))))))))))))))))))))))))) [] (by rw [hP]; kernel_rfl) (by kernel_rfl) (by simp only [go_sem, hP, hn]; try simp) (fun _ _ h => h) fun K hK => ?_); simp only [go_sem, hP, hn]
          rw [hfr, g1, g2, hoo, g3, g4]
          simp only [go_sem, hP, hn]
          (repeat refine vc ?_)
          refine hK _ ?_; clear K hK
          (repeat (first | refine TS.imp ?_ | refine n9 (by decide) ?_))
          refine TR.imp ?_; intro K hK; simp only [go_sem, hP, hn]; (repeat refine vc ?_); refine hK _ ?_; clear K hK
          (repeat (first | refine TS.imp ?_ | refine n9 (by decide) ?_))
          rw [w64 (x := k + 1) (by omega) (by omega)]
          refine ⟨r - 1, _, by omega, ?_, k + 1, rfl, by omega, by omega⟩
          rw [show (k + 1).toNat = k.toNat + 1 by omega]
          simp only [dotK]
          rw [Int.toNat_of_nonneg k0]
          exact (Le.mv (by simp only [go_sem, hP, hn]; first | done | (simp; done) | (simp [intC]; done) | (repeat (first | rfl | constructor))) (by simp only [go_sem, hP, hn]; first | done | (simp; done) | (simp [intC]; done) | (repeat (first | rfl | constructor))))
        · have hke : k = w := by have := of_decide_eq_false hb; omega
          subst hke
          clear hb
          rw [Int.toNat_natCast, ← hacc]
          (repeat (first | refine TS.imp ?_ | refine n9 (by decide) ?_))
          refine TR.imp ?_; intro K hK; simp only [go_sem, hP, hn]; (repeat refine vc ?_); refine hK _ ?_; clear K hK
          (repeat (first | refine TS.imp ?_ | refine n9 (by decide) ?_))
          rw [w64 (x := j + 1) (by omega) (by omega)]
          refine ⟨p - 1, _, by omega, ?_, j + 1, rfl, by omega, by omega⟩
          exact (Le.mv (by simp only [go_sem, hP, hn]; first | done | (simp; done) | (simp [intC]; done) | (repeat (first | rfl | constructor))) (by simp only [go_sem, hP, hn]; first | done | (simp; done) | (simp [intC]; done) | (repeat (first | rfl | constructor))))
    · have hj : j = fs.length := by have := of_decide_eq_false hb; omega
      subst hj
      clear hb
      rw [Int.toNat_natCast]
      (repeat (first | refine TS.imp ?_ | refine n9 (by decide) ?_))
      refine TR.imp ?_; intro K hK; simp only [go_sem, hP, hn]; (repeat refine vc ?_); refine c1 (by rw [hP, hT]; exact rpost_c Tm n (accW n fs w c fs.length) (bit2 _ hp.1 hp.2)) rfl rfl rfl trivial (by simp only [go_sem, hP, hn]; try trivial) (by simp only [go_sem, hP, hn]; try rfl) (by rw [hn]; decide) (by rfl) ?_; simp only [go_sem, hP, hn]; (repeat refine vc ?_); refine hK _ ?_; clear K hK
      (repeat (first | refine TS.imp ?_ | refine n9 (by decide) ?_))
      refine TR.imp ?_; intro K hK; simp only [go_sem, hP, hn]; (repeat refine vc ?_); refine hK _ ?_; clear K hK
      (repeat (first | refine TS.imp ?_ | refine n9 (by decide) ?_))
      rw [w64 (x := c + 1) (by omega) (by omega)]
      refine ⟨q - 1, _, by omega, ?_, c + 1, L ++ [n.pst (accW n fs w c fs.length)], rfl, by omega, by omega, ?_⟩
      · refine Le.trans (b := ⟨[(1, .d (frD fs)), (2, .ptr 2 0), (5, .d (.i .i64 w)), (6, .own 93), (7, .d (.i .i64 (c + 1)))], [(2, .box 50 n.cs), (93, .row 3 [.i .i64 0] ((L ++ [n.pst (accW n fs w c fs.length)]).map intC))]⟩) (Le.mv (by simp only [go_sem, hP, hn]; first | done | (simp; done) | (simp [intC]; done) | (repeat (first | rfl | constructor))) (by simp only [go_sem, hP, hn]; first | done | (simp; done) | (simp [intC]; done) | (repeat (first | rfl | constructor)))) ?_
        refine Le.trans (Le.ren 93 3001 (by rw [hpn] <;> rfl) rfl rfl) ?_; simp only [renT, renH, renO, renS, renL, rn, go_sem, hP, hn]
        exact (Le.mv (by simp only [go_sem, hP, hn]; first | done | (simp; done) | (simp [intC]; done) | (repeat (first | rfl | constructor))) (by simp only [go_sem, hP, hn]; first | done | (simp; done) | (simp [intC]; done) | (repeat (first | rfl | constructor))))
      · rw [hL, show (c + 1).toNat = c.toNat + 1 by omega]
        simp only [weighedN]
        rw [Int.toNat_of_nonneg c0]
  · have hc : c = n.bs.length := by have := of_decide_eq_false hb; omega
    subst hc
    rw [Int.toNat_natCast] at hL
    subst hL
    refine Tr.le (Le.freeze 3001) ?_
    simp only [go_sem, hP, hn]
    (repeat (first | (refine TR.imp ?_; intro K hK; simp only [go_sem, hP, hn]; (repeat refine vc ?_); refine hK _ ?_; clear K hK) | refine TS.imp ?_ | refine n9 (by decide) ?_))
    simp only [RetG, go_sem]; (repeat with_reducible refine vc ?_)
    rfl
end
section
attribute [local go_sem] frD
def gV (n : Nd) (xs : List Int) : Int :=
  if n.k = 3 ∨ n.k = 5 then rd xs (mostV xs)
  else if n.k = 4 ∨ n.k = 12 then meanV xs
  else if n.k = 7 then addV xs
  else if n.k = 9 then clampV (rd xs 0) n.low n.high
  else if n.k = 10 then scaleV (rd xs 0) n.mult n.shift
  else rd xs 0
theorem frame_each {n : Nd} {fs : List (List Int)} {w : Nat} (h : KOk n fs w) (h1 : rWeighs n.k = false) (h8 : n.k ≠ 8) (h11 : n.k ≠ 11) : frameV n fs w = eachL (gV n) fs w := by
  have hk := h.unpack
  have hq : n.k ≠ 1 ∧ n.k ≠ 2 ∧ n.k ≠ 6 := by
    unfold rWeighs at h1
    simp only [Bool.or_eq_false_iff, beq_eq_false_iff_ne, ne_eq] at h1
    omega
  unfold frameV
  rw [if_neg (by rw [h1]; decide)]
  have key : ∀ g : List Int → Int, (∀ xs, gV n xs = g xs) → eachL g fs w = eachL (gV n) fs w := fun g hg => by rw [show gV n = g from funext hg]
  split
  · rename_i h; exact key _ fun xs => by unfold gV; rw [if_pos h]
  rename_i h3
  split
  · rename_i h; exact key _ fun xs => by unfold gV; rw [if_neg h3, if_pos h]
  rename_i h4
  split
  · rename_i h; exact key _ fun xs => by unfold gV; rw [if_neg h3, if_neg h4, if_pos h]
  rename_i h7
  split
  · rename_i h; exact key _ fun xs => by unfold gV; rw [if_neg h3, if_neg h4, if_neg h7, if_pos h]
  rename_i h9
  split
  · rename_i h; exact key _ fun xs => by unfold gV; rw [if_neg h3, if_neg h4, if_neg h7, if_neg h9, if_pos h]
  omega
end
section
attribute [local go_sem] frD
theorem may_g {T : World → Prop} (Tm : TP T) (n : Nd) (fs : List (List Int)) (hm0 : fs.length ≤ 65536) (hwl : n.ws.length ≤ 65536) (hbl : n.bs.length ≤ 65536) (hil : n.inn.length ≤ 65536) (hfl : ∀ f ∈ fs, f.length ≤ 65536) : Cg Go.Proofs.Tryd.prog T 108 [] [.agg n.cs, .d (frD fs)] (fun r H => H = [] ∧ r = .d (.b (mayV n fs))) := by
  have hrl : (wdsV n fs).length ≤ 65536 := by
    unfold wdsV
    split
    · simp; omega
    · simp
  refine Cg_of [] Tm Go.Proofs.Tryd.func108 rfl rfl Go.Proofs.Tryd.ntmps108 (by simp) rfl (rs := [.tmp 4]) rfl fun E hP hn hT hpn => ?_
  (repeat (first | refine TS.imp ?_ | refine n9 (by decide) ?_))
  refine TR.imp ?_; intro K hK; simp only [go_sem, hP, hn]; (repeat refine vc ?_); refine hK _ ?_; clear K hK
  (repeat (first | refine TS.imp ?_ | refine n9 (by decide) ?_))
  refine TR.imp ?_; intro K hK; simp only [go_sem, hP, hn]; (repeat refine vc ?_); refine c1 (by rw [hP, hT]; exact Windows_r Tm n.k) rfl rfl rfl trivial (by simp only [go_sem, hP, hn]; try trivial) (by simp only [go_sem, hP, hn]; try rfl) (by rw [hn]; decide) (by rfl) ?_; simp only [go_sem, hP, hn]; (repeat refine vc ?_); refine hK _ ?_; clear K hK
  (repeat (first | refine TS.imp ?_ | refine n9 (by decide) ?_))
  refine TR.imp ?_; intro K hK; simp only [go_sem, hP, hn]; (repeat refine vc ?_); refine c1 (by rw [hP, hT]; exact Many_r Tm n.k) rfl rfl rfl trivial (by simp only [go_sem, hP, hn]; try trivial) (by simp only [go_sem, hP, hn]; try rfl) (by rw [hn]; decide) (by rfl) ?_; simp only [go_sem, hP, hn]; (repeat refine vc ?_); refine hK _ ?_; clear K hK
  (repeat (first | refine TS.imp ?_ | refine n9 (by decide) ?_))
  refine Tr.le (Le.keep [1, 2, 5, 6]) ?_; simp only [List.map_cons, List.map_nil, lk, Nat.reduceEqDiff, reduceIte]
  refine TR.imp ?_; intro K hK; simp only [go_sem, hP, hn]; (repeat refine vc ?_); refine hK _ ?_; clear K hK
  (repeat (first | refine TS.imp ?_ | refine n9 (by decide) ?_))
  have hmc : (rWin n.k && (fs.length : Int) != n.size || n.k == 5 && decide ((fs.length : Int) < 1) || rMany n.k && (fs.length : Int) != (n.inn.length : Int) || !rWin n.k && !rMany n.k && n.k != 5 && (fs.length : Int) != 1) = mayC n fs.length := rfl
  rw [hmc]
  refine Tr.cond rfl (fun hc => ?_) (fun hc => ?_)
  · (repeat (first | (refine TR.imp ?_; intro K hK; simp only [go_sem, hP, hn]; (repeat refine vc ?_); refine hK _ ?_; clear K hK) | refine TS.imp ?_ | refine n9 (by decide) ?_))
    simp only [RetG, go_sem]; (repeat with_reducible refine vc ?_)
    unfold mayV
    rw [hc]; rfl
  have hV : mayV n fs = (frsOk n ((fr fs 0).length : Int) 0 fs && (!((fs.length : Int) == 0) && n.rchk (wdsV n fs) == 0)) := by
    unfold mayV; rw [hc]; rfl
  rw [hV]
  clear hc hV hmc
  generalize hv0 : (frsOk n ((fr fs 0).length : Int) 0 fs && (!((fs.length : Int) == 0) && n.rchk (wdsV n fs) == 0)) = v
  refine Tr.le (Le.keep [1, 2, 5, 6]) ?_; simp only [List.map_cons, List.map_nil, lk, Nat.reduceEqDiff, reduceIte]
  (repeat (first | refine TS.imp ?_ | refine n9 (by decide) ?_))
  refine TR.imp ?_; intro K hK; simp only [go_sem, hP, hn]; (repeat refine vc ?_); refine hK _ ?_; clear K hK
  refine Tr.le (Le.nilslot 3001 7 3 [.i .i64 0] rfl (by rw [hpn] <;> rfl) rfl rfl) ?_
  (repeat (first | refine TS.imp ?_ | refine n9 (by decide) ?_))
  refine TR.imp ?_; intro K hK; simp only [go_sem, hP, hn]; (repeat refine vc ?_); refine hK _ ?_; clear K hK
  (repeat (first | refine TS.imp ?_ | refine n9 (by decide) ?_))
  refine Tr.le (Le.keep [1, 2, 6, 7, 8]) ?_; simp only [List.map_cons, List.map_nil, lk, Nat.reduceEqDiff, reduceIte]
  refine Tr.loop (fun q s => ∃ (i : Int) (W : List Int), s = ⟨[(1, .d (frD fs)), (2, .ptr 2 0), (6, .d (.b (rMany n.k))), (7, .own 3001), (8, .d (.i .i64 i))], [(2, .box 50 n.cs), (3001, .row 3 [.i .i64 0] (W.map intC))]⟩ ∧ 0 ≤ i ∧ i + q = fs.length ∧ W = (if rMany n.k = true then (fs.map (fun f => (f.length : Int))).take i.toNat else if i = 0 then [] else [((fr fs 0).length : Int)]) ∧ v = (frsOk n ((fr fs 0).length : Int) i (fs.drop i.toNat) && (!((fs.length : Int) == 0) && n.rchk (wdsV n fs) == 0))) fs.length ⟨_, (Le.mv (by simp only [go_sem, hP, hn]; first | done | (simp; done) | (simp [intC]; done) | (repeat (first | rfl | constructor))) (by simp only [go_sem, hP, hn]; first | done | (simp; done) | (simp [intC]; done) | (repeat (first | rfl | constructor)))), 0, [], rfl, by omega, by omega, by simp, hv0.symm⟩ ?_
  clear hv0
  rintro q s ⟨i, W, rfl, i0, iq, hW, hv⟩
  (repeat (first | refine TS.imp ?_ | refine n9 (by decide) ?_))
  refine TR.imp ?_; intro K hK; simp only [go_sem, hP, hn]; (repeat refine vc ?_); refine hK _ ?_; clear K hK
  (repeat (first | refine TS.imp ?_ | refine n9 (by decide) ?_))
  refine Tr.cond rfl (fun hb => ?_) (fun hb => ?_)
  · have hi : i < fs.length := by simpa using hb
    have hfr := rw_fr fs i i0 hi
    have hfr0 : (fs.map frE).getD 0 [.nil] = [.row [.i .i64 0] ((fr fs 0).map intC)] := rw_fr fs 0 (by omega) (by omega)
    have hWl : W.length ≤ 65536 := by
      rw [hW]
      split
      · simp; omega
      · split <;> simp
    have hdr : fs.drop i.toNat = fr fs i :: fs.drop (i + 1).toNat := by
      have hk : i.toNat < fs.length := by omega
      rw [List.drop_eq_getElem_cons hk, show (i + 1).toNat = i.toNat + 1 by omega]
      simp [fr, List.getD, hk]
    have hfl2 := hfl _ (fr_mem i0 hi)
    have htk : (fs.map (fun f => (f.length : Int))).take (i + 1).toNat = (fs.map (fun f => (f.length : Int))).take i.toNat ++ [((fr fs i).length : Int)] := by
      rw [take_rd i0 (by simpa using hi)]
      have hk : i.toNat < fs.length := by omega
      simp [rd, fr, List.getD, hk]
    have hz : i = 0 → fr fs i = fr fs 0 := fun e => by rw [e]
    rw [hdr, frsOk] at hv
    unfold frOk2 at hv
    generalize fr fs i = f at *
    generalize hv2 : frsOk n ((fr fs 0).length : Int) (i + 1) (fs.drop (i + 1).toNat) = v2 at hv
    generalize hv3 : (!((fs.length : Int) == 0) && n.rchk (wdsV n fs) == 0) = v3 at hv
    clear hb
    (repeat (first | refine TS.imp ?_ | refine n9 (by decide) ?_))
    refine TR.imp ?_; intro K hK; simp only [go_sem, hP, hn]; (repeat refine vc ?_); refine hK _ ?_; clear K hK
    (repeat (first | refine TS.imp ?_ | refine n9 (by decide) ?_))
    refine Tr.le (Le.keep [1, 2, 6, 7, 8, 9]) ?_; simp only [List.map_cons, List.map_nil, lk, Nat.reduceEqDiff, reduceIte]
    refine Tr.loop (fun p s => ∃ (k : Int), s = ⟨[(1, .d (frD fs)), (2, .ptr 2 0), (6, .d (.b (rMany n.k))), (7, .own 3001), (8, .d (.i .i64 i)), (9, .d (.i .i64 k))], [(2, .box 50 n.cs), (3001, .row 3 [.i .i64 0] (W.map intC))]⟩ ∧ 0 ≤ k ∧ k + p = f.length ∧ v = (((f.drop k.toNat).all fits32 && (i == 0 || rMany n.k || !((f.length : Int) != ((fr fs 0).length : Int)))) && v2 && v3)) f.length ⟨_, (Le.mv (by simp only [go_sem, hP, hn]; first | done | (simp; done) | (simp [intC]; done) | (repeat (first | rfl | constructor))) (by simp only [go_sem, hP, hn]; first | done | (simp; done) | (simp [intC]; done) | (repeat (first | rfl | constructor)))), 0, rfl, by omega, by omega, hv⟩ ?_
    clear hv
    rintro p s ⟨k, rfl, k0, kp, hv⟩
    (repeat (first | refine TS.imp ?_ | refine n9 (by decide) ?_))
    refine TR.imp ?_; intro K hK; simp only [go_sem, hP, hn]
    rw [hfr]
    simp only [go_sem, hP, hn]
    (repeat refine vc ?_)
    refine hK _ ?_; clear K hK
    (repeat (first | refine TS.imp ?_ | refine n9 (by decide) ?_))
    refine Tr.cond rfl (fun hb => ?_) (fun hb => ?_)
    · have hk : k < f.length := by simpa using hb
      rw [drop_rd k0 hk, List.all_cons] at hv
      clear hb
      (repeat (first | refine TS.imp ?_ | refine n9 (by decide) ?_))
      refine TR.imp ?_; intro K hK; simp only [go_sem, hP, hn]
      rw [hfr]
      simp only [go_sem, hP, hn]
      (repeat refine vc ?_)
      refine c1 (by rw [hP, hT]; exact Word_c Tm (rd f k)) rfl rfl rfl trivial (by simp only [go_sem, hP, hn]; try trivial) (by simp only [go_sem, hP, hn]; try rfl) (by rw [hn]; decide) (by rfl) ?_; simp only [go_sem, hP, hn]; (repeat refine vc ?_)
      refine hK _ ?_; clear K hK
      (repeat (first | refine TS.imp ?_ | refine n9 (by decide) ?_))
      refine TR.imp ?_; intro K hK; simp only [go_sem, hP, hn]; (repeat refine vc ?_); refine hK _ ?_; clear K hK
      (repeat (first | refine TS.imp ?_ | refine n9 (by decide) ?_))
      refine Tr.cond rfl (fun hc => ?_) (fun hc => ?_)
      · have hc : fits32 (rd f k) = false := by simpa using hc
        (repeat (first | (refine TR.imp ?_; intro K hK; simp only [go_sem, hP, hn]; (repeat refine vc ?_); refine hK _ ?_; clear K hK) | refine TS.imp ?_ | refine n9 (by decide) ?_))
        simp only [RetG, go_sem]; (repeat with_reducible refine vc ?_)
        rw [hv, hc]; rfl
      have hc : fits32 (rd f k) = true := by simpa using hc
      (repeat (first | refine TS.imp ?_ | refine n9 (by decide) ?_))
      refine TR.imp ?_; intro K hK; simp only [go_sem, hP, hn]; (repeat refine vc ?_); refine hK _ ?_; clear K hK
      (repeat (first | refine TS.imp ?_ | refine n9 (by decide) ?_))
      rw [w64 (x := k + 1) (by omega) (by omega)]
      refine ⟨p - 1, _, by omega, ?_, k + 1, rfl, by omega, by omega, by rw [hv, hc, Bool.true_and]⟩
      exact (Le.mv (by simp only [go_sem, hP, hn]; first | done | (simp; done) | (simp [intC]; done) | (repeat (first | rfl | constructor))) (by simp only [go_sem, hP, hn]; first | done | (simp; done) | (simp [intC]; done) | (repeat (first | rfl | constructor))))
    rw [drop_end (by simpa using hb), List.all_nil, Bool.true_and] at hv
    clear hb k0 kp
    (repeat (first | refine TS.imp ?_ | refine n9 (by decide) ?_))
    refine Tr.le (Le.keep [1, 2, 6, 7, 8]) ?_; simp only [List.map_cons, List.map_nil, lk, Nat.reduceEqDiff, reduceIte]
    refine TR.imp ?_; intro K hK; simp only [go_sem, hP, hn]; (repeat refine vc ?_); refine hK _ ?_; clear K hK
    (repeat (first | refine TS.imp ?_ | refine n9 (by decide) ?_))
    refine Tr.cond rfl (fun hc => ?_) (fun hc => ?_)
    · rw [hc, Bool.true_or, Bool.true_and] at hv
      (repeat (first | refine TS.imp ?_ | refine n9 (by decide) ?_))
      refine TR.imp ?_; intro K hK; simp only [go_sem, hP, hn]
      rw [hfr]
      simp only [go_sem, hP, hn]
      (repeat refine vc ?_)
      refine hK _ ?_; clear K hK
      (repeat (first | refine TS.imp ?_ | refine n9 (by decide) ?_))
      refine TR.imp ?_; intro K hK; simp only [go_sem, hP, hn]; (repeat refine vc ?_); refine hK _ ?_; clear K hK
      (repeat (first | refine TS.imp ?_ | refine n9 (by decide) ?_))
      rw [w64 (x := i + 1) (by omega) (by omega)]
      refine ⟨q - 1, _, by omega, ?_, i + 1, W ++ [(f.length : Int)], rfl, by omega, by omega, ?_, by rw [hv2]; exact hv⟩
      · refine Le.trans (b := ⟨[(1, .d (frD fs)), (2, .ptr 2 0), (6, .d (.b (rMany n.k))), (7, .own 101), (8, .d (.i .i64 (i + 1)))], [(2, .box 50 n.cs), (101, .row 3 [.i .i64 0] ((W ++ [(f.length : Int)]).map intC))]⟩) (Le.mv (by simp only [go_sem, hP, hn]; first | done | (simp; done) | (simp [intC]; done) | (repeat (first | rfl | constructor))) (by simp only [go_sem, hP, hn]; first | done | (simp; done) | (simp [intC]; done) | (repeat (first | rfl | constructor)))) ?_
        refine Le.trans (Le.ren 101 3001 (by rw [hpn] <;> rfl) rfl rfl) ?_; simp only [renT, renH, renO, renS, renL, rn, go_sem, hP, hn]
        exact (Le.mv (by simp only [go_sem, hP, hn]; first | done | (simp; done) | (simp [intC]; done) | (repeat (first | rfl | constructor))) (by simp only [go_sem, hP, hn]; first | done | (simp; done) | (simp [intC]; done) | (repeat (first | rfl | constructor))))
      · rw [hW, htk]
        cases hm : rMany n.k with
        | true => rw [if_pos rfl, if_pos rfl]
        | false =>
          rw [hm, Bool.or_false] at hc
          have : i = 0 := by simpa using hc
          have h2 : ¬ i + 1 = 0 := by omega
          simp only [this, hz this, h2, if_true, if_false, Bool.false_eq_true, List.nil_append]
          simp
    · have hc2 : (i == 0) = false ∧ rMany n.k = false := by simpa [Bool.or_eq_false_iff] using hc
      have hi0 : i ≠ 0 := by simpa using hc2.1
      rw [hc, Bool.false_or] at hv
      (repeat (first | refine TS.imp ?_ | refine n9 (by decide) ?_))
      (first | refine d1 (.p true 0 (.p true 1 (.p true 2 (.p true 3 (.p true 4 (.p true 5 (.p true 6 (.p true 7 (.p true 8 (.p true 9 .nil)))))))))) [] (by rw [hP]; kernel_rfl) (by kernel_rfl) (by simp only [go_sem, hP, hn]; try simp) (fun _ _ h => h) fun K hK => ?_ | refine d2 (.p true 0 (.p true 1 (.p true 2 (.p true 3 (.p true 4 (.p true 5 (.p true 6 (.p true 7 (.p true 8 (.p true 9 .nil)))))))))) [] (by rw [hP]; kernel_rfl) (by kernel_rfl) (by simp only [go_sem, hP, hn]; try simp) (fun _ _ h => h) fun K hK => ?_ | refine d4 (.p true 0 (.p true 1 (.p true 2 (.p true 3 (.p true 4 (.p true 5 (.p true 6 (.p true 7 (.p true 8 (.p true 9 .nil)))))))))) [] (by rw [hP]; kernel_rfl) (by kernel_rfl) (by simp only [go_sem, hP, hn]; try simp) (fun _ _ h => h) fun K hK => ?_); simp only [go_sem, hP, hn]
      rw [hfr, hfr0]
      simp only [go_sem, hP, hn]
      (repeat refine vc ?_)
      refine hK _ ?_; clear K hK
      (repeat (first | refine TS.imp ?_ | refine n9 (by decide) ?_))
      refine Tr.cond rfl (fun hd => ?_) (fun hd => ?_)
      · (repeat (first | (refine TR.imp ?_; intro K hK; simp only [go_sem, hP, hn]; (repeat refine vc ?_); refine hK _ ?_; clear K hK) | refine TS.imp ?_ | refine n9 (by decide) ?_))
        simp only [RetG, go_sem]; (repeat with_reducible refine vc ?_)
        rw [hv, hd]; rfl
      rw [hd, Bool.not_false, Bool.true_and] at hv
      (repeat (first | refine TS.imp ?_ | refine n9 (by decide) ?_))
      refine TR.imp ?_; intro K hK; simp only [go_sem, hP, hn]; (repeat refine vc ?_); refine hK _ ?_; clear K hK
      (repeat (first | refine TS.imp ?_ | refine n9 (by decide) ?_))
      rw [w64 (x := i + 1) (by omega) (by omega)]
      refine ⟨q - 1, _, by omega, ?_, i + 1, W, rfl, by omega, by omega, ?_, by rw [hv2]; exact hv⟩
      · exact (Le.mv (by simp only [go_sem, hP, hn]; first | done | (simp; done) | (simp [intC]; done) | (repeat (first | rfl | constructor))) (by simp only [go_sem, hP, hn]; first | done | (simp; done) | (simp [intC]; done) | (repeat (first | rfl | constructor))))
      · have h2 : ¬ i + 1 = 0 := by omega
        rw [hW, hc2.2]
        simp only [hi0, h2, if_false, Bool.false_eq_true]
  · have hi : i = fs.length := by have := of_decide_eq_false hb; omega
    rw [List.drop_of_length_le (by omega), frsOk, Bool.true_and] at hv
    have hW2 : (fs.length : Int) ≠ 0 → W = wdsV n fs := fun e => by
      rw [hW, hi, Int.toNat_natCast]
      unfold wdsV
      split
      · rw [List.take_of_length_le (by simp)]
      · simp only [e, if_false]
    subst hi
    refine Tr.le (Le.freeze 3001) ?_
    simp only [go_sem, hP, hn]
    (repeat (first | refine TS.imp ?_ | refine n9 (by decide) ?_))
    cases hz : ((fs.length : Int) == 0) with
    | true =>
      rw [hz] at hv
      have hl0 : fs.length = 0 := by have : (fs.length : Int) = 0 := by simpa using hz
                                     omega
      have hWl : W.length ≤ 65536 := by
        rw [hW]
        split
        · simp; omega
        · split <;> simp
      refine TR.imp ?_; intro K hK; simp only [go_sem, hP, hn]; (repeat refine vc ?_); refine c2 (fun hg => by rw [hP, hT]; exact Check_r Tm n W hwl hbl hWl hil) rfl rfl rfl (fun hg => trivial) (fun hg => by clear hK; revert hg; simp only [go_sem, hP, hn]; first | trivial | omega | (simp; done) | (simp +contextual; done) | grind) (fun hg => by simp only [go_sem, hP, hn]; try rfl) (by rw [hn]; decide) (by rfl) ?_; simp only [go_sem, hP, hn]; (repeat refine vc ?_); refine hK _ ?_; clear K hK
      (repeat (first | (refine TR.imp ?_; intro K hK; simp only [go_sem, hP, hn]; (repeat refine vc ?_); refine hK _ ?_; clear K hK) | refine TS.imp ?_ | refine n9 (by decide) ?_))
      simp only [RetG, go_sem]; (repeat with_reducible refine vc ?_)
      rw [hv, hl0]; rfl
    | false =>
      rw [hz] at hv
      have hl0 : (fs.length : Int) ≠ 0 := by simpa using hz
      have hd : decide (0 < (fs.length : Int)) = true := decide_eq_true (by omega)
      rw [hW2 hl0]
      refine TR.imp ?_; intro K hK; simp only [go_sem, hP, hn]; (repeat refine vc ?_); refine c2 (fun hg => by rw [hP, hT]; exact Check_r Tm n (wdsV n fs) hwl hbl hrl hil) rfl rfl rfl (fun hg => trivial) (fun hg => by clear hK; revert hg; simp only [go_sem, hP, hn]; first | trivial | omega | (simp; done) | (simp +contextual; done) | grind) (fun hg => by simp only [go_sem, hP, hn]; try rfl) (by rw [hn]; decide) (by rfl) ?_; simp only [go_sem, hP, hn]; (repeat refine vc ?_); refine hK _ ?_; clear K hK
      (repeat (first | (refine TR.imp ?_; intro K hK; simp only [go_sem, hP, hn]; (repeat refine vc ?_); refine hK _ ?_; clear K hK) | refine TS.imp ?_ | refine n9 (by decide) ?_))
      simp only [RetG, go_sem]; (repeat with_reducible refine vc ?_)
      rw [hv, hd]; rfl
end
section
attribute [local go_sem] frD
theorem rFrame_w {T : World → Prop} (Tm : TP T) (n : Nd) (fs : List (List Int)) (w : Nat) (h : FOk n fs w) (hR : mayV n fs = true) : Cg Go.Proofs.Tryd.prog T 77 [] [.agg n.cs, .d (frD fs)] (fun r H => H = [] ∧ r = .d (.row [.i .i64 0] ((frameV n fs w).map intC))) := by
  have hm0 := h.m0
  have hw0 := h.w0
  have hf0 := h.f0
  have hRc := may_g Tm n fs (by omega) (Nat.le_trans h.wl (by decide)) (Nat.le_trans h.bl (by decide)) (Nat.le_trans h.il (by decide)) (fun f hf => Nat.le_trans (h.le f hf) (by decide))
  rw [hR] at hRc
  have hfr0 : (fs.map frE).getD 0 [.nil] = [.row [.i .i64 0] ((fr fs 0).map intC)] := rw_fr fs 0 (by omega) (by omega)
  refine Cg_of [] Tm Go.Proofs.Tryd.func77 rfl rfl Go.Proofs.Tryd.ntmps77 (by simp) rfl (rs := [.tmp 4]) rfl fun E hP hn hT hpn => ?_
  (repeat (first | refine TS.imp ?_ | refine n9 (by decide) ?_))
  refine TR.imp ?_; intro K hK; simp only [go_sem, hP, hn]; (repeat refine vc ?_); refine hK _ ?_; clear K hK
  (repeat (first | refine TS.imp ?_ | refine n9 (by decide) ?_))
  refine TR.imp ?_; intro K hK; simp only [go_sem, hP, hn]
  (repeat refine vc ?_)
  refine CallN_cs (Hi := [] ) (by rw [hP, hT]; exact  hRc) rfl rfl rfl trivial (by simp only [go_sem, hP, hn]; try trivial) (by simp only [go_sem, hP, hn]; try rfl) (by simp only [inH, go_sem, hP, hn]; try simp) (by rw [hn]; decide) ?_; simp only [go_sem, hP, hn]; (repeat refine vc ?_)
  refine hK _ ?_; clear K hK
  (repeat (first | refine TS.imp ?_ | refine n9 (by decide) ?_))
  refine TR.imp ?_; intro K hK; simp only [go_sem, hP, hn]; (repeat refine vc ?_); refine hK _ ?_; clear K hK
  (repeat (first | refine TS.imp ?_ | refine n9 (by decide) ?_))
  refine Tr.cond rfl (fun h0 => ?_) (fun h0 => ?_)
  · cases h0
  clear h0
  (repeat (first | refine TS.imp ?_ | refine n9 (by decide) ?_))
  refine TR.imp ?_; intro K hK; simp only [go_sem, hP, hn]; (repeat refine vc ?_); refine hK _ ?_; clear K hK
  refine Tr.le (Le.keep [1, 2, 6]) ?_; simp only [List.map_cons, List.map_nil, lk, Nat.reduceEqDiff, reduceIte]
  refine Tr.le (Le.nilslot 3001 6 3 [.i .i64 0] rfl (by rw [hpn] <;> rfl) rfl rfl) ?_
  refine Tr.seq ?_
  refine Tr.meet (fun s => (rWeighs n.k = false ∧ n.k ≠ 8 ∧ n.k ≠ 11) ∧ s = ⟨[(1, .d (frD fs)), (2, .ptr 2 0), (6, .own 3001)], [(2, .box 50 n.cs), (3001, .row 3 [.i .i64 0] (([] : List Int).map intC))]⟩) ?_ ?_
  rotate_left
  · (repeat (first | refine TS.imp ?_ | refine n9 (by decide) ?_))
    refine TR.imp ?_; intro K hK; simp only [go_sem, hP, hn]; (repeat refine vc ?_); refine hK _ ?_; clear K hK
    refine Tr.le (Le.keep [1, 2, 6, 17]) ?_; simp only [List.map_cons, List.map_nil, lk, Nat.reduceEqDiff, reduceIte]
    refine Tr.block ?_
    refine Tr.seq ?_
    refine Tr.meet (fun s => s = ⟨[(1, .d (frD fs)), (2, .ptr 2 0), (6, .own 3001), (17, .d (.i .i64 n.k)), (18, .d (.b (rWeighs n.k)))], [(2, .box 50 n.cs), (3001, .row 3 [.i .i64 0] (([] : List Int).map intC))]⟩) ?_ ?_
    rotate_left
    · (repeat (first | refine TS.imp ?_ | refine n9 (by decide) ?_))
      refine TR.imp ?_; intro K hK; simp only [go_sem, hP, hn]; (repeat refine vc ?_); refine hK _ ?_; clear K hK
      (repeat (first | refine TS.imp ?_ | refine n9 (by decide) ?_))
      refine Tr.cond rfl (fun h1 => ?_) (fun h1 => ?_)
      · rw [h1, show rWeighs n.k = true by unfold rWeighs; rw [h1]; rfl]
        (repeat (first | refine TS.imp ?_ | refine n9 (by decide) ?_))
        exact ⟨_, (Le.mv (by simp only [go_sem, hP, hn]; first | done | (simp; done) | (simp [intC]; done) | (repeat (first | rfl | constructor))) (by simp only [go_sem, hP, hn]; first | done | (simp; done) | (simp [intC]; done) | (repeat (first | rfl | constructor)))), rfl⟩
      (repeat (first | refine TS.imp ?_ | refine n9 (by decide) ?_))
      refine TR.imp ?_; intro K hK; simp only [go_sem, hP, hn]; (repeat refine vc ?_); refine hK _ ?_; clear K hK
      (repeat (first | refine TS.imp ?_ | refine n9 (by decide) ?_))
      refine Tr.cond rfl (fun h2 => ?_) (fun h2 => ?_)
      · rw [h2, show rWeighs n.k = true by unfold rWeighs; rw [h2, Bool.or_true]; rfl]
        (repeat (first | refine TS.imp ?_ | refine n9 (by decide) ?_))
        exact ⟨_, (Le.mv (by simp only [go_sem, hP, hn]; first | done | (simp; done) | (simp [intC]; done) | (repeat (first | rfl | constructor))) (by simp only [go_sem, hP, hn]; first | done | (simp; done) | (simp [intC]; done) | (repeat (first | rfl | constructor)))), rfl⟩
      (repeat (first | refine TS.imp ?_ | refine n9 (by decide) ?_))
      refine TR.imp ?_; intro K hK; simp only [go_sem, hP, hn]; (repeat refine vc ?_); refine hK _ ?_; clear K hK
      (repeat (first | refine TS.imp ?_ | refine n9 (by decide) ?_))
      rw [show rWeighs n.k = (n.k == 6) by unfold rWeighs; rw [h1, h2]; rfl]
      exact ⟨_, (Le.mv (by simp only [go_sem, hP, hn]; first | done | (simp; done) | (simp [intC]; done) | (repeat (first | rfl | constructor))) (by simp only [go_sem, hP, hn]; first | done | (simp; done) | (simp [intC]; done) | (repeat (first | rfl | constructor)))), rfl⟩
    rintro s rfl
    (repeat (first | refine TS.imp ?_ | refine n9 (by decide) ?_))
    refine Tr.cond rfl (fun hw => ?_) (fun hw => ?_)
    · (repeat (first | refine TS.imp ?_ | refine n9 (by decide) ?_))
      refine TR.imp ?_; intro K hK; simp only [go_sem, hP, hn]
      (repeat refine vc ?_)
      refine CallN_cs (Hi := [] ) (by rw [hP, hT]; exact  rweighed_c Tm n fs w ((h.kok (by unfold rWeighs at hw; simp only [Bool.or_eq_true, beq_iff_eq] at hw; omega)).wok hw) h.post) rfl rfl rfl trivial (by simp only [go_sem, hP, hn]; try trivial) (by simp only [go_sem, hP, hn]; try rfl) (by simp only [inH, go_sem, hP, hn]; try simp) (by rw [hn]; decide) ?_; simp only [go_sem, hP, hn]; (repeat refine vc ?_)
      refine hK _ ?_; clear K hK
      (repeat (first | (refine TR.imp ?_; intro K hK; simp only [go_sem, hP, hn]; (repeat refine vc ?_); refine hK _ ?_; clear K hK) | refine TS.imp ?_ | refine n9 (by decide) ?_))
      simp only [RetG, go_sem]; (repeat with_reducible refine vc ?_)
      unfold frameV
      rw [if_pos hw]
    (repeat (first | refine TS.imp ?_ | refine n9 (by decide) ?_))
    refine TR.imp ?_; intro K hK; simp only [go_sem, hP, hn]; (repeat refine vc ?_); refine hK _ ?_; clear K hK
    (repeat (first | refine TS.imp ?_ | refine n9 (by decide) ?_))
    refine Tr.cond rfl (fun h8 => ?_) (fun h8 => ?_)
    · have hk8 : n.k = 8 := by simpa using h8
      have hFv : frameV n fs w = fs.flatten := by
        unfold frameV
        rw [if_neg (by rw [hw]; decide), if_neg (by omega), if_neg (by omega), if_neg (by omega), if_neg (by omega), if_neg (by omega), if_neg (by omega)]
      rw [hFv]
      (repeat (first | refine TS.imp ?_ | refine n9 (by decide) ?_))
      refine TR.imp ?_; intro K hK; simp only [go_sem, hP, hn]; (repeat refine vc ?_); refine hK _ ?_; clear K hK
      (repeat (first | refine TS.imp ?_ | refine n9 (by decide) ?_))
      refine Tr.le (Le.keep [1, 6, 7]) ?_; simp only [List.map_cons, List.map_nil, lk, Nat.reduceEqDiff, reduceIte]
      refine Tr.loop (fun q s => ∃ (i : Int) (L : List Int), s = ⟨[(1, .d (frD fs)), (6, .own 3001), (7, .d (.i .i64 i))], [(3001, .row 3 [.i .i64 0] (L.map intC))]⟩ ∧ 0 ≤ i ∧ i + q = fs.length ∧ L = (fs.take i.toNat).flatten ∧ L.length ≤ i.toNat * 16) fs.length ⟨_, (Le.mv (by simp only [go_sem, hP, hn]; first | done | (simp; done) | (simp [intC]; done) | (repeat (first | rfl | constructor))) (by simp only [go_sem, hP, hn]; first | done | (simp; done) | (simp [intC]; done) | (repeat (first | rfl | constructor)))), 0, [], rfl, by omega, by omega, rfl, by simp⟩ ?_
      rintro q s ⟨i, L, rfl, i0, iq, hL, hLl⟩
      (repeat (first | refine TS.imp ?_ | refine n9 (by decide) ?_))
      refine TR.imp ?_; intro K hK; simp only [go_sem, hP, hn]; (repeat refine vc ?_); refine hK _ ?_; clear K hK
      (repeat (first | refine TS.imp ?_ | refine n9 (by decide) ?_))
      refine Tr.cond rfl (fun hb => ?_) (fun hb => ?_)
      · have hi : i < fs.length := by simpa using hb
        have hfl := h.le _ (fr_mem i0 hi)
        clear hb
        (repeat (first | refine TS.imp ?_ | refine n9 (by decide) ?_))
        refine TR.imp ?_; intro K hK; simp only [go_sem, hP, hn]
        rw [rw_fr fs i i0 hi]
        simp only [go_sem, hP, hn]
        (repeat refine vc ?_)
        refine hK _ ?_; clear K hK
        (repeat (first | refine TS.imp ?_ | refine n9 (by decide) ?_))
        refine TR.imp ?_; intro K hK; simp only [go_sem, hP, hn]; (repeat refine vc ?_); refine hK _ ?_; clear K hK
        (repeat (first | refine TS.imp ?_ | refine n9 (by decide) ?_))
        rw [w64 (x := i + 1) (by omega) (by omega)]
        refine ⟨q - 1, _, by omega, ?_, i + 1, L ++ fr fs i, rfl, by omega, by omega, ?_, by rw [List.length_append]; omega⟩
        · refine Le.trans (b := ⟨[(1, .d (frD fs)), (6, .own 38), (7, .d (.i .i64 (i + 1)))], [(38, .row 3 [.i .i64 0] ((L ++ fr fs i).map intC))]⟩) (Le.mv (by simp only [go_sem, hP, hn]; first | done | (simp; done) | (simp [intC]; done) | (repeat (first | rfl | constructor))) (by simp only [go_sem, hP, hn]; first | done | (simp; done) | (simp [intC]; done) | (repeat (first | rfl | constructor)))) ?_
          refine Le.trans (Le.ren 38 3001 (by rw [hpn] <;> rfl) rfl rfl) ?_; simp only [renT, renH, renO, renS, renL, rn, go_sem, hP, hn]
          exact (Le.mv (by simp only [go_sem, hP, hn]; first | done | (simp; done) | (simp [intC]; done) | (repeat (first | rfl | constructor))) (by simp only [go_sem, hP, hn]; first | done | (simp; done) | (simp [intC]; done) | (repeat (first | rfl | constructor))))
        · have hk : i.toNat < fs.length := by omega
          rw [hL, show (i + 1).toNat = i.toNat + 1 by omega, List.take_succ_eq_append_getElem hk, List.flatten_append]
          unfold fr
          rw [List.getD_eq_getElem?_getD, List.getElem?_eq_getElem hk]
          simp
      · have hi : i = fs.length := by have := of_decide_eq_false hb; omega
        subst hi
        rw [Int.toNat_natCast, List.take_of_length_le (Nat.le_refl _)] at hL
        subst hL
        refine Tr.le (Le.freeze 3001) ?_
        simp only [go_sem, hP, hn]
        (repeat (first | (refine TR.imp ?_; intro K hK; simp only [go_sem, hP, hn]; (repeat refine vc ?_); refine hK _ ?_; clear K hK) | refine TS.imp ?_ | refine n9 (by decide) ?_))
        simp only [RetG, go_sem]; (repeat with_reducible refine vc ?_)
    have hk8 : n.k ≠ 8 := by simpa using h8
    (repeat (first | refine TS.imp ?_ | refine n9 (by decide) ?_))
    refine TR.imp ?_; intro K hK; simp only [go_sem, hP, hn]; (repeat refine vc ?_); refine hK _ ?_; clear K hK
    (repeat (first | refine TS.imp ?_ | refine n9 (by decide) ?_))
    refine Tr.cond rfl (fun hb => ?_) (fun hb => ?_)
    · have hk11 : n.k = 11 := by simpa using hb
      (repeat (first | refine TS.imp ?_ | refine n9 (by decide) ?_))
      refine TR.imp ?_; intro K hK; simp only [go_sem, hP, hn]
      rw [hfr0]
      simp only [go_sem, hP, hn]
      (repeat refine vc ?_)
      refine c1 (by rw [hP, hT]; exact rmost_c Tm (fr fs 0) (by omega) (by omega)) rfl rfl rfl trivial (by simp only [go_sem, hP, hn]; try trivial) (by simp only [go_sem, hP, hn]; try rfl) (by rw [hn]; decide) (by rfl) ?_; simp only [go_sem, hP, hn]; (repeat refine vc ?_)
      (repeat refine vc ?_)
      refine hK _ ?_; clear K hK
      refine Tr.le (Le.freeze 46) ?_
      simp only [go_sem, hP, hn]
      (repeat (first | (refine TR.imp ?_; intro K hK; simp only [go_sem, hP, hn]; (repeat refine vc ?_); refine hK _ ?_; clear K hK) | refine TS.imp ?_ | refine n9 (by decide) ?_))
      simp only [RetG, go_sem]; (repeat with_reducible refine vc ?_)
      unfold frameV
      rw [if_neg (by rw [hw]; decide), if_neg (by omega), if_neg (by omega), if_neg (by omega), if_neg (by omega), if_neg (by omega), if_pos hk11]
      rfl
    have hk11 : n.k ≠ 11 := by simpa using hb
    (repeat (first | refine TS.imp ?_ | refine n9 (by decide) ?_))
    exact ⟨_, (Le.mv (by simp only [go_sem, hP, hn]; first | done | (simp; done) | (simp [intC]; done) | (repeat (first | rfl | constructor))) (by simp only [go_sem, hP, hn]; first | done | (simp; done) | (simp [intC]; done) | (repeat (first | rfl | constructor)))), ⟨by simpa using hw, hk8, hk11⟩, rfl⟩
  rintro s ⟨⟨hw, h8, h11⟩, rfl⟩
  have hkk := h.kok h8
  rw [frame_each hkk hw h8 h11]
  (repeat (first | refine TS.imp ?_ | refine n9 (by decide) ?_))
  refine TR.imp ?_; intro K hK; simp only [go_sem, hP, hn]; (repeat refine vc ?_); refine hK _ ?_; clear K hK
  (repeat (first | refine TS.imp ?_ | refine n9 (by decide) ?_))
  refine Tr.le (Le.keep [1, 2, 6, 8]) ?_; simp only [List.map_cons, List.map_nil, lk, Nat.reduceEqDiff, reduceIte]
  refine Tr.loop (fun q s => ∃ (k : Int) (L : List Int), s = ⟨[(1, .d (frD fs)), (2, .ptr 2 0), (6, .own 3001), (8, .d (.i .i64 k))], [(2, .box 50 n.cs), (3001, .row 3 [.i .i64 0] (L.map intC))]⟩ ∧ 0 ≤ k ∧ k + q = w ∧ L = eachL (gV n) fs k.toNat) w ⟨_, (Le.mv (by simp only [go_sem, hP, hn]; first | done | (simp; done) | (simp [intC]; done) | (repeat (first | rfl | constructor))) (by simp only [go_sem, hP, hn]; first | done | (simp; done) | (simp [intC]; done) | (repeat (first | rfl | constructor)))), 0, [], rfl, by omega, by omega, rfl⟩ ?_
  rintro q s ⟨k, L, rfl, k0, kq, hL⟩
  have hLl : L.length ≤ 16 := by rw [hL, eachL_len]; omega
  (repeat (first | refine TS.imp ?_ | refine n9 (by decide) ?_))
  refine TR.imp ?_; intro K hK; simp only [go_sem, hP, hn]
  rw [hfr0]
  simp only [go_sem, hP, hn]
  rw [hf0]
  (repeat refine vc ?_)
  refine hK _ ?_; clear K hK
  (repeat (first | refine TS.imp ?_ | refine n9 (by decide) ?_))
  refine Tr.cond rfl (fun hb => ?_) (fun hb => ?_)
  · have hk : k < w := by simpa using hb
    have hcl := col_len fs k
    have hc32 := hkk.col k0 hk
    have hE : eachL (gV n) fs (k + 1).toNat = L ++ [gV n (col fs k)] := by
      rw [show (k + 1).toNat = k.toNat + 1 by omega, eachL_take, Int.toNat_of_nonneg k0, hL]
    clear hb hL
    (repeat (first | refine TS.imp ?_ | refine n9 (by decide) ?_))
    refine TR.imp ?_; intro K hK; simp only [go_sem, hP, hn]
    (repeat refine vc ?_)
    refine CallN_cs (Hi := [] ) (by rw [hP, hT]; exact  column_c Tm fs k (by omega) k0 (fun f hf => by rw [hkk.len f hf]; exact hk)) rfl rfl rfl trivial (by simp only [go_sem, hP, hn]; try trivial) (by simp only [go_sem, hP, hn]; try rfl) (by simp only [inH, go_sem, hP, hn]; try simp) (by rw [hn]; decide) ?_; simp only [go_sem, hP, hn]; (repeat refine vc ?_)
    refine hK _ ?_; clear K hK
    generalize col fs k = xs at *
    refine Tr.le (Le.keep [1, 2, 6, 8, 9]) ?_; simp only [List.map_cons, List.map_nil, lk, Nat.reduceEqDiff, reduceIte]
    (repeat (first | refine TS.imp ?_ | refine n9 (by decide) ?_))
    refine TR.imp ?_; intro K hK; simp only [go_sem, hP, hn]; (repeat refine vc ?_); refine hK _ ?_; clear K hK
    refine Tr.seq ?_
    refine Tr.meet (fun s => s = ⟨[(1, .d (frD fs)), (2, .ptr 2 0), (6, .own 3001), (8, .d (.i .i64 k)), (10, .d (.i .i64 (gV n xs))), (9, .d (.row [.i .i64 0] (xs.map intC)))], [(2, .box 50 n.cs), (3001, .row 3 [.i .i64 0] (L.map intC))]⟩) ?_ ?_
    rotate_left
    · unfold gV
      (repeat (first | refine TS.imp ?_ | refine n9 (by decide) ?_))
      refine TR.imp ?_; intro K hK; simp only [go_sem, hP, hn]; (repeat refine vc ?_); refine hK _ ?_; clear K hK
      refine Tr.block ?_
      refine Tr.seq ?_
      refine Tr.meet (fun s => s = ⟨[(1, .d (frD fs)), (2, .ptr 2 0), (6, .own 3001), (8, .d (.i .i64 k)), (10, .d (.i .i64 (rd xs 0))), (62, .d (.i .i64 n.k)), (63, .d (.b (n.k == 3 || n.k == 5))), (9, .d (.row [.i .i64 0] (xs.map intC)))], [(2, .box 50 n.cs), (3001, .row 3 [.i .i64 0] (L.map intC))]⟩) ?_ ?_
      rotate_left
      · (repeat (first | refine TS.imp ?_ | refine n9 (by decide) ?_))
        refine TR.imp ?_; intro K hK; simp only [go_sem, hP, hn]; (repeat refine vc ?_); refine hK _ ?_; clear K hK
        (repeat (first | refine TS.imp ?_ | refine n9 (by decide) ?_))
        refine Tr.cond rfl (fun h1 => ?_) (fun h1 => ?_)
        · rw [h1, Bool.true_or]
          (repeat (first | refine TS.imp ?_ | refine n9 (by decide) ?_))
          exact ⟨_, (Le.mv (by simp only [go_sem, hP, hn]; first | done | (simp; done) | (simp [intC]; done) | (repeat (first | rfl | constructor))) (by simp only [go_sem, hP, hn]; first | done | (simp; done) | (simp [intC]; done) | (repeat (first | rfl | constructor)))), rfl⟩
        (repeat (first | refine TS.imp ?_ | refine n9 (by decide) ?_))
        refine TR.imp ?_; intro K hK; simp only [go_sem, hP, hn]; (repeat refine vc ?_); refine hK _ ?_; clear K hK
        (repeat (first | refine TS.imp ?_ | refine n9 (by decide) ?_))
        rw [h1, Bool.false_or]
        exact ⟨_, (Le.mv (by simp only [go_sem, hP, hn]; first | done | (simp; done) | (simp [intC]; done) | (repeat (first | rfl | constructor))) (by simp only [go_sem, hP, hn]; first | done | (simp; done) | (simp [intC]; done) | (repeat (first | rfl | constructor)))), rfl⟩
      rintro s rfl
      (repeat (first | refine TS.imp ?_ | refine n9 (by decide) ?_))
      refine Tr.cond rfl (fun h3 => ?_) (fun h3 => ?_)
      · rw [if_pos (by simpa using h3)]
        have hmb := mostV_b xs (by omega)
        (repeat (first | refine TS.imp ?_ | refine n9 (by decide) ?_))
        refine TR.imp ?_; intro K hK; simp only [go_sem, hP, hn]
        (repeat refine vc ?_)
        refine c1 (by rw [hP, hT]; exact rmost_c Tm xs (by omega) (by omega)) rfl rfl rfl trivial (by simp only [go_sem, hP, hn]; try trivial) (by simp only [go_sem, hP, hn]; try rfl) (by rw [hn]; decide) (by rfl) ?_; simp only [go_sem, hP, hn]; (repeat refine vc ?_)
        (repeat refine vc ?_)
        refine hK _ ?_; clear K hK
        (repeat (first | refine TS.imp ?_ | refine n9 (by decide) ?_))
        exact ⟨_, (Le.mv (by simp only [go_sem, hP, hn]; first | done | (simp; done) | (simp [intC]; done) | (repeat (first | rfl | constructor))) (by simp only [go_sem, hP, hn]; first | done | (simp; done) | (simp [intC]; done) | (repeat (first | rfl | constructor)))), rfl⟩
      rw [if_neg (by simpa using h3)]
      clear h3
      refine Tr.seq ?_
      refine Tr.meet (fun s => s = ⟨[(1, .d (frD fs)), (2, .ptr 2 0), (6, .own 3001), (8, .d (.i .i64 k)), (10, .d (.i .i64 (rd xs 0))), (62, .d (.i .i64 n.k)), (71, .d (.b (n.k == 4 || n.k == 12))), (9, .d (.row [.i .i64 0] (xs.map intC)))], [(2, .box 50 n.cs), (3001, .row 3 [.i .i64 0] (L.map intC))]⟩) ?_ ?_
      rotate_left
      · (repeat (first | refine TS.imp ?_ | refine n9 (by decide) ?_))
        refine TR.imp ?_; intro K hK; simp only [go_sem, hP, hn]; (repeat refine vc ?_); refine hK _ ?_; clear K hK
        (repeat (first | refine TS.imp ?_ | refine n9 (by decide) ?_))
        refine Tr.cond rfl (fun h1 => ?_) (fun h1 => ?_)
        · rw [h1, Bool.true_or]
          (repeat (first | refine TS.imp ?_ | refine n9 (by decide) ?_))
          exact ⟨_, (Le.mv (by simp only [go_sem, hP, hn]; first | done | (simp; done) | (simp [intC]; done) | (repeat (first | rfl | constructor))) (by simp only [go_sem, hP, hn]; first | done | (simp; done) | (simp [intC]; done) | (repeat (first | rfl | constructor)))), rfl⟩
        (repeat (first | refine TS.imp ?_ | refine n9 (by decide) ?_))
        refine TR.imp ?_; intro K hK; simp only [go_sem, hP, hn]; (repeat refine vc ?_); refine hK _ ?_; clear K hK
        (repeat (first | refine TS.imp ?_ | refine n9 (by decide) ?_))
        rw [h1, Bool.false_or]
        exact ⟨_, (Le.mv (by simp only [go_sem, hP, hn]; first | done | (simp; done) | (simp [intC]; done) | (repeat (first | rfl | constructor))) (by simp only [go_sem, hP, hn]; first | done | (simp; done) | (simp [intC]; done) | (repeat (first | rfl | constructor)))), rfl⟩
      rintro s rfl
      (repeat (first | refine TS.imp ?_ | refine n9 (by decide) ?_))
      refine Tr.cond rfl (fun h4 => ?_) (fun h4 => ?_)
      · rw [if_pos (by simpa using h4)]
        (repeat (first | refine TS.imp ?_ | refine n9 (by decide) ?_))
        refine TR.imp ?_; intro K hK; simp only [go_sem, hP, hn]; (repeat refine vc ?_); refine c1 (by rw [hP, hT]; exact rMean_c Tm xs (by omega) (by omega) hc32) rfl rfl rfl trivial (by simp only [go_sem, hP, hn]; try trivial) (by simp only [go_sem, hP, hn]; try rfl) (by rw [hn]; decide) (by rfl) ?_; simp only [go_sem, hP, hn]; (repeat refine vc ?_); refine hK _ ?_; clear K hK
        (repeat (first | refine TS.imp ?_ | refine n9 (by decide) ?_))
        exact ⟨_, (Le.mv (by simp only [go_sem, hP, hn]; first | done | (simp; done) | (simp [intC]; done) | (repeat (first | rfl | constructor))) (by simp only [go_sem, hP, hn]; first | done | (simp; done) | (simp [intC]; done) | (repeat (first | rfl | constructor)))), rfl⟩
      rw [if_neg (by simpa using h4)]
      clear h4
      (repeat (first | refine TS.imp ?_ | refine n9 (by decide) ?_))
      refine TR.imp ?_; intro K hK; simp only [go_sem, hP, hn]; (repeat refine vc ?_); refine hK _ ?_; clear K hK
      (repeat (first | refine TS.imp ?_ | refine n9 (by decide) ?_))
      refine Tr.cond rfl (fun h7 => ?_) (fun h7 => ?_)
      · rw [if_pos (by simpa using h7)]
        (repeat (first | refine TS.imp ?_ | refine n9 (by decide) ?_))
        refine TR.imp ?_; intro K hK; simp only [go_sem, hP, hn]; (repeat refine vc ?_); refine c1 (by rw [hP, hT]; exact rAdd_c Tm xs (by omega) hc32) rfl rfl rfl trivial (by simp only [go_sem, hP, hn]; try trivial) (by simp only [go_sem, hP, hn]; try rfl) (by rw [hn]; decide) (by rfl) ?_; simp only [go_sem, hP, hn]; (repeat refine vc ?_); refine hK _ ?_; clear K hK
        (repeat (first | refine TS.imp ?_ | refine n9 (by decide) ?_))
        exact ⟨_, (Le.mv (by simp only [go_sem, hP, hn]; first | done | (simp; done) | (simp [intC]; done) | (repeat (first | rfl | constructor))) (by simp only [go_sem, hP, hn]; first | done | (simp; done) | (simp [intC]; done) | (repeat (first | rfl | constructor)))), rfl⟩
      rw [if_neg (by simpa using h7)]
      clear h7
      (repeat (first | refine TS.imp ?_ | refine n9 (by decide) ?_))
      refine TR.imp ?_; intro K hK; simp only [go_sem, hP, hn]; (repeat refine vc ?_); refine hK _ ?_; clear K hK
      (repeat (first | refine TS.imp ?_ | refine n9 (by decide) ?_))
      refine Tr.cond rfl (fun h9 => ?_) (fun h9 => ?_)
      · rw [if_pos (by simpa using h9)]
        (repeat (first | refine TS.imp ?_ | refine n9 (by decide) ?_))
        refine TR.imp ?_; intro K hK; simp only [go_sem, hP, hn]; (repeat refine vc ?_); refine c1 (by rw [hP, hT]; exact rClamp_c Tm (rd xs 0) n.low n.high) rfl rfl rfl trivial (by simp only [go_sem, hP, hn]; try trivial) (by simp only [go_sem, hP, hn]; try rfl) (by rw [hn]; decide) (by rfl) ?_; simp only [go_sem, hP, hn]; (repeat refine vc ?_); refine hK _ ?_; clear K hK
        (repeat (first | refine TS.imp ?_ | refine n9 (by decide) ?_))
        exact ⟨_, (Le.mv (by simp only [go_sem, hP, hn]; first | done | (simp; done) | (simp [intC]; done) | (repeat (first | rfl | constructor))) (by simp only [go_sem, hP, hn]; first | done | (simp; done) | (simp [intC]; done) | (repeat (first | rfl | constructor)))), rfl⟩
      rw [if_neg (by simpa using h9)]
      clear h9
      (repeat (first | refine TS.imp ?_ | refine n9 (by decide) ?_))
      refine TR.imp ?_; intro K hK; simp only [go_sem, hP, hn]; (repeat refine vc ?_); refine hK _ ?_; clear K hK
      (repeat (first | refine TS.imp ?_ | refine n9 (by decide) ?_))
      refine Tr.cond rfl (fun hx => ?_) (fun hx => ?_)
      · rw [if_pos (by simpa using hx)]
        (repeat (first | refine TS.imp ?_ | refine n9 (by decide) ?_))
        refine TR.imp ?_; intro K hK; simp only [go_sem, hP, hn]; (repeat refine vc ?_); refine c1 (by rw [hP, hT]; exact rScale_c Tm (rd xs 0) n.mult n.shift (hc32 _ (rd_mem (by decide) (by omega)))) rfl rfl rfl trivial (by simp only [go_sem, hP, hn]; try trivial) (by simp only [go_sem, hP, hn]; try rfl) (by rw [hn]; decide) (by rfl) ?_; simp only [go_sem, hP, hn]; (repeat refine vc ?_); refine hK _ ?_; clear K hK
        (repeat (first | refine TS.imp ?_ | refine n9 (by decide) ?_))
        exact ⟨_, (Le.mv (by simp only [go_sem, hP, hn]; first | done | (simp; done) | (simp [intC]; done) | (repeat (first | rfl | constructor))) (by simp only [go_sem, hP, hn]; first | done | (simp; done) | (simp [intC]; done) | (repeat (first | rfl | constructor)))), rfl⟩
      rw [if_neg (by simpa using hx)]
      (repeat (first | refine TS.imp ?_ | refine n9 (by decide) ?_))
      exact ⟨_, (Le.mv (by simp only [go_sem, hP, hn]; first | done | (simp; done) | (simp [intC]; done) | (repeat (first | rfl | constructor))) (by simp only [go_sem, hP, hn]; first | done | (simp; done) | (simp [intC]; done) | (repeat (first | rfl | constructor)))), rfl⟩
    rintro s rfl
    (repeat (first | refine TS.imp ?_ | refine n9 (by decide) ?_))
    refine TR.imp ?_; intro K hK; simp only [go_sem, hP, hn]; (repeat refine vc ?_); refine hK _ ?_; clear K hK
    (repeat (first | refine TS.imp ?_ | refine n9 (by decide) ?_))
    refine TR.imp ?_; intro K hK; simp only [go_sem, hP, hn]; (repeat refine vc ?_); refine hK _ ?_; clear K hK
    (repeat (first | refine TS.imp ?_ | refine n9 (by decide) ?_))
    rw [w64 (x := k + 1) (by omega) (by omega)]
    refine ⟨q - 1, _, by omega, ?_, k + 1, L ++ [gV n xs], rfl, by omega, by omega, hE.symm⟩
    refine Le.trans (b := ⟨[(1, .d (frD fs)), (2, .ptr 2 0), (6, .own 99), (8, .d (.i .i64 (k + 1)))], [(2, .box 50 n.cs), (99, .row 3 [.i .i64 0] ((L ++ [gV n xs]).map intC))]⟩) (Le.mv (by simp only [go_sem, hP, hn]; first | done | (simp; done) | (simp [intC]; done) | (repeat (first | rfl | constructor))) (by simp only [go_sem, hP, hn]; first | done | (simp; done) | (simp [intC]; done) | (repeat (first | rfl | constructor)))) ?_
    refine Le.trans (Le.ren 99 3001 (by rw [hpn] <;> rfl) rfl rfl) ?_; simp only [renT, renH, renO, renS, renL, rn, go_sem, hP, hn]
    exact (Le.mv (by simp only [go_sem, hP, hn]; first | done | (simp; done) | (simp [intC]; done) | (repeat (first | rfl | constructor))) (by simp only [go_sem, hP, hn]; first | done | (simp; done) | (simp [intC]; done) | (repeat (first | rfl | constructor))))
  · have hk : k = w := by have := of_decide_eq_false hb; omega
    subst hk
    rw [Int.toNat_natCast] at hL
    subst hL
    refine Tr.le (Le.freeze 3001) ?_
    simp only [go_sem, hP, hn]
    (repeat (first | (refine TR.imp ?_; intro K hK; simp only [go_sem, hP, hn]; (repeat refine vc ?_); refine hK _ ?_; clear K hK) | refine TS.imp ?_ | refine n9 (by decide) ?_))
    simp only [RetG, go_sem]; (repeat with_reducible refine vc ?_)
end
set_option maxRecDepth 100000
/-! all frames of a made graph's nodes -/
def strL (ns : List Nd) (W : List Int) (fs : List (List Int)) : List (List (List Int)) := ordL [] (fun u _ i => frF ns W u i) (order ns) (fs :: List.replicate ns.length [])
theorem strL_len (ns : List Nd) (W : List Int) (fs : List (List Int)) : (strL ns W fs).length = ns.length + 1 := by
  unfold strL; rw [ordL_len]; simp
theorem SG.mono {w : Int} {a b : Nat} {s : List (List Int)} (h : SG w a s) (hab : a ≤ b) : SG w b s := ⟨h.wid, h.num, Nat.le_trans h.len hab⟩
theorem may_rng {wd lo hi out : Int} {ns : List Nd} (h : mayG wd lo hi out ns = 0) : (1 ≤ wd ∧ wd ≤ 16) ∧ lo ≤ hi ∧ -32768 ≤ lo ∧ hi ≤ 32767 ∧ 1 ≤ out ∧ out ≤ ns.length := by
  unfold mayG at h
  split at h
  · cases h
  · split at h
    · cases h
    · rename_i hq
      unfold mayQ at hq
      simp at hq
      omega
section
variable {wd lo hi out : Int} {ns : List Nd} {W R : Int → Int} {rk : Int → Nat} {W2 R2 : List Int} (h : GF wd lo hi out ns W R rk W2 R2)
include h
theorem GF.may : mayG wd lo hi out ns = 0 := by
  have h2 := h.look
  unfold lookG at h2
  by_cases hz : mayG wd lo hi out ns = 0
  · exact hz
  · rw [if_pos (by simpa using hz)] at h2
    exact absurd (congrArg Prod.fst h2) hz
theorem GF.sg0 {many : Int} {fs : List (List Int)} (hfs : Fin18 wd lo hi many fs) (hm : 0 ≤ many ∧ many ≤ 1000) : SG (W 0) (1000 + 10 * rk 0) fs := by
  have hr := may_rng h.may
  have := hfs.len
  refine ⟨fun f hf => ?_, fun f hf x hx => ?_, by omega⟩
  · rw [h.gg.W0]; exact hfs.wid f hf
  · have := hfs.num f hf x hx
    exact ⟨by omega, by omega⟩
theorem GF.w2 {i : Int} (i1 : 1 ≤ i) (i2 : i ≤ ns.length) : rd W2 (rd (nd ns (i - 1)).inn 0) = W (rd (nd ns (i - 1)).inn 0) := by
  have hn := (h.gg.node i i1 i2).1
  have := hn.inn _ (rd_mem (l := (nd ns (i - 1)).inn) (j := 0) (by omega) (by have := hn.l1; omega))
  exact (h.eq _ this.1 this.2.1).1
theorem GF.sgs {u : Int → List (List Int)} {i : Int} (i1 : 1 ≤ i) (i2 : i ≤ ns.length) (hu : ∀ j ∈ (nd ns (i - 1)).inn, SG (W j) (1000 + 10 * rk j) (u j)) : ∃ b : Nat, b ≤ 1200 ∧ b + 10 = 1000 + 10 * rk i ∧ ∀ j ∈ (nd ns (i - 1)).inn, SG (W j) b (u j) := by
  have hn := (h.gg.node i i1 i2).1
  have h0 := hn.inn _ (rd_mem (l := (nd ns (i - 1)).inn) (j := 0) (by omega) (by have := hn.l1; omega))
  have hk := h.rank i (by omega) i2
  exact ⟨1000 + 10 * (rk i - 1), by omega, by omega, fun j hj => (hu j hj).mono (by have := (hn.inn j hj).2.2; omega)⟩
theorem GF.sg_step {u : Int → List (List Int)} {i : Int} (i1 : 1 ≤ i) (i2 : i ≤ ns.length) (hu : ∀ j ∈ (nd ns (i - 1)).inn, SG (W j) (1000 + 10 * rk j) (u j)) : SG (W i) (1000 + 10 * rk i) (frF ns W2 u i) := by
  obtain ⟨b, hb, e, hs⟩ := h.sgs i1 i2 hu
  have hn := (h.gg.node i i1 i2).1
  unfold frF
  rw [h.w2 i1 i2, ← e]
  exact hn.sg (by omega) hs
/-- along the order -/
theorem GF.strL_fx (fs : List (List Int)) : ga [] (strL ns W2 fs) 0 = fs ∧ ∀ i : Int, 1 ≤ i → i ≤ ns.length → ga [] (strL ns W2 fs) i = frF ns W2 (ga [] (strL ns W2 fs)) i := by
  obtain ⟨a, b⟩ := h.gg.ordL (d := ([] : List (List Int))) (f := fun u _ i => frF ns W2 u i) (fun u v _ i hj => frF_loc u v i hj) (fs :: List.replicate ns.length []) (by simp)
  exact ⟨a, fun i i1 i2 => b i i1 i2⟩
theorem GF.strL_sg {many : Int} {fs : List (List Int)} (hfs : Fin18 wd lo hi many fs) (hm : 0 ≤ many ∧ many ≤ 1000) : ∀ (r : Nat) (i : Int), 0 ≤ i → i ≤ ns.length → rk i ≤ r → SG (W i) (1000 + 10 * rk i) (ga [] (strL ns W2 fs) i)
  | r, i, i0, i1, hk => by
    obtain ⟨a, b⟩ := h.strL_fx fs
    rcases Int.lt_or_le 0 i with i2 | i2
    · have hn := (h.gg.node i i2 i1).1
      match r, hk with
      | 0, hk =>
        have := hn.inn _ (rd_mem (l := (nd ns (i - 1)).inn) (j := 0) (by omega) (by have := hn.l1; omega))
        omega
      | r + 1, hk =>
        rw [b i i2 i1]
        exact h.sg_step i2 i1 fun j hj => by
          have := hn.inn j hj
          exact GF.strL_sg hfs hm r j this.1 this.2.1 (by omega)
    · obtain rfl : i = 0 := by omega
      rw [a]
      exact h.sg0 hfs hm
theorem GF.strL_FX {many : Int} {fs : List (List Int)} (hfs : Fin18 wd lo hi many fs) (hm : 0 ≤ many ∧ many ≤ 1000) : FX ns W2 (ga [] (strL ns W2 fs)) :=
  ⟨(h.strL_fx fs).2, fun i i0 i1 => by
    have := (h.strL_sg hfs hm 12 i i0 i1 (h.rank i i0 i1)).len
    have := h.rank i i0 i1
    omega⟩
end
theorem Node_g {T : World → Prop} (Tm : TP T) {wd lo hi out : Int} {ns : List Nd} {W R : Int → Int} {rk : Int → Nat} {W2 R2 : List Int} (h : GF wd lo hi out ns W R rk W2 R2) {i : Int} (i1 : 1 ≤ i) (i2 : i ≤ ns.length) {u : Int → List (List Int)} (hu : ∀ j ∈ (nd ns (i - 1)).inn, SG (W j) (1000 + 10 * rk j) (u j)) :
    Cg Go.Proofs.Tryd.prog T 45 [] [.agg (nd ns (i - 1)).cs, .d (insD ((nd ns (i - 1)).inn.map u)), .d (.i .i64 (rd W2 (rd (nd ns (i - 1)).inn 0)))] (fun r H => H = [] ∧ r = .d (frD (frF ns W2 u i))) := by
  obtain ⟨b, hb, e, hs⟩ := h.sgs i1 i2 hu
  have hn := (h.gg.node i i1 i2).1
  have hw2 := h.w2 i1 i2
  unfold frF
  rw [hw2]
  clear hw2
  generalize nd ns (i - 1) = n at *
  have hw := hn.w0
  obtain ⟨_, _, _, he, hsz, _⟩ := rchk_unpack hn.chk
  obtain ⟨l1, l2⟩ := hn.lens (u := u) (b := b) fun j hj => (hs j hj).len
  have hc := hn.cnt (by omega) l1 l2
  have key := fun (k : Int) (k0 : 0 ≤ k) (k1 : k < n.rCount ((n.inn.map u).map fun s => (s.length : Int))) => hn.ni (by omega) hs k0 k1
  have hl1 := hn.l1
  have hl2 := hn.l2
  generalize hwn : (W (rd n.inn 0)).toNat = w at *
  rw [show W (rd n.inn 0) = (w : Int) by omega]
  have hk : rWin n.k = false → n.k ≠ 5 → n.rCount ((n.inn.map u).map fun s => (s.length : Int)) = fewestV ((n.inn.map u).map fun s => (s.length : Int)) := fun hwin h5 => by
    unfold Nd.rCount
    rw [hwin, Bool.false_and, if_neg (by decide), show (n.k == 5) = false by simpa using h5, Bool.false_and, if_neg (by decide)]
  unfold nodeF
  generalize hC : n.rCount ((n.inn.map u).map fun s => (s.length : Int)) = C at *
  have hC2 : n.rCount ((n.inn.map u).map fun s => (s.length : Int)) = (C.toNat : Nat) := by rw [hC]; omega
  have a1 : 1 ≤ (n.inn.map u).length ∧ (n.inn.map u).length ≤ 4096 := by rw [List.length_map]; omega
  have a2 : w ≤ 65536 := by omega
  have a3 : C.toNat ≤ 65536 := by omega
  refine Node_c Tm n (n.inn.map u) w C.toNat (fun k => frameV n (inpF n (n.inn.map u) w k) w) a1 (fun s hs' => ?_) a2 hC2 a3 (fun _ => hn.st0) ?_ (fun hwin h5 s hs' => ?_) fun k k0 k1 => ?_
  · obtain ⟨j, hj, rfl⟩ := List.mem_map.1 hs'
    have := (hs j hj).len
    omega
  · by_cases hwin : rWin n.k = true
    · have := win_size hsz hwin; omega
    · have hwin : rWin n.k = false := by simpa using hwin
      have e8 : n.e8 = false := by
        unfold Nd.else0 at he
        cases e : n.e8 with
        | false => rfl
        | true => rw [e] at he; simp at he
      unfold Nd.e8 at e8
      rw [rWin_four] at hwin
      simp only [Bool.or_eq_false_iff] at hwin
      rw [hwin.1, show (n.k != 12) = true by have := hwin.2; simp at this; simpa using this] at e8
      simp at e8
      omega
  · have hk := hk hwin h5
    have hCt : (C.toNat : Int) = C := by omega
    refine Int.ofNat_le.1 ?_
    rw [hCt, hk]
    clear hk hC hC2 key hCt
    obtain ⟨j, hj, rfl⟩ := List.mem_map.1 hs'
    rcases inn12 hn with ⟨a, ha⟩ | ⟨a, c, ha⟩
    · rw [ha] at hj ⊢
      obtain rfl := List.mem_singleton.1 hj
      simp only [List.map_cons, List.map_nil]
      rw [fewest1 (by omega)]; omega
    · rw [ha] at hj ⊢
      simp only [List.map_cons, List.map_nil]
      rw [fewest2 (by omega) (by omega)]
      unfold mn
      split <;> rcases List.mem_cons.1 hj with rfl | hj <;> (try obtain rfl := List.mem_singleton.1 hj) <;> omega
  · have hk := key k k0 (by omega)
    have hf := hk.fok hn
    rw [hwn] at hf
    exact rFrame_w Tm n _ w hf (by rw [may_right]; exact hk.right hn)
theorem Streams_g {T : World → Prop} (Tm : TP T) {wd lo hi out : Int} {ns : List Nd} {W R : Int → Int} {rk : Int → Nat} {W2 R2 : List Int} (h : GF wd lo hi out ns W R rk W2 R2) {many : Int} {fs : List (List Int)} (hfs : Fin18 wd lo hi many fs) (hm : 0 ≤ many ∧ many ≤ 1000) :
    Cg Go.Proofs.Tryd.prog T 17 [] [.agg (gcs wd lo hi out (.d (rowN ns))), .d (frD fs)] (fun r H => H = [] ∧ r = .agg [.d (insD (strL ns W2 fs)), .d (.i .i64 0)]) := by
  have hr := may_rng h.may
  have hn0 := h.n0
  exact Streams_c Tm wd lo hi out many ns (order ns) W2 R2 fs (frF ns W2) (fun i s => SG (W i) (1000 + 10 * rk i) s) hr.1 (by omega) h.inn h.look h.wl h.ro hfs hm
    (fun o1 i r e => (mayO_iff.1 (order_top ns o1 i r e).1).2) (h.sg0 hfs hm) fun i hi u hu => by
      have := h.ord i hi
      exact ⟨h.sg_step this.1 this.2 hu, Node_g Tm h this.1 this.2 hu⟩
section
attribute [local go_sem] PMade rtup frD insD
/-- frames of two rows, mixed -/
def mixF (A B : List (List Int)) (a b : Int) (t : Nat) : List (List Int) := (List.range t).map fun (j : Nat) => if a ≤ (j : Int) ∧ (j : Int) ≤ b then fr A (j : Int) else fr B (j : Int)
theorem mixF_len (A B : List (List Int)) (a b : Int) (t : Nat) : (mixF A B a b t).length = t := by unfold mixF; simp
theorem mixF_succ (A B : List (List Int)) (a b : Int) (t : Nat) : mixF A B a b (t + 1) = mixF A B a b t ++ [if a ≤ (t : Int) ∧ (t : Int) ≤ b then fr A (t : Int) else fr B (t : Int)] := by
  unfold mixF
  rw [List.range_succ, List.map_append]; rfl
theorem mixF_fr {A B : List (List Int)} {a b : Int} {n : Nat} {t : Int} (t0 : 0 ≤ t) (t1 : t < n) (h1 : a ≤ t) (h2 : t ≤ b) : fr (mixF A B a b n) t = fr A t := by
  unfold mixF
  rw [fr_range t0 t1, Int.toNat_of_nonneg t0, if_pos ⟨h1, h2⟩]
theorem mixF_fin {wd lo hi many : Int} {A B : List (List Int)} (hA : Fin18 wd lo hi many A) (hB : Fin18 wd lo hi many B) (a b : Int) : Fin18 wd lo hi many (mixF A B a b many.toNat) := by
  have h1 := hA.len
  have h2 := hB.len
  have key : ∀ f ∈ mixF A B a b many.toNat, f ∈ A ∨ f ∈ B := fun f hf => by
    unfold mixF at hf
    obtain ⟨j, hj, rfl⟩ := List.mem_map.1 hf
    have hj := List.mem_range.1 hj
    split
    · exact .inl (fr_mem (by omega) (by omega))
    · exact .inr (fr_mem (by omega) (by omega))
  refine ⟨by rw [mixF_len]; omega, fun f hf => ?_, fun f hf => ?_⟩
  · rcases key f hf with h | h
    · exact hA.wid f h
    · exact hB.wid f h
  · rcases key f hf with h | h
    · exact hA.num f h
    · exact hB.num f h
/-- where frames of a node's reach are the same, its frame is -/
theorem GF.mixed {wd lo hi out : Int} {ns : List Nd} {W R : Int → Int} {rk : Int → Nat} {W2 R2 : List Int} (h : GF wd lo hi out ns W R rk W2 R2) {many : Int} (hm : 0 ≤ many ∧ many ≤ 1000) {A B : List (List Int)} (hA : Fin18 wd lo hi many A) (hB : Fin18 wd lo hi many B) {i k : Int} (i1 : 1 ≤ i) (i2 : i ≤ ns.length) (hR : rd R2 i ≠ 0) (k0 : 0 ≤ k) :
    (inF (strL ns W2 (mixF A B (k * rd R2 i + rd (loL ns R2) i) (k * rd R2 i + rd (hiL ns R2) i) many.toNat)) i).length = (inF (strL ns W2 A) i).length ∧ fr (inF (strL ns W2 (mixF A B (k * rd R2 i + rd (loL ns R2) i) (k * rd R2 i + rd (hiL ns R2) i) many.toNat)) i) k = fr (inF (strL ns W2 A) i) k ∧ -(120000000) ≤ rd (loL ns R2) i ∧ rd (loL ns R2) i ≤ 0 := by
  have hM := mixF_fin hA hB (k * rd R2 i + rd (loL ns R2) i) (k * rd R2 i + rd (hiL ns R2) i)
  have hRi := (h.eq i (by omega) i2).2
  have hr := (h.wants (N := 0) (by omega) i (by omega) i2).1
  have a0 := (h.strL_fx A).1
  have m0 := (h.strL_fx (mixF A B (k * rd R2 i + rd (loL ns R2) i) (k * rd R2 i + rd (hiL ns R2) i) many.toNat)).1
  have hl := hA.len
  obtain ⟨e1, e2⟩ := h.reach (h.strL_FX hM hm) (h.strL_FX hA hm) (by rw [a0, m0, mixF_len]; omega) 12 (by omega) i (by omega) i2 (h.rank i (by omega) i2)
  obtain ⟨e3, e4⟩ := e2 (by omega)
  refine ⟨e1, e4 k k0 fun t t0 t1 h1 h2 => ?_, by omega, by omega⟩
  rw [m0, mixF_len] at t1
  rw [m0, a0]
  rw [← hRi] at h1 h2
  exact mixF_fr t0 t1 h1 h2
end
end Go.Proofs.YtgomeljgbjgbkaaDoor.Aw
