/- The abstract walk, and contracts of Go functions: each call returns what the Lean function named tells. Conditions: those that each theorem names, none else. -/
import Derived.Test.YtgijboakaodcgaaDoorZBoundTells5
import Derived.Laws.StructEq
import Derived.Tactics
import Derived.Tactics2
set_option linter.unusedVariables false
set_option linter.unusedSimpArgs false
set_option linter.unusedSectionVars false
set_option maxRecDepth 100000
set_option maxHeartbeats 4000000
namespace Go.Proofs.YtgijboakaodcgaaDoor.Aw
open Go.RowKit
/-! the plain law: graph.look and ref16.Look tell the same, of every graph -/
theorem rd_set_or (l : List Int) (k : Nat) (v x : Int) : rd (l.set k v) x = v ∨ rd (l.set k v) x = rd l x := by
  unfold rd
  rw [List.getD_eq_getElem?_getD, List.getD_eq_getElem?_getD, List.getElem?_set]
  by_cases h : k = x.toNat
  · rw [if_pos h]
    by_cases h2 : k < l.length
    · rw [if_pos h2]; exact .inl rfl
    · rw [if_neg h2]; right
      rw [List.getElem?_eq_none (by omega)]
  · rw [if_neg h]; exact .inr rfl
theorem gwin_win {n : Nd} (hk : inB n.k 1 12 = true) : n.gwin = rWin n.k := by
  cases h : rWin n.k with
  | false => exact gwin_eq hk h
  | true =>
    unfold rWin at h
    simp only [Bool.or_eq_true, beq_iff_eq] at h
    unfold Nd.gwin
    simp only [Bool.or_eq_true, decide_eq_true_eq, beq_iff_eq]
    omega
theorem step_range {n : Nd} {v : Int} (hs : n.sized v = true) : 1 ≤ n.rStp ∧ n.rStp ≤ 4 := by
  unfold Nd.rStp
  cases hf : rFour n.k with
  | false => rw [if_neg (by decide)]; decide
  | true =>
    rw [if_pos rfl]
    unfold Nd.sized at hs
    have h8 : n.s8 = false := by
      cases h : n.s8 with
      | false => rfl
      | true =>
        exfalso
        rw [h] at hs
        cases n.s4 <;> simp at hs
    unfold Nd.s8 at h8
    rw [hf, Bool.true_and] at h8
    simp only [Bool.or_eq_false_iff, Bool.not_eq_false'] at h8
    exact inB_iff.1 h8.1
theorem grate_rate {n : Nd} {l : List Int} {v B : Int} (hk : inB n.k 1 12 = true) (hs : n.sized v = true) (h0 : 0 ≤ rd l 0) (h1 : rd l 0 ≤ B) (hB : B * 4 ≤ 1000000000) : (n.grate l).2 = !decide (n.rate l < 0) ∧ (0 ≤ n.rate l → (n.grate l).1 = n.rate l ∧ n.rate l ≤ B * 4) := by
  have hst := step_range hs
  have ha : l.any (· != rd l 0) = !l.all (· == rd l 0) := by
    rw [List.not_all_eq_any_not]; rfl
  have hm := mul_le (rd l 0) B n.rStp 4 h0 h1 (by omega) hst.2
  unfold Nd.grate Nd.rate
  rw [ha, gwin_win hk, stp_eqW]
  cases l.all (· == rd l 0) with
  | false => exact ⟨rfl, fun h => absurd (show (0 : Int) ≤ -1 from h) (by decide)⟩
  | true =>
    simp only [Bool.not_true, Bool.false_or, Bool.true_eq_false, if_false]
    cases hz : (rd l 0 == 0 && (rWin n.k || n.k == 5)) with
    | true => exact ⟨rfl, fun h => absurd (show (0 : Int) ≤ -1 from h) (by decide)⟩
    | false =>
      simp only [Bool.false_eq_true, if_false]
      cases h5 : (n.k == 5) with
      | true => exact ⟨rfl, fun _ => ⟨rfl, by show (0 : Int) ≤ B * 4; omega⟩⟩
      | false =>
        simp only [Bool.false_eq_true, if_false]
        rw [w64 (by omega) (by omega)]
        refine ⟨?_, fun _ => ⟨by first | rfl | trivial, hm.2⟩⟩
        simp; omega
theorem lookL_eq (ns : List Nd) : ∀ (r W R : List Int) (B : Int), (∀ x, 0 ≤ rd R x ∧ rd R x ≤ B) → 0 ≤ B → B * 4 ^ r.length ≤ 1000000000 → lookL ns r W R = lookM ns r W R
  | [], _, _, _, _, _, _ => rfl
  | i :: r, W, R, B, hR, hB0, hB => by
    rw [lookL_cons, lookM_cons, chk_eq]
    generalize nd ns (i - 1) = n
    cases hc : (n.rchk (n.inn.map (rd W)) != 0) with
    | true => simp only [if_true]
    | false =>
      simp only [Bool.false_eq_true, if_false]
      have hc0 : n.rchk (n.inn.map (rd W)) = 0 := bne_eq_false_iff_eq.mp hc
      obtain ⟨_, h7, _, _, hs, _⟩ := rchk_unpack hc0
      have hk : inB n.k 1 12 = true := by
        unfold Nd.r7 at h7
        simp only [Bool.or_eq_false_iff, Bool.not_eq_false'] at h7
        exact h7.1.1
      have hB4 : B * 4 ≤ 1000000000 := by
        rw [List.length_cons, Int.pow_succ] at hB
        have h1 : (1 : Int) ≤ 4 ^ r.length := by have : (0 : Int) < 4 ^ r.length := Int.pow_pos (by decide); omega
        have h2 : B * 4 * 1 ≤ B * 4 * 4 ^ r.length := Int.mul_le_mul_of_nonneg_left h1 (by omega)
        have h3 : B * (4 ^ r.length * 4) = B * 4 * 4 ^ r.length := by rw [Int.mul_comm (4 ^ r.length) 4, Int.mul_assoc]
        omega
      have h0 : 0 ≤ rd (n.inn.map (rd R)) 0 ∧ rd (n.inn.map (rd R)) 0 ≤ B := by
        cases n.inn with
        | nil => exact ⟨show (0 : Int) ≤ 0 by decide, show (0 : Int) ≤ B from hB0⟩
        | cons x t => exact hR x
      have hg := grate_rate hk hs h0.1 h0.2 hB4
      rw [hg.1, Bool.not_not]
      cases hd : decide (n.rate (n.inn.map (rd R)) < 0) with
      | true => simp only [if_true]
      | false =>
        simp only [Bool.false_eq_true, if_false]
        have h1 := hg.2 (by have := of_decide_eq_false hd; omega)
        have hw : n.wide (n.inn.map (rd W)) = n.rwide (n.inn.map (rd W)) := by
          have := both_eq n (n.inn.map (rd W))
          unfold Nd.both at this
          simp only [Bool.and_eq_true, beq_iff_eq] at this
          exact this.2
        rw [h1.1, hw]
        refine lookL_eq ns r _ _ (B * 4) (fun x => ?_) (by omega) (by rw [List.length_cons, Int.pow_succ, Int.mul_comm _ 4, ← Int.mul_assoc] at hB; exact hB)
        have h2 := hR x
        have h3 := of_decide_eq_false hd
        rcases rd_set_or R i.toNat (n.rate (n.inn.map (rd R))) x with e | e <;> rw [e] <;> omega
theorem look_same (wd lo hi out : Int) (ns : List Nd) : lookG wd lo hi out ns = lookR wd lo hi out ns := by
  unfold lookG lookR
  cases hm : (mayG wd lo hi out ns != 0) with
  | true => simp only [if_true]
  | false =>
    simp only [Bool.false_eq_true, if_false]
    have hN := mayG_ok (bne_eq_false_iff_eq.mp hm)
    have hle : (order ns).length ≤ ns.length := by
      show (ordR ns ns.length []).length ≤ _
      simpa using (ordR_length (ns := ns) ns.length []).2
    have e : (!((order ns).length == ns.length)) = decide (((order ns).length : Int) < ns.length) := by
      rw [Bool.eq_iff_iff]; simp; omega
    rw [e]
    cases decide (((order ns).length : Int) < ns.length) with
    | true => simp only [if_true]
    | false =>
      simp only [Bool.false_eq_true, if_false]
      have hb : ∀ x, 0 ≤ rd (1 :: List.replicate ns.length 0) x ∧ rd (1 :: List.replicate ns.length 0) x ≤ 1 := fun x => by
        unfold rd
        rw [List.getD_eq_getElem?_getD]
        cases h : x.toNat with
        | zero => simp
        | succ k =>
          rw [List.getElem?_cons_succ, List.getElem?_replicate]
          split <;> simp
      rw [lookL_eq ns (order ns) (wd :: List.replicate ns.length 0) (1 :: List.replicate ns.length 0) 1 hb (by decide) ?_]
      · have h1 : (4 : Int) ^ (order ns).length ≤ 4 ^ 12 := by
          have := Nat.pow_le_pow_right (show 0 < 4 by decide) (show (order ns).length ≤ 12 by omega)
          have h2 : ((4 ^ (order ns).length : Nat) : Int) ≤ ((4 ^ 12 : Nat) : Int) := by omega
          simpa using h2
        have h3 : (4 : Int) ^ 12 = 16777216 := by decide
        omega
/-- a call under a guard that is true, told by a relation -/
theorem CallN_tx {E : Env} {ops : List Oper} {o : Oper} {s : St} {rest : List Oper} {K : St → Prop} {fx : Operand} {args : Array Operand} {ts : Array TypeId} {f : Nat} {caps xs : List S} {d : Nat} {post : S → Prop}
    (C : Cg E.P E.T f [] xs (fun r H => H = [] ∧ post r)) (ho : o.op = .call { callee := .value fx, args := args, argTypes := ts }) (hd : o.dst = some d) (hf : stp (ev s fx) = .fn f caps) (c1 : stc (ev s fx)) (c2 : stcL s args.toList)
    (hxs : stpL s args.toList ++ caps = xs) (hdn : d < E.n) (hr : ∀ r, post r → SQ E ops rest ⟨(d, r) :: s.t, s.h⟩ K) : CallN E ops o (some true) s rest K := by
  intro hw _ Q a w η h hK
  have hw := hw true rfl a w η h
  unfold wpList
  rw [if_pos hw]
  refine .inl ?_
  obtain ⟨vs, h1, h2⟩ := call_run h ho hf c1 c2 C.1
  unfold Oper.wp
  rw [h1]
  show Calls E.P f vs.toArray w _
  refine (C.2 (Fr E s.h η) w η vs h.hT (In.of h (show inH s.h [] from trivial)) (hxs ▸ h2)).mono ?_
  rintro e w' ⟨r, v, Ho, η', rfl, ⟨rfl, hp⟩, hv, hO⟩
  obtain ⟨hR, hG, hS⟩ := hO.rel h (show inH s.h [] from trivial) fun k' hk' => by rw [newK_same] at hk'; cases hk'
  have hi : inH s.h [] := trivial
  have hR2 : Rel E s a w' η' := by
    have := hR.ext (h' := s.h) fun k => (cgS_same hi k).symm
    rw [show (cgS s [] []).t = s.t by show killT (newK [] []) s.t = s.t; rw [newK_same, killT_none]] at this
    exact this
  have hF : Sub (Fr E (cgS s [] []).h η') w' (Fr E s.h η') w' := fun b o hb ho => ⟨⟨hb.1, fun k o' hk => hb.2 k o' (by rw [cgS_same hi k]; exact hk)⟩, ho⟩
  exact SQ_ok hK rest _ (hr r hp) _ _ η' (by rw [hd]; exact hR2.put hdn (RS.mono hF _ _ (RS.mono hG _ _ hv)))
end Go.Proofs.YtgijboakaodcgaaDoor.Aw
namespace Go.Proofs.YtgijboakaodcgaaDoor.Aw
open Go.RowKit
attribute [local go_sem_proc] Nat.reduceAdd Nat.reduceMul Nat.reduceSub Nat.reduceEqDiff Nat.reduceLeDiff Nat.reduceBEq Nat.reduceBNe Int.reduceToNat reduceIte reduceCtorEq
attribute [local go_sem] initT SQ so pe he ev lk constS stp stc gdS nth pickS pickD loadS cellsAt okAt fieldAddrS fieldS partS indexAddrS indexS extractS binS binD binI isShift unS convS lenS sliceS bndI bndC mmS mm2 mmD builtS fillS okCells cellsS splS solid aliveL alive okS boxS allocS makeS bsliceS elemsOf dcells stF storeS frzA frz frzT frzS frzL frzO frzH appS srcS appVC killS killT killC killH killO k1 k2 S.has S.hasL St.add St.upd dropH lh cond_or cond_and rw_intC rw_intC0 rw_set rw_app rw_apps rw_rep rw_slice wr64 cond_true cond_false true_and and_true List.map_cons List.map_nil List.length_cons List.length_nil List.drop_succ_cons List.drop_zero List.take_succ_cons List.take_zero List.nil_append List.cons_append List.getD_cons_zero List.getD_cons_succ List.headD_cons List.length_map ite_true ite_false if_true if_false Bool.false_eq_true and_self forall_const List.drop_nil List.take_nil List.append_nil Option.map_some Option.map_none List.mapM_cons List.mapM_nil Option.bind_eq_bind Option.bind_some Option.pure_def knows resL resV oneS freshS freshL cv cvL stpL stcL or_true true_or or_false false_or List.all_cons List.all_nil Bool.and_self Bool.or_self Bool.true_and Bool.and_true Bool.or_false Bool.false_or implies_true flatD allm_nil allm_cons List.getElem?_cons_zero List.getElem?_cons_succ Nd.cs Nd.ds ml mln Option.isSome_some Option.isSome_none eq_self Int.toNat_natCast AP ldOk isLd inL subL crt chg chgS chgP idxs aliveW Option.toList_some Option.toList_none Option.toList RetG Nd.win frzA offK keepH aliveK nkH closedH closedO keysK inH St.upd rowO List.contains_cons List.contains_nil Bool.or_self Option.isNone_none Option.isNone_some Bool.not_true Bool.not_false gcs rowN e0N frzC
attribute [local go_sem] sz2 ag2 ok2 kk2 iu2 zc2 zd2 by2 sz3 ag3 ok3 kk3 iu3 zc3 zd3 by3 sz4 ag4 ok4 bo4 zc4 zd4 by4 sz5 ag5 ok5 kk5 iu5 zc5 zd5 by5 sz9 ag9 ok9 st9 zc9 zd9 by9 sz12 ag12 ok12 kk12 iu12 zc12 zd12 by12 sz15 ag15 ok15 zc15 by15 sz16 ag16 ok16 zc16 by16 sz21 ag21 ok21 kk21 iu21 zc21 zd21 by21 sz22 ag22 ok22 sl22 zc22 zd22 by22 sz23 ag23 ok23 zc23 zd23 pl23 by23 fl23_0 fl23_1 fl23_2 fl23_3 fl23_4 fl23_5 sz24 ag24 ok24 zc24 zd24 pl24 by24 fl24_0 fl24_1 fl24_2 fl24_3 fl24_4 fl24_5 sz26 ag26 ok26 zc26 zd26 pl26 by26 fl26_0 fl26_1 fl26_2 fl26_3 fl26_4 fl26_5 fl26_6 fl26_7 fl26_8 fl26_9 fl26_10 fl26_11 fl26_12 fl26_13 fl26_14 sz27 ag27 ok27 zc27 zd27 pl27 by27 fl27_0 fl27_1 fl27_2 fl27_3 fl27_4 fl27_5 fl27_6 fl27_7 fl27_8 fl27_9 fl27_10 fl27_11 fl27_12 fl27_13 fl27_14 sz28 ag28 ok28 sl28 zc28 zd28 by28 sz38 ag38 ok38 sl38 ar38 zc38 zd38 pl38 by38 sz44 ag44 ok44 sl44 ar44 zc44 zd44 pl44 by44 sz45 ag45 ok45 sl45 zc45 zd45 by45 sz46 ag46 ok46 zc46 zd46 pl46 by46 fl46_0 fl46_1 fl46_2 fl46_3 fl46_4 sz47 ag47 ok47 zc47 zd47 pl47 by47 fl47_0 fl47_1 fl47_2 fl47_3 fl47_4 sz49 ag49 ok49 kk49 iu49 zc49 zd49 by49 sz53 ag53 ok53 sl53 ar53 zc53 zd53 pl53 by53 sz54 ag54 ok54 kk54 iu54 zc54 zd54 by54 sz55 ag55 ok55 kk55 iu55 zc55 zd55 by55 sz56 ag56 ok56 sl56 zc56 zd56 by56 sz57 ag57 ok57 kk57 iu57 zc57 zd57 by57 sz60 ag60 ok60 zc60 zd60 pl60 by60 fl60_0 fl60_1 fl60_2 fl60_3 sz61 ag61 ok61 zc61 zd61 pl61 by61 fl61_0 fl61_1 fl61_2 fl61_3 sz64 ag64 ok64 zc64 by64 sz65 ag65 ok65 zc65 zd65 pl65 by65 fl65_0 fl65_1 sz66 ag66 ok66 zc66 zd66 pl66 by66 fl66_0 fl66_1 sz78 ag78 ok78 sl78 ar78 zc78 zd78 pl78 by78 sz79 ag79 ok79 sl79 ar79 zc79 zd79 pl79 by79 sz81 ag81 ok81 zc81 zd81 pl81 by81 fl81_0 fl81_1 sz82 ag82 ok82 zc82 zd82 pl82 by82 fl82_0 fl82_1 sz84 ag84 ok84 zc84 zd84 pl84 by84 fl84_0 fl84_1 fl84_2 fl84_3 sz85 ag85 ok85 zc85 zd85 pl85 by85 fl85_0 fl85_1 fl85_2 fl85_3 sz92 ag92 ok92 sl92 ar92 zc92 zd92 pl92 by92 sz101 ag101 ok101 zc101 zd101 pl101 by101 fl101_0 fl101_1 sz102 ag102 ok102 zc102 zd102 pl102 by102 fl102_0 fl102_1 sz109 ag109 ok109 zc109 zd109 pl109 by109 fl109_0 fl109_1 fl109_2 sz110 ag110 ok110 zc110 zd110 pl110 by110 fl110_0 fl110_1 fl110_2 sz120 ag120 ok120 sl120 ar120 zc120 zd120 pl120 by120 sz121 ag121 ok121 zc121 zd121 pl121 by121 fl121_0 fl121_1 sz122 ag122 ok122 sl122 ar122 zc122 zd122 pl122 by122 sz130 ag130 ok130 zc130 by130 sz140 ag140 ok140 kk140 iu140 zc140 zd140 by140 sz144 ag144 ok144 zc144 by144
section
attribute [local go_sem] Rg.cs Rg.ds e0R rgS rtup
attribute [local go_sem] rw_rgset rw_rgrep
theorem rRanges_c {T : World → Prop} (Tm : TP T) (wd lo hi out : Int) (ns : List Nd) (hns : ns.length ≤ 65536) (hin : ∀ n ∈ ns, n.inn.length ≤ 4096 ∧ n.ws.length ≤ 65536 ∧ n.bs.length ≤ 65536) :
    Cg Go.Proofs.Tryd.prog T 54 [] [.agg (gcs wd lo hi out (.d (rowN ns)))] (fun r H => H = [] ∧ r = .agg [.d (.row e0R ((rangesV wd lo hi out ns).2.map Rg.ds)), .d (.i .i64 (rangesV wd lo hi out ns).1)]) := by
  have cL := Look_r Tm wd lo hi out ns hns hin
  rw [← look_same] at cL
  refine Cg_of [] Tm Go.Proofs.Tryd.func54 rfl rfl Go.Proofs.Tryd.ntmps54 (by simp) rfl (rs := [.cell 2 82]) rfl fun E hP hn hT hpn => ?_
  (repeat (first | refine TS.imp ?_ | refine n9 (by decide) ?_))
  refine TR.imp ?_; intro K hK; simp only [go_sem, hP, hn]; (repeat refine vc ?_); refine hK _ ?_; clear K hK
  (repeat (first | refine TS.imp ?_ | refine n9 (by decide) ?_))
  refine TR.imp ?_; intro K hK; simp only [go_sem, hP, hn]
  (repeat refine vc ?_)
  refine CallN_cs (Hi := [] ) (by rw [hP, hT]; exact  cL) rfl rfl rfl trivial (by simp only [go_sem, hP, hn]; try trivial) (by simp only [go_sem, hP, hn]; try rfl) (by simp only [inH, go_sem, hP, hn]; try simp) (by rw [hn]; decide) ?_; simp only [go_sem, hP, hn]; (repeat refine vc ?_)
  refine hK _ ?_; clear K hK
  (repeat (first | refine TS.imp ?_ | refine n9 (by decide) ?_))
  refine TR.imp ?_; intro K hK; simp only [go_sem, hP, hn]; (repeat refine vc ?_); refine hK _ ?_; clear K hK
  (repeat (first | refine TS.imp ?_ | refine n9 (by decide) ?_))
  refine Tr.cond rfl (fun he => ?_) (fun he => ?_)
  · (repeat (first | refine TS.imp ?_ | refine n9 (by decide) ?_))
    refine TR.imp ?_; intro K hK; simp only [go_sem, hP, hn]; (repeat refine vc ?_); refine hK _ ?_; clear K hK
    refine Tr.le (Le.wbox 2 [.d (.row e0R []), .d (.i .i64 (lookG wd lo hi out ns).1)] rfl (by simp [wk, e0R])) ?_
    (repeat (first | (refine TR.imp ?_; intro K hK; simp only [go_sem, hP, hn]; (repeat refine vc ?_); refine hK _ ?_; clear K hK) | refine TS.imp ?_ | refine n9 (by decide) ?_))
    simp only [RetG, go_sem]; (repeat with_reducible refine vc ?_)
    unfold rangesV
    rw [if_pos he]
    rfl
  have he0 : (lookG wd lo hi out ns).1 = 0 := by simpa using he
  have hLR := look_lr he0
  have hG := hLR.lg
  have hR : rangesV wd lo hi out ns = match rgL ns (lookG wd lo hi out ns).2.2.1 (lookG wd lo hi out ns).2.1 (rgS lo hi :: List.replicate ns.length ⟨0, 0, 0, 0⟩) with
    | none => (16, [])
    | some o => (0, o) := by unfold rangesV; rw [if_neg (by rw [he]; decide)]; rfl
  rw [hR]
  clear he hR cL
  generalize (lookG wd lo hi out ns).2.2.1 = W at *
  generalize (lookG wd lo hi out ns).2.2.2 = Rt at *
  generalize (lookG wd lo hi out ns).2.1 = os at *
  rw [he0]
  clear he0
  generalize hV : rgL ns W os (rgS lo hi :: List.replicate ns.length ⟨0, 0, 0, 0⟩) = V
  have hwl := hG.wl
  have hol := hG.ol
  have g0 : wrap64 ((ns.length : Int) + 1) = (ns.length : Int) + 1 := w64 (by omega) (by omega)
  refine Tr.le (Le.keep [1, 2, 3]) ?_; simp only [List.map_cons, List.map_nil, lk, Nat.reduceEqDiff, reduceIte]
  (repeat (first | refine TS.imp ?_ | refine n9 (by decide) ?_))
  refine TR.imp ?_; intro K hK; simp only [g0, go_sem, hP, hn]; (repeat refine vc ?_); refine hK _ ?_; clear K hK
  (repeat (first | refine TS.imp ?_ | refine n9 (by decide) ?_))
  refine TR.imp ?_; intro K hK; simp only [go_sem, hP, hn]; (repeat refine vc ?_); refine c1 (by rw [hP, hT]; exact one_c Tm lo hi) rfl rfl rfl trivial (by simp only [go_sem, hP, hn]; try trivial) (by simp only [go_sem, hP, hn]; try rfl) (by rw [hn]; decide) (by rfl) ?_; simp only [go_sem, hP, hn]; (repeat refine vc ?_); refine hK _ ?_; clear K hK
  rw [show setE ((List.replicate ((ns.length : Int) + 1).toNat (⟨0, 0, 0, 0⟩ : Rg)).map Rg.ds) 0 0 [.i .i64 lo, .i .i64 hi, .i .i64 lo, .i .i64 hi] = (rgS lo hi :: List.replicate ns.length ⟨0, 0, 0, 0⟩).map Rg.ds from by rw [show ((ns.length : Int) + 1).toNat = ns.length + 1 by omega]; exact rw_rgset _ 0 (rgS lo hi)]
  (repeat (first | refine TS.imp ?_ | refine n9 (by decide) ?_))
  refine TR.imp ?_; intro K hK; simp only [go_sem, hP, hn]; (repeat refine vc ?_); refine hK _ ?_; clear K hK
  (repeat (first | refine TS.imp ?_ | refine n9 (by decide) ?_))
  refine Tr.le (Le.keep [1, 2, 3, 4, 5]) ?_; simp only [List.map_cons, List.map_nil, lk, Nat.reduceEqDiff, reduceIte]
  have h0l : ∀ r ∈ rgS lo hi :: List.replicate ns.length ⟨0, 0, 0, 0⟩, in32 r.lo ∧ in32 r.hi := fun r hr => by
    rcases List.mem_cons.1 hr with rfl | hr
    · exact hG.lo0
    · obtain rfl := List.eq_of_mem_replicate hr; exact ⟨by show in32 0; decide, by show in32 0; decide⟩
  have hWL : WL (rgS lo hi :: List.replicate ns.length ⟨0, 0, 0, 0⟩) (rgS lo hi :: List.replicate ns.length ⟨0, 0, 0, 0⟩) := ⟨⟨Int.le_refl _, Int.le_refl _, hLR.le, Int.le_refl _, Int.le_refl _, hG.lo0⟩, WL.rep _⟩
  refine Tr.loop (fun q s => ∃ (k : Int) (o : List Rg), s = ⟨[(1, .ptr 1 0), (2, .ptr 2 0), (3, .ptr 3 0), (4, .own 22), (5, .d (.i .i64 k))], [(1, .box 47 (gcs wd lo hi out (.d (rowN ns)))), (2, .box 82 [.d .nil, .d (.i .i64 0)]), (3, .box 85 [.d (.row [.i .i64 0] (os.map intC)), .d (.row [.i .i64 0] (W.map intC)), .d (.row [.i .i64 0] (Rt.map intC)), .d (.i .i64 0)]), (22, .row 61 e0R (o.map Rg.ds))]⟩ ∧ 0 ≤ k ∧ k + q = os.length ∧ o.length = ns.length + 1 ∧ (∀ r ∈ o, in32 r.lo ∧ in32 r.hi) ∧ WL o o ∧ V = rgL ns W (os.drop k.toNat) o) os.length ⟨_, (Le.mv (by simp only [go_sem, hP, hn]; first | done | (simp; done) | (simp [intC]; done) | (repeat (first | rfl | constructor))) (by simp only [go_sem, hP, hn]; first | done | (simp; done) | (simp [intC]; done) | (repeat (first | rfl | constructor)))), 0, rgS lo hi :: List.replicate ns.length ⟨0, 0, 0, 0⟩, rfl, by omega, by omega, by simp, h0l, hWL, hV.symm⟩ ?_
  rintro q s ⟨k, o, rfl, k0, kq, hol2, ho32, hoW, hst⟩
  (repeat (first | refine TS.imp ?_ | refine n9 (by decide) ?_))
  refine TR.imp ?_; intro K hK; simp only [go_sem, hP, hn]; (repeat refine vc ?_); refine hK _ ?_; clear K hK
  (repeat (first | refine TS.imp ?_ | refine n9 (by decide) ?_))
  refine Tr.cond rfl (fun hb => ?_) (fun hb => ?_)
  · have hk : k < os.length := by simpa using hb
    clear hb
    have hmem := rd_mem (l := os) (j := k) k0 hk
    obtain ⟨⟨hi1, hi2⟩, hN⟩ := hG.osn _ hmem
    obtain ⟨hWN, hpo, hwp⟩ := hLR.node _ hmem
    rw [drop_rd k0 hk] at hst
    simp only [rgL] at hst
    generalize hii : rd os k = i at *
    have hnd := rw_nd ns (i - 1) (by omega) (by omega)
    have g1 : wrap64 (i - 1) = i - 1 := w64 (by omega) (by omega)
    have hini := hin _ (nd_mem (ns := ns) (i := i - 1) (by omega) (by omega))
    unfold stepR at hst
    generalize nd ns (i - 1) = n at *
    have hil := hN.i0
    have hw0 := hG.w16
    have hj0 := hN.ij _ (rd_mem (l := n.inn) (j := 0) (by decide) (by omega))
    have hwj := hG.w16 _ (rd_mem (l := W) (j := rd n.inn 0) hj0.1 (by omega))
    have hNO : NOk n (n.inn.map (rg o)) (eachW n) := ⟨by rw [List.length_map]; omega, fun r hr => by
      obtain ⟨j, hj, rfl⟩ := List.mem_map.1 hr
      have := hN.ij j hj
      exact rg_in ho32 this.1 (by omega), hN.bw⟩
    have hWI : WL (n.inn.map (rg o)) (n.inn.map (rg o)) := WL.map fun j hj => by
      have := hN.ij j hj
      exact hoW.w this.1 (by omega)
    have hx32 := nodeR32 (width := rd W (rd n.inn 0)) hNO hN.s27 hwj
    have hxW := node_wi hWI hWN hNO hNO (w := rd W (rd n.inn 0)) ⟨hwp, hwj.2⟩
    have hnc := rnode20_c Tm n (rd W (rd n.inn 0)) (n.inn.map (rg o)) (eachW n) hNO hWN hpo (nodeLH_mono (n := n) hWI hNO.i0.1).2.2
    generalize nodeR n (rd W (rd n.inn 0)) (n.inn.map (rg o)) (eachW n) = x at *
    (repeat (first | refine TS.imp ?_ | refine n9 (by decide) ?_))
    (first | refine d1 (.p true 0 (.p true 1 (.p true 2 (.p true 3 (.p true 4 (.p true 5 (.p true 6 (.p true 7 (.p true 8 (.p true 9 (.alt 10 (.alt 11 .nil .nil) .nil))))))))))) [] (by rw [hP]; kernel_rfl) (by kernel_rfl) (by simp only [go_sem, hP, hn]; try simp) (fun _ _ h => h) fun K hK => ?_ | refine d2 (.p true 0 (.p true 1 (.p true 2 (.p true 3 (.p true 4 (.p true 5 (.p true 6 (.p true 7 (.p true 8 (.p true 9 (.alt 10 (.alt 11 .nil .nil) .nil))))))))))) [] (by rw [hP]; kernel_rfl) (by kernel_rfl) (by simp only [go_sem, hP, hn]; try simp) (fun _ _ h => h) fun K hK => ?_ | refine d4 (.p true 0 (.p true 1 (.p true 2 (.p true 3 (.p true 4 (.p true 5 (.p true 6 (.p true 7 (.p true 8 (.p true 9 (.alt 10 (.alt 11 .nil .nil) .nil))))))))))) [] (by rw [hP]; kernel_rfl) (by kernel_rfl) (by simp only [go_sem, hP, hn]; try simp) (fun _ _ h => h) fun K hK => ?_); simp only [go_sem, hP, hn]
    simp only [g1, hii]
    rw [hnd]
    simp only [go_sem, hP, hn]
    (repeat refine vc ?_)
    refine hK _ ?_; clear K hK
    refine Tr.le (Le.keep [1, 2, 3, 4, 5, 6]) ?_; simp only [List.map_cons, List.map_nil, lk, Nat.reduceEqDiff, reduceIte]
    (repeat (first | refine TS.imp ?_ | refine n9 (by decide) ?_))
    refine TR.imp ?_; intro K hK; simp only [go_sem, hP, hn]; (repeat refine vc ?_); refine hK _ ?_; clear K hK
    refine Tr.le (Le.nilslot 3001 7 61 e0R rfl (by rw [hpn] <;> rfl) rfl rfl) ?_
    (repeat (first | refine TS.imp ?_ | refine n9 (by decide) ?_))
    refine TR.imp ?_; intro K hK; simp only [go_sem, hP, hn]; (repeat refine vc ?_); refine hK _ ?_; clear K hK
    (repeat (first | refine TS.imp ?_ | refine n9 (by decide) ?_))
    refine Tr.le (Le.keep [1, 2, 3, 4, 5, 6, 7, 8]) ?_; simp only [List.map_cons, List.map_nil, lk, Nat.reduceEqDiff, reduceIte]
    refine Tr.loop (fun p s => ∃ (j : Int) (I : List Rg), s = ⟨[(1, .ptr 1 0), (2, .ptr 2 0), (3, .ptr 3 0), (4, .own 22), (5, .d (.i .i64 k)), (6, .ptr 6 0), (7, .own 3001), (8, .d (.i .i64 j))], [(6, .box 27 n.cs), (1, .box 47 (gcs wd lo hi out (.d (rowN ns)))), (2, .box 82 [.d .nil, .d (.i .i64 0)]), (3, .box 85 [.d (.row [.i .i64 0] (os.map intC)), .d (.row [.i .i64 0] (W.map intC)), .d (.row [.i .i64 0] (Rt.map intC)), .d (.i .i64 0)]), (22, .row 61 e0R (o.map Rg.ds)), (3001, .row 61 e0R (I.map Rg.ds))]⟩ ∧ 0 ≤ j ∧ j + p = n.inn.length ∧ I = (n.inn.take j.toNat).map (rg o)) n.inn.length ⟨_, (Le.mv (by simp only [go_sem, hP, hn]; first | done | (simp; done) | (simp [intC]; done) | (repeat (first | rfl | constructor))) (by simp only [go_sem, hP, hn]; first | done | (simp; done) | (simp [intC]; done) | (repeat (first | rfl | constructor)))), 0, [], rfl, by omega, by omega, by simp⟩ ?_
    rintro p s ⟨j, I, rfl, j0, jp, hI⟩
    have hIl : I.length ≤ 16 := by rw [hI]; simp; omega
    (repeat (first | refine TS.imp ?_ | refine n9 (by decide) ?_))
    refine TR.imp ?_; intro K hK; simp only [go_sem, hP, hn]; (repeat refine vc ?_); refine hK _ ?_; clear K hK
    (repeat (first | refine TS.imp ?_ | refine n9 (by decide) ?_))
    refine Tr.cond rfl (fun hb => ?_) (fun hb => ?_)
    · have hj : j < n.inn.length := by simpa using hb
      have hjo := hN.ij _ (rd_mem j0 hj)
      have hrj := rw_rg o (rd n.inn j) hjo.1 (by omega)
      have hI2 : (n.inn.take (j + 1).toNat).map (rg o) = I ++ [rg o (rd n.inn j)] := by
        rw [hI, take_rd j0 hj]; simp
      clear hb
      generalize rg o (rd n.inn j) = y at *
      have hap : I.map Rg.ds ++ [[.i .i64 y.lo, .i .i64 y.hi, .i .i64 y.al, .i .i64 y.ah]] = (I ++ [y]).map Rg.ds := by simp [Rg.ds]
      (repeat (first | refine TS.imp ?_ | refine n9 (by decide) ?_))
      refine TR.imp ?_; intro K hK; simp only [go_sem, hP, hn]
      rw [hrj]
      simp only [go_sem, hP, hn]
      simp only [hap]
      (repeat refine vc ?_)
      refine hK _ ?_; clear K hK
      (repeat (first | refine TS.imp ?_ | refine n9 (by decide) ?_))
      refine TR.imp ?_; intro K hK; simp only [go_sem, hP, hn]; (repeat refine vc ?_); refine hK _ ?_; clear K hK
      (repeat (first | refine TS.imp ?_ | refine n9 (by decide) ?_))
      rw [w64 (x := j + 1) (by omega) (by omega)]
      refine ⟨p - 1, _, by omega, ?_, j + 1, I ++ [y], rfl, by omega, by omega, hI2.symm⟩
      refine Le.trans (b := ⟨[(1, .ptr 1 0), (2, .ptr 2 0), (3, .ptr 3 0), (4, .own 22), (5, .d (.i .i64 k)), (6, .ptr 6 0), (7, .own 64), (8, .d (.i .i64 (j + 1)))], [(6, .box 27 n.cs), (1, .box 47 (gcs wd lo hi out (.d (rowN ns)))), (2, .box 82 [.d .nil, .d (.i .i64 0)]), (3, .box 85 [.d (.row [.i .i64 0] (os.map intC)), .d (.row [.i .i64 0] (W.map intC)), .d (.row [.i .i64 0] (Rt.map intC)), .d (.i .i64 0)]), (22, .row 61 e0R (o.map Rg.ds)), (64, .row 61 e0R ((I ++ [y]).map Rg.ds))]⟩) (Le.mv (by simp only [go_sem, hP, hn]; first | done | (simp; done) | (simp [intC]; done) | (repeat (first | rfl | constructor))) (by simp only [go_sem, hP, hn]; first | done | (simp; done) | (simp [intC]; done) | (repeat (first | rfl | constructor)))) ?_
      refine Le.trans (Le.ren 64 3001 (by rw [hpn] <;> rfl) rfl rfl) ?_; simp only [renT, renH, renO, renS, renL, rn, go_sem, hP, hn]
      exact (Le.mv (by simp only [go_sem, hP, hn]; first | done | (simp; done) | (simp [intC]; done) | (repeat (first | rfl | constructor))) (by simp only [go_sem, hP, hn]; first | done | (simp; done) | (simp [intC]; done) | (repeat (first | rfl | constructor))))
    · have hII : I = n.inn.map (rg o) := by
        have : ¬ j < n.inn.length := by simpa using hb
        rw [hI, List.take_of_length_le (by omega)]
      clear hb
      subst hII
      clear hI j0 jp
      (repeat (first | refine TS.imp ?_ | refine n9 (by decide) ?_))
      refine Tr.le (Le.keep [1, 2, 3, 4, 5, 6, 7]) ?_; simp only [List.map_cons, List.map_nil, lk, Nat.reduceEqDiff, reduceIte]
      refine Tr.le (Le.freeze 3001) ?_
      simp only [go_sem, hP, hn]
      (repeat (first | refine TS.imp ?_ | refine n9 (by decide) ?_))
      refine Tr.meet (fun s => s = ⟨[(1, .ptr 1 0), (2, .ptr 2 0), (3, .ptr 3 0), (4, .own 22), (5, .d (.i .i64 k)), (9, .ptr 9 0)], [(1, .box 47 (gcs wd lo hi out (.d (rowN ns)))), (2, .box 82 [.d .nil, .d (.i .i64 0)]), (3, .box 85 [.d (.row [.i .i64 0] (os.map intC)), .d (.row [.i .i64 0] (W.map intC)), .d (.row [.i .i64 0] (Rt.map intC)), .d (.i .i64 0)]), (22, .row 61 e0R (o.map Rg.ds)), (9, .box 61 x.cs)]⟩) ?_ ?_
      rotate_left
      · (first | refine d1 (.p true 0 (.p true 1 (.p true 2 (.p true 3 (.p true 4 (.p true 5 (.p true 6 (.p true 7 (.p true 8 (.p true 9 (.alt 10 (.alt 11 (.alt 12 .nil .nil) .nil) (.alt 11 (.alt 10 (.alt 12 .nil .nil) .nil) .nil)))))))))))) [] (by rw [hP]; kernel_rfl) (by kernel_rfl) (by simp only [go_sem, hP, hn]; try simp) (fun _ _ h => h) fun K hK => ?_ | refine d2 (.p true 0 (.p true 1 (.p true 2 (.p true 3 (.p true 4 (.p true 5 (.p true 6 (.p true 7 (.p true 8 (.p true 9 (.alt 10 (.alt 11 (.alt 12 .nil .nil) .nil) (.alt 11 (.alt 10 (.alt 12 .nil .nil) .nil) .nil)))))))))))) [] (by rw [hP]; kernel_rfl) (by kernel_rfl) (by simp only [go_sem, hP, hn]; try simp) (fun _ _ h => h) fun K hK => ?_ | refine d4 (.p true 0 (.p true 1 (.p true 2 (.p true 3 (.p true 4 (.p true 5 (.p true 6 (.p true 7 (.p true 8 (.p true 9 (.alt 10 (.alt 11 (.alt 12 .nil .nil) .nil) (.alt 11 (.alt 10 (.alt 12 .nil .nil) .nil) .nil)))))))))))) [] (by rw [hP]; kernel_rfl) (by kernel_rfl) (by simp only [go_sem, hP, hn]; try simp) (fun _ _ h => h) fun K hK => ?_); simp only [go_sem, hP, hn]
        (repeat (refine ⟨by first | trivial | omega, ?_⟩))
        refine ⟨?_, ?_⟩
        all_goals (repeat (refine ⟨by first | trivial | omega, ?_⟩))
        all_goals (refine CallP_cs (by rw [hP, hT]; exact hnc) rfl rfl rfl trivial (by simp only [go_sem, hP, hn]; try trivial) (by simp only [go_sem, hP, hn]; try rfl) (by rw [hn]; decide) ?_; simp only [go_sem, hP, hn]; (repeat (refine ⟨by first | trivial | omega, ?_⟩)))
        all_goals (refine hK _ ?_; clear K hK; (repeat (first | refine TS.imp ?_ | refine n9 (by decide) ?_)); exact ⟨_, (Le.mv (by simp only [go_sem, hP, hn]; first | done | (simp; done) | (simp [intC]; done) | (repeat (first | rfl | constructor))) (by simp only [go_sem, hP, hn]; first | done | (simp; done) | (simp [intC]; done) | (repeat (first | rfl | constructor)))), rfl⟩)
      rintro s rfl
      (repeat (first | refine TS.imp ?_ | refine n9 (by decide) ?_))
      refine TR.imp ?_; intro K hK; simp only [go_sem, hP, hn]; (repeat refine vc ?_); refine hK _ ?_; clear K hK
      refine Tr.le (Le.keep [1, 2, 3, 4, 5, 9, 83]) ?_; simp only [List.map_cons, List.map_nil, lk, Nat.reduceEqDiff, reduceIte]
      (repeat (first | refine TS.imp ?_ | refine n9 (by decide) ?_))
      refine Tr.cond rfl (fun hc => ?_) (fun hc => ?_)
      · have hov : overR x = true := hc
        rw [if_pos hov] at hst
        subst hst
        (repeat (first | refine TS.imp ?_ | refine n9 (by decide) ?_))
        refine TR.imp ?_; intro K hK; simp only [go_sem, hP, hn]; (repeat refine vc ?_); refine hK _ ?_; clear K hK
        refine Tr.le (Le.wbox 2 [.d (.row e0R []), .d (.i .i64 16)] rfl (by simp [wk, e0R])) ?_
        (repeat (first | (refine TR.imp ?_; intro K hK; simp only [go_sem, hP, hn]; (repeat refine vc ?_); refine hK _ ?_; clear K hK) | refine TS.imp ?_ | refine n9 (by decide) ?_))
        simp only [RetG, go_sem]; (repeat with_reducible refine vc ?_)
        decide
        trace_state
      · have hov : ¬ overR x = true := by
          have : overR x = false := hc
          rw [this]; decide
        rw [if_neg hov] at hst
        (repeat (first | refine TS.imp ?_ | refine n9 (by decide) ?_))
        (first | refine d1 (.p true 0 (.p true 1 (.p true 2 (.p true 3 (.p true 4 (.p true 5 (.p true 6 (.p true 7 (.alt 8 .nil .nil))))))))) [22] (by rw [hP]; kernel_rfl) (by kernel_rfl) (by simp only [go_sem, hP, hn]; try simp) (fun _ _ h => h) fun K hK => ?_ | refine d2 (.p true 0 (.p true 1 (.p true 2 (.p true 3 (.p true 4 (.p true 5 (.p true 6 (.p true 7 (.alt 8 .nil .nil))))))))) [22] (by rw [hP]; kernel_rfl) (by kernel_rfl) (by simp only [go_sem, hP, hn]; try simp) (fun _ _ h => h) fun K hK => ?_ | refine d4 (.p true 0 (.p true 1 (.p true 2 (.p true 3 (.p true 4 (.p true 5 (.p true 6 (.p true 7 (.alt 8 .nil .nil))))))))) [22] (by rw [hP]; kernel_rfl) (by kernel_rfl) (by simp only [go_sem, hP, hn]; try simp) (fun _ _ h => h) fun K hK => ?_); simp only [go_sem, hP, hn]
        simp only [hii]
        (repeat refine vc ?_)
        refine hK _ ?_; clear K hK
        (repeat (first | refine TS.imp ?_ | refine n9 (by decide) ?_))
        refine TR.imp ?_; intro K hK; simp only [go_sem, hP, hn]; (repeat refine vc ?_); refine hK _ ?_; clear K hK
        (repeat (first | refine TS.imp ?_ | refine n9 (by decide) ?_))
        rw [w64 (x := k + 1) (by omega) (by omega)]
        refine ⟨q - 1, _, by omega, ?_, k + 1, o.set i.toNat x, rfl, by omega, by omega, by simpa using hol2, fun r hr => ?_, hoW.set _ hxW, hst⟩
        · exact (Le.mv (by simp only [go_sem, hP, hn]; first | done | (simp; done) | (simp [intC]; done) | (repeat (first | rfl | constructor))) (by simp only [go_sem, hP, hn]; first | done | (simp; done) | (simp [intC]; done) | (repeat (first | rfl | constructor))))
        · rcases List.mem_or_eq_of_mem_set hr with h | rfl
          · exact ho32 r h
          · exact hx32
  · rw [drop_end (by simpa using hb)] at hst
    simp only [rgL] at hst
    subst hst
    (repeat (first | refine TS.imp ?_ | refine n9 (by decide) ?_))
    refine Tr.le (Le.keep [1, 2, 4]) ?_; simp only [List.map_cons, List.map_nil, lk, Nat.reduceEqDiff, reduceIte]
    refine Tr.le (Le.freeze 22) ?_
    simp only [go_sem, hP, hn]
    (repeat (first | (refine TR.imp ?_; intro K hK; simp only [go_sem, hP, hn]; (repeat refine vc ?_); refine hK _ ?_; clear K hK) | refine TS.imp ?_ | refine n9 (by decide) ?_))
    simp only [RetG, go_sem]; (repeat with_reducible refine vc ?_)
    decide
end
section
theorem Made16_c {T : World → Prop} (Tm : TP T) (l0 : List Int) : Cg Go.Proofs.Tryd.prog T 23 [] [.d (.row [.i .i64 0] (l0.map intC))] PMade := by
  refine Cg_of [2000] Tm Go.Proofs.Tryd.func23 rfl rfl Go.Proofs.Tryd.ntmps23 (by simp) rfl (rs := [.cell 2 47]) rfl fun E hP hn hT hpn => ?_
  (repeat (first | refine TS.imp ?_ | refine n9 (by decide) ?_))
  refine TR.imp ?_; intro K hK; simp only [go_sem, hP, hn]; (repeat refine vc ?_); refine hK _ ?_; clear K hK
  (repeat (first | refine TS.imp ?_ | refine n9 (by decide) ?_))
  refine TR.imp ?_; intro K hK; simp only [go_sem, hP, hn]
  (repeat refine vc ?_)
  refine CallN_cx (Hi := []) (by rw [hP, hT]; exact Made15_c Tm l0 ) rfl rfl rfl trivial (by simp only [go_sem, hP, hn]; try trivial) (by simp only [go_sem, hP, hn]; try rfl) trivial (by rw [hn]; decide) (fun r Ho hr => ?_); obtain  ⟨wd, lo, hi, out, ns, rfl, rfl, hG⟩ := hr; refine ⟨fun k _ => hpn k rfl, ?_⟩; simp only [cgS, newK, touK, go_sem, hP, hn]; (repeat refine vc ?_)
  refine hK _ ?_; clear K hK
  (repeat (first | (refine TR.imp ?_; intro K hK; simp only [go_sem, hP, hn]; (repeat refine vc ?_); refine hK _ ?_; clear K hK) | refine TS.imp ?_ | refine n9 (by decide) ?_))
  simp only [RetG, go_sem]; (repeat with_reducible refine vc ?_)
  exact ⟨wd, lo, hi, out, ns, rfl, rfl, hG⟩
attribute [local simp] ring
end
end Go.Proofs.YtgijboakaodcgaaDoor.Aw
namespace Go.Proofs.YtgijboakaodcgaaDoor.Aw
open Go.RowKit
/-! an operation that stands where a call may stand; a value whose nils are rows of none -/
section
variable {E : Env} {ops : List Oper} {o : Oper} {s : St} {rest : List Oper} {K : St → Prop} {d : Nat}
end
end Go.Proofs.YtgijboakaodcgaaDoor.Aw
namespace Go.Proofs.YtgijboakaodcgaaDoor.Aw
open Go.RowKit
attribute [local go_sem_proc] Nat.reduceAdd Nat.reduceMul Nat.reduceSub Nat.reduceEqDiff Nat.reduceLeDiff Nat.reduceBEq Nat.reduceBNe Int.reduceToNat reduceIte reduceCtorEq
attribute [local go_sem] initT SQ so pe he ev lk constS stp stc gdS nth pickS pickD loadS cellsAt okAt fieldAddrS fieldS partS indexAddrS indexS extractS binS binD binI isShift unS convS lenS sliceS bndI bndC mmS mm2 mmD builtS fillS okCells cellsS splS solid aliveL alive okS boxS allocS makeS bsliceS elemsOf dcells stF storeS frzA frz frzT frzS frzL frzO frzH appS srcS appVC killS killT killC killH killO k1 k2 S.has S.hasL St.add St.upd dropH lh cond_or cond_and rw_intC rw_intC0 rw_set rw_app rw_apps rw_rep rw_slice wr64 cond_true cond_false true_and and_true List.map_cons List.map_nil List.length_cons List.length_nil List.drop_succ_cons List.drop_zero List.take_succ_cons List.take_zero List.nil_append List.cons_append List.getD_cons_zero List.getD_cons_succ List.headD_cons List.length_map ite_true ite_false if_true if_false Bool.false_eq_true and_self forall_const List.drop_nil List.take_nil List.append_nil Option.map_some Option.map_none List.mapM_cons List.mapM_nil Option.bind_eq_bind Option.bind_some Option.pure_def knows resL resV oneS freshS freshL cv cvL stpL stcL or_true true_or or_false false_or List.all_cons List.all_nil Bool.and_self Bool.or_self Bool.true_and Bool.and_true Bool.or_false Bool.false_or implies_true flatD allm_nil allm_cons List.getElem?_cons_zero List.getElem?_cons_succ Nd.cs Nd.ds ml mln Option.isSome_some Option.isSome_none eq_self Int.toNat_natCast AP ldOk isLd inL subL crt chg chgS chgP idxs aliveW Option.toList_some Option.toList_none Option.toList RetG Nd.win frzA offK keepH aliveK nkH closedH closedO keysK inH St.upd rowO List.contains_cons List.contains_nil Bool.or_self Option.isNone_none Option.isNone_some Bool.not_true Bool.not_false gcs rowN e0N frzC
attribute [local go_sem] sz2 ag2 ok2 kk2 iu2 zc2 zd2 by2 sz3 ag3 ok3 kk3 iu3 zc3 zd3 by3 sz4 ag4 ok4 bo4 zc4 zd4 by4 sz5 ag5 ok5 kk5 iu5 zc5 zd5 by5 sz9 ag9 ok9 st9 zc9 zd9 by9 sz12 ag12 ok12 kk12 iu12 zc12 zd12 by12 sz15 ag15 ok15 zc15 by15 sz16 ag16 ok16 zc16 by16 sz21 ag21 ok21 kk21 iu21 zc21 zd21 by21 sz22 ag22 ok22 sl22 zc22 zd22 by22 sz23 ag23 ok23 zc23 zd23 pl23 by23 fl23_0 fl23_1 fl23_2 fl23_3 fl23_4 fl23_5 sz24 ag24 ok24 zc24 zd24 pl24 by24 fl24_0 fl24_1 fl24_2 fl24_3 fl24_4 fl24_5 sz26 ag26 ok26 zc26 zd26 pl26 by26 fl26_0 fl26_1 fl26_2 fl26_3 fl26_4 fl26_5 fl26_6 fl26_7 fl26_8 fl26_9 fl26_10 fl26_11 fl26_12 fl26_13 fl26_14 sz27 ag27 ok27 zc27 zd27 pl27 by27 fl27_0 fl27_1 fl27_2 fl27_3 fl27_4 fl27_5 fl27_6 fl27_7 fl27_8 fl27_9 fl27_10 fl27_11 fl27_12 fl27_13 fl27_14 sz28 ag28 ok28 sl28 zc28 zd28 by28 sz38 ag38 ok38 sl38 ar38 zc38 zd38 pl38 by38 sz44 ag44 ok44 sl44 ar44 zc44 zd44 pl44 by44 sz45 ag45 ok45 sl45 zc45 zd45 by45 sz46 ag46 ok46 zc46 zd46 pl46 by46 fl46_0 fl46_1 fl46_2 fl46_3 fl46_4 sz47 ag47 ok47 zc47 zd47 pl47 by47 fl47_0 fl47_1 fl47_2 fl47_3 fl47_4 sz49 ag49 ok49 kk49 iu49 zc49 zd49 by49 sz53 ag53 ok53 sl53 ar53 zc53 zd53 pl53 by53 sz54 ag54 ok54 kk54 iu54 zc54 zd54 by54 sz55 ag55 ok55 kk55 iu55 zc55 zd55 by55 sz56 ag56 ok56 sl56 zc56 zd56 by56 sz57 ag57 ok57 kk57 iu57 zc57 zd57 by57 sz60 ag60 ok60 zc60 zd60 pl60 by60 fl60_0 fl60_1 fl60_2 fl60_3 sz61 ag61 ok61 zc61 zd61 pl61 by61 fl61_0 fl61_1 fl61_2 fl61_3 sz64 ag64 ok64 zc64 by64 sz65 ag65 ok65 zc65 zd65 pl65 by65 fl65_0 fl65_1 sz66 ag66 ok66 zc66 zd66 pl66 by66 fl66_0 fl66_1 sz78 ag78 ok78 sl78 ar78 zc78 zd78 pl78 by78 sz79 ag79 ok79 sl79 ar79 zc79 zd79 pl79 by79 sz81 ag81 ok81 zc81 zd81 pl81 by81 fl81_0 fl81_1 sz82 ag82 ok82 zc82 zd82 pl82 by82 fl82_0 fl82_1 sz84 ag84 ok84 zc84 zd84 pl84 by84 fl84_0 fl84_1 fl84_2 fl84_3 sz85 ag85 ok85 zc85 zd85 pl85 by85 fl85_0 fl85_1 fl85_2 fl85_3 sz92 ag92 ok92 sl92 ar92 zc92 zd92 pl92 by92 sz101 ag101 ok101 zc101 zd101 pl101 by101 fl101_0 fl101_1 sz102 ag102 ok102 zc102 zd102 pl102 by102 fl102_0 fl102_1 sz109 ag109 ok109 zc109 zd109 pl109 by109 fl109_0 fl109_1 fl109_2 sz110 ag110 ok110 zc110 zd110 pl110 by110 fl110_0 fl110_1 fl110_2 sz120 ag120 ok120 sl120 ar120 zc120 zd120 pl120 by120 sz121 ag121 ok121 zc121 zd121 pl121 by121 fl121_0 fl121_1 sz122 ag122 ok122 sl122 ar122 zc122 zd122 pl122 by122 sz130 ag130 ok130 zc130 by130 sz140 ag140 ok140 kk140 iu140 zc140 zd140 by140 sz144 ag144 ok144 zc144 by144
section
attribute [local go_sem] Rg.cs Rg.ds e0R rgS
def nE : Nd := ⟨6, [0], 1, 0, 0, 0, 0, 0, [4, -1], [10], 0, 0, 0, 0, 0⟩
theorem nE_look : lookG 2 (-2) 3 1 [nE] = (0, [1], [2, 1], [1, 1]) := by decide +kernel
theorem nE_rg : rangesV 2 (-2) 3 1 [nE] = (0, [⟨-2, 3, -2, 3⟩, ⟨-1, 24, -1, 24⟩]) := by kernel_rfl
theorem nE_lg : (lookG 2 (-2) 3 1 [nE]).1 = 0 → LG (-2) 3 [nE] (lookG 2 (-2) 3 1 [nE]).2.1 (lookG 2 (-2) 3 1 [nE]).2.2.1 := fun _ => by
  rw [nE_look]
  refine ⟨⟨by decide, by decide⟩, rfl, by decide, fun i hi => ?_, by decide⟩
  obtain rfl : i = 1 := by simpa using hi
  exact ⟨by decide, ⟨by decide, by decide, fun _ => ⟨by decide, by decide, by decide⟩, by decide⟩⟩
attribute [local go_sem] nE
theorem awake20_c {T : World → Prop} (Tk : KT T) : Cg Go.Proofs.Tryd.prog T 22 [] [] (fun r H => H = [] ∧ r = .d (.b true)) := by
  have hR := Ranges_c Tk 2 (-2) 3 1 [nE] (by decide) (by decide) nE_lg
  have hF := Fits20_c Tk 2 (-2) 3 1 [nE] (by decide) (by decide) nE_lg
  rw [nE_rg] at hR hF
  refine Cg_of [] Tk.m Go.Proofs.Tryd.func22 rfl rfl Go.Proofs.Tryd.ntmps22 (by simp) rfl (rs := [.tmp 0]) rfl fun E hP hn hT hpn => ?_
  (repeat (first | refine TS.imp ?_ | refine n9 (by decide) ?_))
  refine TR.imp ?_; intro K hK; simp only [go_sem, hP, hn]; (repeat refine vc ?_); refine hK _ ?_; clear K hK
  (repeat (first | refine TS.imp ?_ | refine n9 (by decide) ?_))
  refine TR.imp ?_; intro K hK; simp only [go_sem, hP, hn]; (repeat refine vc ?_); refine hK _ ?_; clear K hK
  refine Tr.le (Le.freeze 4) ?_
  simp only [go_sem, hP, hn]
  refine Tr.le (Le.freeze 5) ?_
  simp only [go_sem, hP, hn]
  refine Tr.le (Le.freeze 6) ?_
  simp only [go_sem, hP, hn]
  refine Tr.le (Le.freeze 8) ?_
  simp only [go_sem, hP, hn]
  refine Tr.le (Le.keep [1]) ?_; simp only [List.map_cons, List.map_nil, lk, Nat.reduceEqDiff, reduceIte]
  (repeat (first | refine TS.imp ?_ | refine n9 (by decide) ?_))
  refine TR.imp ?_; intro K hK; simp only [go_sem, hP, hn]
  (repeat refine vc ?_)
  refine CallN_cs (Hi := [] ) (by rw [hP, hT]; exact  hR) rfl rfl rfl trivial (by simp only [go_sem, hP, hn]; try trivial) (by simp only [go_sem, hP, hn]; try rfl) (by simp only [inH, go_sem, hP, hn]; try simp) (by rw [hn]; decide) ?_; simp only [go_sem, hP, hn]; (repeat refine vc ?_)
  refine hK _ ?_; clear K hK
  refine Tr.le (Le.keep [1, 2, 3]) ?_; simp only [List.map_cons, List.map_nil, lk, Nat.reduceEqDiff, reduceIte]
  (repeat (first | refine TS.imp ?_ | refine n9 (by decide) ?_))
  refine TR.imp ?_; intro K hK; simp only [go_sem, hP, hn]
  (repeat refine vc ?_)
  refine CallN_gs (Hi := [] ) (fun hg => by rw [hP, hT]; exact  hF) rfl rfl rfl (fun hg => trivial) (fun hg => by clear hK; revert hg; simp only [go_sem, hP, hn] <;> first | trivial | omega | (simp; done) | (simp +contextual; done) | grind) (fun hg => by simp only [go_sem, hP, hn]; try rfl) (by simp only [inH, go_sem, hP, hn]; try simp) (by rw [hn]; decide) ?_; simp only [go_sem, hP, hn]; (repeat refine vc ?_)
  refine hK _ ?_; clear K hK
  (repeat (first | (refine TR.imp ?_; intro K hK; simp only [go_sem, hP, hn]; (repeat refine vc ?_); refine hK _ ?_; clear K hK) | refine TS.imp ?_ | refine n9 (by decide) ?_))
  simp only [RetG, go_sem]; (repeat with_reducible refine vc ?_)
  rfl
attribute [local go_sem] PMade
end
theorem eqRange (a b c d a' b' c' d' : Int) (w : World) : (Op.equalIn 10000 61 (.agg #[.int .i64 a, .int .i64 b, .int .i64 c, .int .i64 d]) (.agg #[.int .i64 a', .int .i64 b', .int .i64 c', .int .i64 d'])).run Go.Proofs.Tryd.prog w = .ok (a == a' && b == b' && c == c' && d == d') w := by
  have u3 : Go.Proofs.Tryd.prog.underlying 3 = some (.int .i64) := by kernel_rfl
  have hS : Go.Proofs.Tryd.prog.underlying 61 = some (.struct (Go.Proofs.Tryd.prog.fieldsOf 61)) := by kernel_rfl
  rw [show (10000 : Nat) = 9999 + 1 from rfl, run_equalIn_agg w 9999 61 _ _ hS (by kernel_rfl)]
  have hag : okT Go.Proofs.Tryd.prog 3 = true := by kernel_rfl
  have hag2 : aggT Go.Proofs.Tryd.prog 3 = false := by kernel_rfl
  have hp : ∀ (cs : Array Value) (off : Nat) (v : Value) (w : World), cs[off]? = some v → (part 3 cs off).run Go.Proofs.Tryd.prog w = .ok v w := fun cs off v w h => by
    unfold part
    rw [Sem.run_bind, run_agg hag, Result.andThen_ok, hag2]
    simp [h]
  simp only [Program.fieldsOf, Go.Proofs.Tryd.underlying61, Op.eqFields, ne_eq, Sem.run_bind]
  have e : ∀ m n w, (Op.equalIn 9999 3 (.int .i64 m) (.int .i64 n)).run Go.Proofs.Tryd.prog w = .ok (m == n) w := fun m n w => run_equalIn_int w 9998 3 .i64 .i64 m n u3
  simp [Sem.run_bind, hp, e, Sem.run_ite]
  by_cases h1 : a = a' <;> by_cases h2 : b = b' <;> by_cases h3 : c = c' <;> by_cases h4 : d = d' <;> simp [h1, h2, h3, h4]
theorem cmpRange (a b c d : Int) : aggE Go.Proofs.Tryd.prog .neq 61 [.d (.i .i64 a), .d (.i .i64 b), .d (.i .i64 c), .d (.i .i64 d)] [.d (.i .i64 a), .d (.i .i64 b), .d (.i .i64 c), .d (.i .i64 d)] false := by
  refine ⟨[.int .i64 a, .int .i64 b, .int .i64 c, .int .i64 d], [.int .i64 a, .int .i64 b, .int .i64 c, .int .i64 d], rfl, rfl, fun x y W => ?_⟩
  rw [Sem.run_bind, run_eqGuard_agg W .neq 61 x y _ _ (by kernel_rfl), Result.andThen_ok, run_neq_struct]
  show ((Op.equalIn 10000 61 (.agg #[.int .i64 a, .int .i64 b, .int .i64 c, .int .i64 d]) (.agg #[.int .i64 a, .int .i64 b, .int .i64 c, .int .i64 d])).run Go.Proofs.Tryd.prog W).andThen _ = _
  rw [eqRange]
  simp
section
attribute [local go_sem] Rg.cs Rg.ds e0R rgS
theorem rgL_len (ns : List Nd) (W : List Int) : ∀ (os : List Int) (out c : List Rg), rgL ns W os out = some c → c.length = out.length
  | [], out, c, h => by simp only [rgL, Option.some.injEq] at h; rw [h]
  | i :: r, out, c, h => by
    simp only [rgL] at h
    split at h
    · cases h
    · simpa using rgL_len ns W r _ c h
theorem ranges_len (wd lo hi out : Int) (ns : List Nd) : (rangesV wd lo hi out ns).2.length ≤ ns.length + 1 := by
  unfold rangesV
  split
  · simp
  · split
    · simp
    · rename_i h; have := rgL_len _ _ _ _ _ h; simp at this; simp; omega
theorem tells20_c {T : World → Prop} (Tk : KT T) (wd lo hi out : Int) (ns : List Nd) (hns : ns.length ≤ 65536) (hin : ∀ n ∈ ns, n.inn.length ≤ 4096 ∧ n.ws.length ≤ 65536 ∧ n.bs.length ≤ 65536) :
    Cg Go.Proofs.Tryd.prog T 24 [] [.agg (gcs wd lo hi out (.d (rowN ns)))] (fun r H => H = [] ∧ r = .d (.b true)) := by
  have cA := Ranges_c Tk wd lo hi out ns hns hin (fun h => (look_lr h).lg)
  have cB := rRanges_c Tk.m wd lo hi out ns hns hin
  have cF := Fits20_c Tk wd lo hi out ns hns hin (fun h => (look_lr h).lg)
  have hRl := ranges_len wd lo hi out ns
  generalize rangesV wd lo hi out ns = X at *
  obtain ⟨e, R⟩ := X
  simp only at cA cB cF hRl
  refine Cg_of [] Tk.m Go.Proofs.Tryd.func24 rfl rfl Go.Proofs.Tryd.ntmps24 (by simp) rfl (rs := [.tmp 2]) rfl fun E hP hn hT hpn => ?_
  (repeat (first | refine TS.imp ?_ | refine n9 (by decide) ?_))
  refine TR.imp ?_; intro K hK; simp only [go_sem, hP, hn]; (repeat refine vc ?_); refine hK _ ?_; clear K hK
  (repeat (first | refine TS.imp ?_ | refine n9 (by decide) ?_))
  refine TR.imp ?_; intro K hK; simp only [go_sem, hP, hn]
  (repeat refine vc ?_)
  refine CallN_cs (Hi := [] ) (by rw [hP, hT]; exact  cA) rfl rfl rfl trivial (by simp only [go_sem, hP, hn]; try trivial) (by simp only [go_sem, hP, hn]; try rfl) (by simp only [inH, go_sem, hP, hn]; try simp) (by rw [hn]; decide) ?_; simp only [go_sem, hP, hn]; (repeat refine vc ?_)
  refine hK _ ?_; clear K hK
  (repeat (first | refine TS.imp ?_ | refine n9 (by decide) ?_))
  refine TR.imp ?_; intro K hK; simp only [go_sem, hP, hn]
  (repeat refine vc ?_)
  refine CallN_cs (Hi := [] ) (by rw [hP, hT]; exact  cB) rfl rfl rfl trivial (by simp only [go_sem, hP, hn]; try trivial) (by simp only [go_sem, hP, hn]; try rfl) (by simp only [inH, go_sem, hP, hn]; try simp) (by rw [hn]; decide) ?_; simp only [go_sem, hP, hn]; (repeat refine vc ?_)
  refine hK _ ?_; clear K hK
  refine Tr.le (Le.keep [1, 2, 3, 4, 5]) ?_; simp only [List.map_cons, List.map_nil, lk, Nat.reduceEqDiff, reduceIte]
  (repeat (first | refine TS.imp ?_ | refine n9 (by decide) ?_))
  (first | refine d1 (.p true 0 (.p true 1 (.p true 2 (.p true 3 (.p true 4 (.p true 5 (.p true 6 (.p true 7 (.p true 8 (.p true 9 (.p true 10 (.p true 11 (.p true 12 (.p true 13 (.p true 15 (.p true 16 (.p true 17 (.alt 14 (.p false 18 (.p false 19 .nil)) .nil)))))))))))))))))) [] (by rw [hP]; kernel_rfl) (by kernel_rfl) (by simp only [go_sem, hP, hn]; try simp) (fun _ _ h => h) fun K hK => ?_ | refine d2 (.p true 0 (.p true 1 (.p true 2 (.p true 3 (.p true 4 (.p true 5 (.p true 6 (.p true 7 (.p true 8 (.p true 9 (.p true 10 (.p true 11 (.p true 12 (.p true 13 (.p true 15 (.p true 16 (.p true 17 (.alt 14 (.p false 18 (.p false 19 .nil)) .nil)))))))))))))))))) [] (by rw [hP]; kernel_rfl) (by kernel_rfl) (by simp only [go_sem, hP, hn]; try simp) (fun _ _ h => h) fun K hK => ?_ | refine d4 (.p true 0 (.p true 1 (.p true 2 (.p true 3 (.p true 4 (.p true 5 (.p true 6 (.p true 7 (.p true 8 (.p true 9 (.p true 10 (.p true 11 (.p true 12 (.p true 13 (.p true 15 (.p true 16 (.p true 17 (.alt 14 (.p false 18 (.p false 19 .nil)) .nil)))))))))))))))))) [] (by rw [hP]; kernel_rfl) (by kernel_rfl) (by simp only [go_sem, hP, hn]; try simp) (fun _ _ h => h) fun K hK => ?_); simp only [go_sem, hP, hn]
  have hee : (e != e) = false := by simp
  have hll : ((R.length : Int) != R.length) = false := by simp
  simp only [hee, hll, Bool.or_false, beq_self_eq_true, forall_const]
  (repeat refine vc ?_)
  refine CallP_gs (fun hg => by rw [hP, hT]; exact cF) rfl rfl rfl (fun hg => trivial) (fun hg => by clear hK; revert hg; simp only [go_sem, hP, hn] <;> first | trivial | omega | (simp; done) | (simp +contextual; done) | grind) (fun hg => by simp only [go_sem, hP, hn]; try rfl) (by rw [hn]; decide) ?_; simp only [go_sem, hP, hn]; (repeat refine vc ?_)
  refine hK _ ?_; clear K hK
  refine Tr.le (Le.keep [2, 3, 5, 33]) ?_; simp only [List.map_cons, List.map_nil, lk, Nat.reduceEqDiff, reduceIte]
  have h33 : (!(e == 0) == (e == 0)) = false := by cases (e == 0) <;> rfl
  rw [h33]
  (repeat (first | refine TS.imp ?_ | refine n9 (by decide) ?_))
  refine Tr.cond rfl (fun hb => ?_) (fun hb => ?_)
  · cases hb
  clear hb h33
  (repeat (first | refine TS.imp ?_ | refine n9 (by decide) ?_))
  refine TR.imp ?_; intro K hK; simp only [go_sem, hP, hn]; (repeat refine vc ?_); refine hK _ ?_; clear K hK
  (repeat (first | refine TS.imp ?_ | refine n9 (by decide) ?_))
  refine Tr.le (Le.keep [2, 3, 5, 6]) ?_; simp only [List.map_cons, List.map_nil, lk, Nat.reduceEqDiff, reduceIte]
  refine Tr.loop (fun q s => ∃ (k : Int), s = ⟨[(2, .d (.b false)), (3, .d (.row e0R (R.map Rg.ds))), (5, .ptr 5 0), (6, .d (.i .i64 k))], [(5, .box 82 [.d (.row e0R (R.map Rg.ds)), .d (.i .i64 e)])]⟩ ∧ 0 ≤ k ∧ k + q = R.length) R.length ⟨_, (Le.mv (by simp only [go_sem, hP, hn]; first | done | (simp; done) | (simp [intC]; done) | (repeat (first | rfl | constructor))) (by simp only [go_sem, hP, hn]; first | done | (simp; done) | (simp [intC]; done) | (repeat (first | rfl | constructor)))), 0, rfl, by omega, by omega⟩ ?_
  rintro q s ⟨k, rfl, k0, kq⟩
  (repeat (first | refine TS.imp ?_ | refine n9 (by decide) ?_))
  refine TR.imp ?_; intro K hK; simp only [go_sem, hP, hn]; (repeat refine vc ?_); refine hK _ ?_; clear K hK
  (repeat (first | refine TS.imp ?_ | refine n9 (by decide) ?_))
  refine Tr.cond rfl (fun hb => ?_) (fun hb => ?_)
  · have hk : k < R.length := by simpa using hb
    clear hb
    have hr := rw_rg R k k0 hk
    generalize rg R k = y at *
    (repeat (first | refine TS.imp ?_ | refine n9 (by decide) ?_))
    (first | refine d1 (.p true 0 (.p true 1 (.p true 2 (.p true 3 (.p true 4 (.p true 5 (.p true 6 (.p true 7 (.p true 8 (.p true 9 .nil)))))))))) [] (by rw [hP]; kernel_rfl) (by kernel_rfl) (by simp only [go_sem, hP, hn]; try simp) (fun _ _ h => h) fun K hK => ?_ | refine d2 (.p true 0 (.p true 1 (.p true 2 (.p true 3 (.p true 4 (.p true 5 (.p true 6 (.p true 7 (.p true 8 (.p true 9 .nil)))))))))) [] (by rw [hP]; kernel_rfl) (by kernel_rfl) (by simp only [go_sem, hP, hn]; try simp) (fun _ _ h => h) fun K hK => ?_ | refine d4 (.p true 0 (.p true 1 (.p true 2 (.p true 3 (.p true 4 (.p true 5 (.p true 6 (.p true 7 (.p true 8 (.p true 9 .nil)))))))))) [] (by rw [hP]; kernel_rfl) (by kernel_rfl) (by simp only [go_sem, hP, hn]; try simp) (fun _ _ h => h) fun K hK => ?_); simp only [go_sem, hP, hn]
    rw [hr]
    simp only [go_sem, hP, hn]
    have hE := cmpRange y.lo y.hi y.al y.ah
    simp only [eqA, beq_self_eq_true, Bool.and_self, Bool.not_true]
    (repeat refine vc ?_)
    refine hK _ ?_; clear K hK
    refine Tr.le (Le.keep [2, 3, 5, 6, 49]) ?_; simp only [List.map_cons, List.map_nil, lk, Nat.reduceEqDiff, reduceIte]
    (repeat (first | refine TS.imp ?_ | refine n9 (by decide) ?_))
    refine Tr.cond rfl (fun hc => ?_) (fun hc => ?_)
    · cases hc
    clear hc
    (repeat (first | refine TS.imp ?_ | refine n9 (by decide) ?_))
    refine TR.imp ?_; intro K hK; simp only [go_sem, hP, hn]; (repeat refine vc ?_); refine hK _ ?_; clear K hK
    (repeat (first | refine TS.imp ?_ | refine n9 (by decide) ?_))
    rw [w64 (x := k + 1) (by omega) (by omega)]
    refine ⟨q - 1, _, by omega, ?_, k + 1, rfl, by omega, by omega⟩
    exact (Le.mv (by simp only [go_sem, hP, hn]; first | done | (simp; done) | (simp [intC]; done) | (repeat (first | rfl | constructor))) (by simp only [go_sem, hP, hn]; first | done | (simp; done) | (simp [intC]; done) | (repeat (first | rfl | constructor))))
  · (repeat (first | (refine TR.imp ?_; intro K hK; simp only [go_sem, hP, hn]; (repeat refine vc ?_); refine hK _ ?_; clear K hK) | refine TS.imp ?_ | refine n9 (by decide) ?_))
    simp only [RetG, go_sem]; (repeat with_reducible refine vc ?_)
end
theorem Ct_ofp {P : Program} {T : World → Prop} {f : FuncId} {fn : Func} {c : Code} {xs : List S} {fr : Bool} {post : S → Prop} (Tm : TP T) (hf : P.funcs[f]? = some fn) (hb : fn.body = some c) (hname : (fn.name == "runtime.NumGoroutine") = false) {n : Nat} (hnn : fn.ntmps = n) (hn : (xs.length ≤ n) = True) {rs : List ResultVar} (hrs : fn.results.toList = rs)
    (h : ∀ E : Env, E.P = P → E.n = n → E.T = T → (∀ k, lh ([] : Hp) k = none → E.pin k = none) → Tr E c (RetQ P rs fr post) ⟨initT 0 xs, []⟩) : Ct P T f xs fr post := by
  subst hnn hrs
  replace hn := of_eq_true hn
  replace h := fun w0 F T0 => h ⟨P, w0, F, fn.ntmps, T, Tm, T0, fun _ => False, fun _ h => h.elim, fun _ => none, fun _ _ => rfl⟩ rfl rfl rfl fun _ _ => rfl
  refine ⟨enters' hf hname (by rw [hb]; rfl), fun F w vs hT hx => ?_⟩
  have hl := RSL_len hx
  refine calls_of_wp hf hb (wp_mono (h w F hT _ w η0 ⟨?_, rfl, ?_, ?_, ?_, ?_, Bel.refl _ _, fun _ _ e => by cases e⟩) ?_)
  · simp; omega
  · intro i
    show RS η0 _ w (lk (initT 0 xs) i) _
    rw [lk_initT, if_pos (Nat.zero_le _), Nat.sub_zero]
    have hsub : Sub F w (Fr ⟨P, w, F, fn.ntmps, T, Tm, hT, fun _ => False, fun _ h => h.elim, fun _ => none, fun _ _ => rfl⟩ [] η0) w := fun b o hb ho => ⟨⟨.inr (.inl hb), fun k o' hk => by simp [lh] at hk⟩, ho⟩
    by_cases hi : i < xs.length
    · obtain ⟨v, h1, h2⟩ := RSL_get hx i xs[i] (by simp [hi])
      have : (vs.toArray ++ Array.replicate (fn.ntmps - vs.toArray.size) undef).getD i undef = v := by
        rw [Array.getD_eq_getD_getElem?, Array.getElem?_append_left (by simp; omega)]
        simp [h1]
      rw [this, List.getD_eq_getElem?_getD]
      simp only [hi, List.getElem?_eq_getElem, Option.getD_some]
      exact RS.mono hsub _ _ h2
    · have : xs.getD i .any = .any := by simp [List.getD, Nat.le_of_not_lt hi]
      rw [this]; simp only [RS]
  · intro k o hk; simp [lh] at hk
  · intro k o g hk; simp [lh] at hk
  · intro k k' o o' _ hk; simp [lh] at hk
  · rintro e a' w' ⟨s', η', hR, hq⟩
    have fin : (resL P s' fn.results.toList).2 ∧ (fr = true → freshS s'.h (oneS (resL P s' fn.results.toList).1)) ∧ post (cv s'.h (oneS (resL P s' fn.results.toList).1)) →
        a'.defers = [] ∧ ∃ v, (results fn a'.tmps).run P w' = .ok v w' ∧ ∃ r v', Ending.returned v = .returned v' ∧ post r ∧ RS η0 (fun b => w.heap.size ≤ b ∨ (fr = false ∧ F b)) w' r v' ∧ Below w.heap.size w w' := by
      rintro ⟨h1, h2, h3⟩
      obtain ⟨v, h4, h5⟩ := res_ok hR h1
      refine ⟨hR.df, v, h4, _, v, rfl, h3, ?_, hR.bel.below fun _ h => h⟩
      cases hfr : fr with
      | true => exact RS_fresh hR (fun b hb => hb.elim .inl fun x => x.elim) _ _ (h2 hfr) h5
      | false => exact RS_cv hR (fun b hb => by
          rcases hb with hb | hb | hb
          · exact .inl hb
          · exact .inr ⟨rfl, hb⟩
          · exact hb.elim) _ _ h5
    cases e <;> simp only [RetQ] at hq
    · exact fin hq
    · exact fin hq
/-- likewise, where a table of the program is read: what it returns lies in blocks of its own -/

def an : List S → List S → Prop
  | [], [] => True
  | c :: cs, c' :: cs' => (c = c' ∨ c' = .any) ∧ an cs cs'
  | _, _ => False
theorem an_ok {η : Nat → Value} {F : Nat → Prop} {w : World} : ∀ {cs cs' : List S} {vs : List Value}, an cs cs' → RSL η F w cs vs → RSL η F w cs' vs
  | [], [], vs, _, r => r
  | c :: cs, c' :: cs', vs, h, r => by
    simp only [an] at h
    simp only [RSL] at r ⊢
    obtain ⟨v, l, e, h1, h2⟩ := r
    refine ⟨v, l, e, ?_, an_ok h.2 h2⟩
    rcases h.1 with h3 | h3
    · rw [← h3]; exact h1
    · rw [h3]; simp only [RS]
/-- cells of a box are forgotten -/
theorem Le.abox {E : Env} {s : St} (k : Nat) {t : TypeId} {cs : List S} (cs' : List S) (hk : lh s.h k = some (.box t cs)) (h : an cs cs') : Le E s (s.upd k (.box t cs')) := fun a w η hR => by
  refine ⟨η, (hR.wrote k _ (.box t cs') hk rfl rfl rfl rfl (fun _ _ => rfl) fun F hs => ?_).1⟩
  obtain ⟨g, vs, h1, h2, h3⟩ := hR.ob k _ hk
  exact ⟨g, vs, h1, h2, RSL.mono hs _ _ (an_ok h h3)⟩
def wtup (q : Int × List Int × List Int × List Int) : S := .agg [.any, .d (.row [.i .i64 0] (q.2.2.1.map intC)), .d (.row [.i .i64 0] (q.2.2.2.map intC)), .d (.i .i64 q.1)]
theorem Look_t {T : World → Prop} (Tm : TP T) (wd lo hi out : Int) (ns : List Nd) (hns : ns.length ≤ 65536) (hin : ∀ n ∈ ns, n.inn.length ≤ 4096 ∧ n.ws.length ≤ 65536 ∧ n.bs.length ≤ 65536) (hok : (lookR wd lo hi out ns).1 = 0) : Ct Go.Proofs.Tryd.prog T 55 [.agg (gcs wd lo hi out (.d (rowN ns)))] true (fun r => r = wtup (lookR wd lo hi out ns)) := by
  refine Ct_ofp Tm Go.Proofs.Tryd.func55 rfl rfl Go.Proofs.Tryd.ntmps55 (by simp) (rs := [.cell 2 85]) rfl fun E hP hn hT hpn => ?_
  (repeat (first | refine TS.imp ?_ | refine n9 (by decide) ?_))
  refine TR.imp ?_; intro K hK; simp only [go_sem, hP, hn]; (repeat refine vc ?_); refine hK _ ?_; clear K hK
  (repeat (first | refine TS.imp ?_ | refine n9 (by decide) ?_))
  refine TR.imp ?_; intro K hK; simp only [go_sem, hP, hn]
  (repeat refine vc ?_)
  refine c1 (by rw [hP, hT]; exact first_r Tm wd lo hi out ns hns (fun n h => by have := hin n h; omega)) rfl rfl rfl trivial (by simp only [go_sem, hP, hn]; try trivial) (by simp only [go_sem, hP, hn]; try rfl) (by rw [hn]; decide) (by rfl) ?_; simp only [go_sem, hP, hn]; (repeat refine vc ?_)
  refine hK _ ?_; clear K hK
  (repeat (first | (refine TR.imp ?_; intro K hK; simp only [go_sem, hP, hn]; (repeat refine vc ?_); refine hK _ ?_; clear K hK) | refine TS.imp ?_ | refine n9 (by decide) ?_))
  refine Tr.cond rfl (fun h1 => ?_) (fun h1 => ?_)
  · exfalso
    rw [show lookR wd lo hi out ns = (mayG wd lo hi out ns, [], [], []) from if_pos h1] at hok
    simp only at hok
    rw [hok] at h1; cases h1
  have hmay : mayG wd lo hi out ns = 0 := bne_eq_false_iff_eq.mp h1
  have hLG : lookR wd lo hi out ns = if decide (((order ns).length : Int) < ns.length) = true then (13, [], [], []) else match lookM ns (order ns) (wd :: List.replicate ns.length 0) (1 :: List.replicate ns.length 0) with | (e, W, R) => if (e != 0) = true then (e, [], [], []) else (0, order ns, W, R) := by
    unfold lookR; rw [if_neg (by rw [h1]; decide)]
  have hN := mayG_ok hmay
  clear h1
  (repeat (first | refine TS.imp ?_ | refine n9 (by decide) ?_))
  refine TR.imp ?_; intro K hK; simp only [go_sem, hP, hn]
  (repeat refine vc ?_)
  refine CallN_cs (Hi := [] ) (by rw [hP, hT]; exact  order_r Tm wd lo hi out ns hN.2.1 (fun n h => by have := hin n h; omega)) rfl rfl rfl trivial (by simp only [go_sem, hP, hn]; try trivial) (by simp only [go_sem, hP, hn]; try rfl) (by simp only [inH, go_sem, hP, hn]; try simp) (by rw [hn]; decide) ?_; simp only [go_sem, hP, hn]; (repeat refine vc ?_)
  refine hK _ ?_; clear K hK
  (repeat (first | (refine TR.imp ?_; intro K hK; simp only [go_sem, hP, hn]; (repeat refine vc ?_); refine hK _ ?_; clear K hK) | refine TS.imp ?_ | refine n9 (by decide) ?_))
  refine Tr.cond rfl (fun h2 => ?_) (fun h2 => ?_)
  · exfalso
    rw [hLG, if_pos h2] at hok; cases hok
  rw [if_neg (by rw [h2]; decide)] at hLG
  have hle := (ordR_length (ns := ns) ns.length []).2
  have hol : (order ns).length = ns.length := by
    have := of_decide_eq_false h2
    have h3 : (order ns).length ≤ ns.length := by
      show (ordR ns ns.length []).length ≤ _
      simpa using hle
    omega
  have hor : ∀ x ∈ order ns, 1 ≤ x ∧ x ≤ ns.length := ordR_range (by simp)
  clear h2 hle
  generalize hos : order ns = os at hLG hol hor ⊢
  (repeat (first | refine TS.imp ?_ | refine n9 (by decide) ?_))
  refine Tr.le (Le.keep [1, 2, 4]) ?_; simp only [List.map_cons, List.map_nil, lk, Nat.reduceEqDiff, reduceIte]
  refine Tr.meet (fun s => s = ⟨[(1, .ptr 1 0), (2, .ptr 2 0), (4, .d (.row [.i .i64 0] (os.map intC))), (5, .ptr 5 0)], [(1, .box 47 (gcs wd lo hi out (.d (rowN ns)))), (2, .box 85 [.d .nil, .d .nil, .d .nil, .d (.i .i64 0)]), (5, .box 85 [.d (.row [.i .i64 0] (os.map intC)), .own 32, .own 37, .d (.i .i64 0)]), (32, .row 3 [.i .i64 0] ((List.replicate (ns.length + 1) 0).map intC)), (37, .row 3 [.i .i64 0] ((List.replicate (ns.length + 1) 0).map intC))]⟩) ?_ ?_
  rotate_left
  · (first | refine d1 (.p true 0 (.p true 1 (.p true 2 (.p true 3 (.p true 4 (.p true 6 (.p true 7 (.p true 8 (.p true 9 (.alt 5 (.alt 10 (.p false 11 (.alt 12 (.alt 13 .nil .nil) .nil)) (.alt 12 (.alt 10 (.p false 11 (.alt 13 .nil .nil)) .nil) .nil)) (.alt 10 (.alt 5 (.p false 11 (.alt 12 (.alt 13 .nil .nil) .nil)) (.alt 12 (.alt 5 (.p false 11 (.alt 13 .nil .nil)) .nil) .nil)) (.alt 12 (.alt 5 (.alt 10 (.p false 11 (.alt 13 .nil .nil)) .nil) (.alt 10 (.alt 5 (.p false 11 (.alt 13 .nil .nil)) .nil) .nil)) .nil)))))))))))) [] (by rw [hP]; kernel_rfl) (by kernel_rfl) (by simp only [go_sem, hP, hn]; try simp) (fun _ _ h => h) fun K hK => ?_ | refine d2 (.p true 0 (.p true 1 (.p true 2 (.p true 3 (.p true 4 (.p true 6 (.p true 7 (.p true 8 (.p true 9 (.alt 5 (.alt 10 (.p false 11 (.alt 12 (.alt 13 .nil .nil) .nil)) (.alt 12 (.alt 10 (.p false 11 (.alt 13 .nil .nil)) .nil) .nil)) (.alt 10 (.alt 5 (.p false 11 (.alt 12 (.alt 13 .nil .nil) .nil)) (.alt 12 (.alt 5 (.p false 11 (.alt 13 .nil .nil)) .nil) .nil)) (.alt 12 (.alt 5 (.alt 10 (.p false 11 (.alt 13 .nil .nil)) .nil) (.alt 10 (.alt 5 (.p false 11 (.alt 13 .nil .nil)) .nil) .nil)) .nil)))))))))))) [] (by rw [hP]; kernel_rfl) (by kernel_rfl) (by simp only [go_sem, hP, hn]; try simp) (fun _ _ h => h) fun K hK => ?_ | refine d4 (.p true 0 (.p true 1 (.p true 2 (.p true 3 (.p true 4 (.p true 6 (.p true 7 (.p true 8 (.p true 9 (.alt 5 (.alt 10 (.p false 11 (.alt 12 (.alt 13 .nil .nil) .nil)) (.alt 12 (.alt 10 (.p false 11 (.alt 13 .nil .nil)) .nil) .nil)) (.alt 10 (.alt 5 (.p false 11 (.alt 12 (.alt 13 .nil .nil) .nil)) (.alt 12 (.alt 5 (.p false 11 (.alt 13 .nil .nil)) .nil) .nil)) (.alt 12 (.alt 5 (.alt 10 (.p false 11 (.alt 13 .nil .nil)) .nil) (.alt 10 (.alt 5 (.p false 11 (.alt 13 .nil .nil)) .nil) .nil)) .nil)))))))))))) [] (by rw [hP]; kernel_rfl) (by kernel_rfl) (by simp only [go_sem, hP, hn]; try simp) (fun _ _ h => h) fun K hK => ?_); simp only [go_sem, hP, hn]
    simp only [show wrap64 ((ns.length : Int) + 1) = ((ns.length + 1 : Nat) : Int) from w64 (by omega) (by omega), Int.toNat_natCast]
    (repeat' (refine And.intro ?_ ?_)); all_goals (first | (refine hK _ ?_; (refine ⟨_, ?_, rfl⟩; exact (Le.mv (by simp only [go_sem, hP, hn]; first | done | (simp; done) | (simp [intC]; done) | (repeat (first | rfl | constructor))) (by simp only [go_sem, hP, hn]; first | done | (simp; done) | (simp [intC]; done) | (repeat (first | rfl | constructor)))))) | (first | trivial | omega | (simp <;> omega) | (simp +contextual; done) | (clear hK; grind)))
  rintro s rfl
  (repeat (first | (refine TR.imp ?_; intro K hK; simp only [go_sem, hP, hn]; (repeat refine vc ?_); refine hK _ ?_; clear K hK) | refine TS.imp ?_ | refine n9 (by decide) ?_))
  rw [show (List.replicate (ns.length + 1) (0 : Int)).set 0 1 = 1 :: List.replicate ns.length 0 from rfl, show (List.replicate (ns.length + 1) (0 : Int)).set 0 wd = wd :: List.replicate ns.length 0 from rfl]
  refine Tr.le (Le.keep [1, 2, 4, 5, 6]) ?_; simp only [List.map_cons, List.map_nil, lk, Nat.reduceEqDiff, reduceIte]
  refine Tr.loop (fun m s => ∃ (k : Int) (W R : List Int), s = ⟨[(1, .ptr 1 0), (2, .ptr 2 0), (4, .d (.row [.i .i64 0] (os.map intC))), (5, .ptr 5 0), (6, .d (.i .i64 k))], [(1, .box 47 (gcs wd lo hi out (.d (rowN ns)))), (2, .box 85 [.d .nil, .d .nil, .d .nil, .d (.i .i64 0)]), (5, .box 85 [.d (.row [.i .i64 0] (os.map intC)), .own 32, .own 37, .d (.i .i64 0)]), (32, .row 3 [.i .i64 0] (W.map intC)), (37, .row 3 [.i .i64 0] (R.map intC))]⟩ ∧ 0 ≤ k ∧ k + m = os.length ∧ W.length = ns.length + 1 ∧ R.length = ns.length + 1 ∧ lookM ns os (wd :: List.replicate ns.length 0) (1 :: List.replicate ns.length 0) = lookM ns (os.drop k.toNat) W R) os.length ⟨_, (Le.mv (by simp only [go_sem, hP, hn]; first | done | (simp; done) | (simp [intC]; done) | (repeat (first | rfl | constructor))) (by simp only [go_sem, hP, hn]; first | done | (simp; done) | (simp [intC]; done) | (repeat (first | rfl | constructor)))), 0, wd :: List.replicate ns.length 0, 1 :: List.replicate ns.length 0, rfl, by omega, by omega, by simp, by simp, rfl⟩ ?_
  rintro m s ⟨k, W, R, rfl, hk0, hkm, hWl, hRl, hL⟩
  (repeat (first | (refine TR.imp ?_; intro K hK; simp only [go_sem, hP, hn]; (repeat refine vc ?_); refine hK _ ?_; clear K hK) | refine TS.imp ?_ | refine n9 (by decide) ?_))
  refine Tr.cond rfl (fun hb => ?_) (fun hb => ?_)
  · have hk1 : k < os.length := by simpa using hb
    rw [drop_rd hk0 hk1, lookM_cons] at hL
    have hiB := hor _ (rd_mem hk0 hk1)
    have hiw : wrap64 (rd os k - 1) = rd os k - 1 := w64 (by omega) (by omega)
    have hnd := rw_nd ns (rd os k - 1) (by omega) (by omega)
    have hmem := nd_mem (ns := ns) (i := rd os k - 1) (by omega) (by omega)
    have hq := hin _ hmem
    have hqi := hN.2.2 _ hmem
    (repeat (first | refine TS.imp ?_ | refine n9 (by decide) ?_))
    refine Tr.meet (fun s => s = ⟨[(1, .ptr 1 0), (2, .ptr 2 0), (4, .d (.row [.i .i64 0] (os.map intC))), (5, .ptr 5 0), (6, .d (.i .i64 k)), (7, .ptr 7 0)], [(7, .box 27 (nd ns (rd os k - 1)).cs), (1, .box 47 (gcs wd lo hi out (.d (rowN ns)))), (2, .box 85 [.d .nil, .d .nil, .d .nil, .d (.i .i64 0)]), (5, .box 85 [.d (.row [.i .i64 0] (os.map intC)), .own 32, .own 37, .d (.i .i64 0)]), (32, .row 3 [.i .i64 0] (W.map intC)), (37, .row 3 [.i .i64 0] (R.map intC))]⟩) ?_ ?_
    rotate_left
    · (first | refine d1 (.p true 0 (.p true 1 (.p true 2 (.p true 3 (.p true 4 (.p true 5 (.p true 6 (.p true 7 (.p true 8 (.alt 9 (.alt 10 .nil .nil) .nil)))))))))) [] (by rw [hP]; kernel_rfl) (by kernel_rfl) (by simp only [go_sem, hP, hn]; try simp) (fun _ _ h => h) fun K hK => ?_ | refine d2 (.p true 0 (.p true 1 (.p true 2 (.p true 3 (.p true 4 (.p true 5 (.p true 6 (.p true 7 (.p true 8 (.alt 9 (.alt 10 .nil .nil) .nil)))))))))) [] (by rw [hP]; kernel_rfl) (by kernel_rfl) (by simp only [go_sem, hP, hn]; try simp) (fun _ _ h => h) fun K hK => ?_ | refine d4 (.p true 0 (.p true 1 (.p true 2 (.p true 3 (.p true 4 (.p true 5 (.p true 6 (.p true 7 (.p true 8 (.alt 9 (.alt 10 .nil .nil) .nil)))))))))) [] (by rw [hP]; kernel_rfl) (by kernel_rfl) (by simp only [go_sem, hP, hn]; try simp) (fun _ _ h => h) fun K hK => ?_); simp only [go_sem, hP, hn]
      simp only [hiw, hnd, go_sem, hP, hn]
      (repeat' (refine And.intro ?_ ?_)); all_goals (first | (refine hK _ ?_; (refine ⟨_, ?_, rfl⟩; exact (Le.mv (by simp only [go_sem, hP, hn]; first | done | (simp; done) | (simp [intC]; done) | (repeat (first | rfl | constructor))) (by simp only [go_sem, hP, hn]; first | done | (simp; done) | (simp [intC]; done) | (repeat (first | rfl | constructor)))))) | (first | trivial | omega | (simp <;> omega) | (simp +contextual; done) | (clear hK; grind)))
    rintro s rfl
    clear hiw hnd hmem
    generalize nd ns (rd os k - 1) = q at hq hqi hL ⊢
    have hqW : ∀ x ∈ q.inn, (0 ≤ x ∧ x < W.length) ∧ x < R.length := fun x hx => by have := hqi x hx; omega
    have hml : (q.inn.map (rd W)).length ≤ 65536 := by rw [List.length_map]; omega
    have hmr : (q.inn.map (rd R)).length ≤ 65536 := by rw [List.length_map]; omega
    (repeat (first | refine TS.imp ?_ | refine n9 (by decide) ?_))
    refine TR.imp ?_; intro K hK; simp only [go_sem, hP, hn]; (repeat refine vc ?_); refine hK _ ?_; clear K hK
    (repeat (first | refine TS.imp ?_ | refine n9 (by decide) ?_))
    refine TR.imp ?_; intro K hK; simp only [go_sem, hP, hn]; (repeat refine vc ?_); refine hK _ ?_; clear K hK
    (repeat (first | refine TS.imp ?_ | refine n9 (by decide) ?_))
    refine TR.imp ?_; intro K hK; simp only [go_sem, hP, hn]; (repeat refine vc ?_); refine hK _ ?_; clear K hK
    (repeat (first | refine TS.imp ?_ | refine n9 (by decide) ?_))
    refine Tr.le (Le.keep [1, 2, 4, 5, 6, 7, 8, 9, 10]) ?_; simp only [List.map_cons, List.map_nil, lk, Nat.reduceEqDiff, reduceIte]
    refine Tr.le (Le.nilslot 3001 8 3 [.i .i64 0] rfl (by rw [hpn] <;> rfl) rfl rfl) ?_
    refine Tr.le (Le.nilslot 3002 9 3 [.i .i64 0] rfl (by rw [hpn] <;> rfl) rfl rfl) ?_
    refine Tr.loop (fun m2 s => ∃ (j : Int), s = ⟨[(1, .ptr 1 0), (2, .ptr 2 0), (4, .d (.row [.i .i64 0] (os.map intC))), (5, .ptr 5 0), (6, .d (.i .i64 k)), (7, .ptr 7 0), (8, .own 3001), (9, .own 3002), (10, .d (.i .i64 j))], [(3001, .row 3 [.i .i64 0] (((q.inn.take j.toNat).map (rd W)).map intC)), (3002, .row 3 [.i .i64 0] (((q.inn.take j.toNat).map (rd R)).map intC)), (7, .box 27 q.cs), (1, .box 47 (gcs wd lo hi out (.d (rowN ns)))), (2, .box 85 [.d .nil, .d .nil, .d .nil, .d (.i .i64 0)]), (5, .box 85 [.d (.row [.i .i64 0] (os.map intC)), .own 32, .own 37, .d (.i .i64 0)]), (32, .row 3 [.i .i64 0] (W.map intC)), (37, .row 3 [.i .i64 0] (R.map intC))]⟩ ∧ 0 ≤ j ∧ j + m2 = q.inn.length) q.inn.length ⟨_, (Le.mv (by simp only [go_sem, hP, hn]; first | done | (simp; done) | (simp [intC]; done) | (repeat (first | rfl | constructor))) (by simp only [go_sem, hP, hn]; first | done | (simp; done) | (simp [intC]; done) | (repeat (first | rfl | constructor)))), 0, rfl, by omega, by omega⟩ ?_
    rintro m2 s ⟨j, rfl, hj0, hjm⟩
    (repeat (first | (refine TR.imp ?_; intro K hK; simp only [go_sem, hP, hn]; (repeat refine vc ?_); refine hK _ ?_; clear K hK) | refine TS.imp ?_ | refine n9 (by decide) ?_))
    refine Tr.cond rfl (fun hc => ?_) (fun hc => ?_)
    · have hj : j < q.inn.length := by simpa using hc
      have hjx := hqW _ (rd_mem hj0 hj)
      have htl : (q.inn.take j.toNat).length = j.toNat := by simp; omega
      refine Tr.le (Le.keep [1, 2, 4, 5, 6, 7, 8, 9, 10]) ?_; simp only [List.map_cons, List.map_nil, lk, Nat.reduceEqDiff, reduceIte]
      (repeat (first | refine TS.imp ?_ | refine n9 (by decide) ?_))
      (first | refine d1 (.p true 0 (.p true 1 (.p true 2 (.p true 3 (.p true 4 (.p true 5 (.p true 6 (.p true 7 (.p true 8 (.p true 9 (.alt 10 (.alt 11 (.p false 12 .nil) .nil) .nil))))))))))) [3001] (by rw [hP]; kernel_rfl) (by kernel_rfl) (by simp only [go_sem, hP, hn]; try simp) (fun _ _ h => h) fun K hK => ?_ | refine d2 (.p true 0 (.p true 1 (.p true 2 (.p true 3 (.p true 4 (.p true 5 (.p true 6 (.p true 7 (.p true 8 (.p true 9 (.alt 10 (.alt 11 (.p false 12 .nil) .nil) .nil))))))))))) [3001] (by rw [hP]; kernel_rfl) (by kernel_rfl) (by simp only [go_sem, hP, hn]; try simp) (fun _ _ h => h) fun K hK => ?_ | refine d4 (.p true 0 (.p true 1 (.p true 2 (.p true 3 (.p true 4 (.p true 5 (.p true 6 (.p true 7 (.p true 8 (.p true 9 (.alt 10 (.alt 11 (.p false 12 .nil) .nil) .nil))))))))))) [3001] (by rw [hP]; kernel_rfl) (by kernel_rfl) (by simp only [go_sem, hP, hn]; try simp) (fun _ _ h => h) fun K hK => ?_); simp only [go_sem, hP, hn]
      simp only [htl]
      (repeat refine vc ?_)
      refine hK _ ?_; clear K hK
      refine Tr.le (Le.keep [1, 2, 4, 5, 6, 7, 8, 9, 10]) ?_; simp only [List.map_cons, List.map_nil, lk, Nat.reduceEqDiff, reduceIte]
      (repeat (first | refine TS.imp ?_ | refine n9 (by decide) ?_))
      (first | refine d1 (.p true 0 (.p true 1 (.p true 2 (.p true 3 (.p true 4 (.p true 5 (.p true 6 (.p true 7 (.p true 8 (.p true 9 (.alt 10 (.alt 11 (.p false 12 .nil) .nil) .nil))))))))))) [3002] (by rw [hP]; kernel_rfl) (by kernel_rfl) (by simp only [go_sem, hP, hn]; try simp) (fun _ _ h => h) fun K hK => ?_ | refine d2 (.p true 0 (.p true 1 (.p true 2 (.p true 3 (.p true 4 (.p true 5 (.p true 6 (.p true 7 (.p true 8 (.p true 9 (.alt 10 (.alt 11 (.p false 12 .nil) .nil) .nil))))))))))) [3002] (by rw [hP]; kernel_rfl) (by kernel_rfl) (by simp only [go_sem, hP, hn]; try simp) (fun _ _ h => h) fun K hK => ?_ | refine d4 (.p true 0 (.p true 1 (.p true 2 (.p true 3 (.p true 4 (.p true 5 (.p true 6 (.p true 7 (.p true 8 (.p true 9 (.alt 10 (.alt 11 (.p false 12 .nil) .nil) .nil))))))))))) [3002] (by rw [hP]; kernel_rfl) (by kernel_rfl) (by simp only [go_sem, hP, hn]; try simp) (fun _ _ h => h) fun K hK => ?_); simp only [go_sem, hP, hn]
      simp only [htl]
      (repeat refine vc ?_)
      refine hK _ ?_; clear K hK
      (repeat (first | (refine TR.imp ?_; intro K hK; simp only [go_sem, hP, hn]; (repeat refine vc ?_); refine hK _ ?_; clear K hK) | refine TS.imp ?_ | refine n9 (by decide) ?_))
      rw [w64 (x := j + 1) (by omega) (by omega)]
      have htk : (q.inn.take (j + 1).toNat).map (rd W) = (q.inn.take j.toNat).map (rd W) ++ [rd W (rd q.inn j)] := by rw [take_rd hj0 hj, List.map_append]; rfl
      have htk2 : (q.inn.take (j + 1).toNat).map (rd R) = (q.inn.take j.toNat).map (rd R) ++ [rd R (rd q.inn j)] := by rw [take_rd hj0 hj, List.map_append]; rfl
      refine ⟨m2 - 1, _, by omega, ?_, j + 1, rfl, by omega, by omega⟩
      rw [htk, htk2]
      refine Le.trans (b := ⟨[(1, .ptr 1 0), (2, .ptr 2 0), (4, .d (.row [.i .i64 0] (os.map intC))), (5, .ptr 5 0), (6, .d (.i .i64 k)), (7, .ptr 7 0), (8, .own 80), (9, .own 92), (10, .d (.i .i64 (j + 1)))], [(80, .row 3 [.i .i64 0] (((q.inn.take j.toNat).map (rd W) ++ [rd W (rd q.inn j)]).map intC)), (92, .row 3 [.i .i64 0] (((q.inn.take j.toNat).map (rd R) ++ [rd R (rd q.inn j)]).map intC)), (7, .box 27 q.cs), (1, .box 47 (gcs wd lo hi out (.d (rowN ns)))), (2, .box 85 [.d .nil, .d .nil, .d .nil, .d (.i .i64 0)]), (5, .box 85 [.d (.row [.i .i64 0] (os.map intC)), .own 32, .own 37, .d (.i .i64 0)]), (32, .row 3 [.i .i64 0] (W.map intC)), (37, .row 3 [.i .i64 0] (R.map intC))]⟩) (Le.mv (by simp only [go_sem, hP, hn]; first | done | (simp; done) | (simp [intC]; done) | (repeat (first | rfl | constructor))) (by simp only [go_sem, hP, hn]; first | done | (simp; done) | (simp [intC]; done) | (repeat (first | rfl | constructor)))) ?_
      refine Le.trans (Le.ren 80 3001 (by rw [hpn] <;> rfl) rfl rfl) ?_; simp only [renT, renH, renO, renS, renL, rn, go_sem, hP, hn]
      refine Le.trans (Le.ren 92 3002 (by rw [hpn] <;> rfl) rfl rfl) ?_; simp only [renT, renH, renO, renS, renL, rn, go_sem, hP, hn]
      exact (Le.mv (by simp only [go_sem, hP, hn]; first | done | (simp; done) | (simp [intC]; done) | (repeat (first | rfl | constructor))) (by simp only [go_sem, hP, hn]; first | done | (simp; done) | (simp [intC]; done) | (repeat (first | rfl | constructor))))
    · rw [List.take_of_length_le (by have := of_decide_eq_false hc; omega)]
      (repeat (first | refine TS.imp ?_ | refine n9 (by decide) ?_))
      refine Tr.le (Le.keep [1, 2, 4, 5, 6, 7, 8, 9]) ?_; simp only [List.map_cons, List.map_nil, lk, Nat.reduceEqDiff, reduceIte]
      (repeat (first | refine TS.imp ?_ | refine n9 (by decide) ?_))
      refine TR.imp ?_; intro K hK; simp only [go_sem, hP, hn]; (repeat refine vc ?_); refine c1 (by rw [hP, hT]; exact Check_r Tm q (q.inn.map (rd W)) (by omega) (by omega) hml (by omega)) rfl rfl rfl trivial (by simp only [go_sem, hP, hn]; try trivial) (by simp only [go_sem, hP, hn]; try rfl) (by rw [hn]; decide) (by rfl) ?_; simp only [go_sem, hP, hn]; (repeat refine vc ?_); refine hK _ ?_; clear K hK
      (repeat (first | (refine TR.imp ?_; intro K hK; simp only [go_sem, hP, hn]; (repeat refine vc ?_); refine hK _ ?_; clear K hK) | refine TS.imp ?_ | refine n9 (by decide) ?_))
      refine Tr.cond rfl (fun hd => ?_) (fun hd => ?_)
      · rw [if_pos hd] at hL
        (repeat (first | refine TS.imp ?_ | refine n9 (by decide) ?_))
        exfalso
        rw [hLG, hL] at hok
        simp only [if_pos hd] at hok
        rw [hok] at hd; cases hd
      rw [if_neg (by rw [hd]; decide)] at hL
      have hc0 : q.rchk (q.inn.map (rd W)) = 0 := bne_eq_false_iff_eq.mp hd
      have hpos : 0 < q.inn.length := by
        rcases Nat.eq_zero_or_pos q.inn.length with h | h
        · rw [List.eq_nil_of_length_eq_zero h, ← chk_eq] at hc0; exact absurd hc0 (Nd.chk_ne q)
        · exact h
      (repeat (first | refine TS.imp ?_ | refine n9 (by decide) ?_))
      refine Tr.le (Le.keep [1, 2, 4, 5, 6, 7, 8, 9]) ?_; simp only [List.map_cons, List.map_nil, lk, Nat.reduceEqDiff, reduceIte]
      (first | refine d1 (.p true 0 (.p true 1 (.p true 2 (.p true 3 (.p true 4 (.p true 5 (.p true 6 (.p true 7 (.alt 8 (.p true 9 (.alt 10 .nil .nil)) .nil))))))))) [32] (by rw [hP]; kernel_rfl) (by kernel_rfl) (by simp only [go_sem, hP, hn]; try simp) (fun _ _ h => h) fun K hK => ?_ | refine d2 (.p true 0 (.p true 1 (.p true 2 (.p true 3 (.p true 4 (.p true 5 (.p true 6 (.p true 7 (.alt 8 (.p true 9 (.alt 10 .nil .nil)) .nil))))))))) [32] (by rw [hP]; kernel_rfl) (by kernel_rfl) (by simp only [go_sem, hP, hn]; try simp) (fun _ _ h => h) fun K hK => ?_ | refine d4 (.p true 0 (.p true 1 (.p true 2 (.p true 3 (.p true 4 (.p true 5 (.p true 6 (.p true 7 (.alt 8 (.p true 9 (.alt 10 .nil .nil)) .nil))))))))) [32] (by rw [hP]; kernel_rfl) (by kernel_rfl) (by simp only [go_sem, hP, hn]; try simp) (fun _ _ h => h) fun K hK => ?_); simp only [go_sem, hP, hn]
      (repeat refine vc ?_)
      refine p1 (by rw [hP, hT]; exact Width_r Tm q (q.inn.map (rd W)) (by omega) (by omega) hml (by omega)) rfl rfl rfl trivial (by simp only [go_sem, hP, hn]; try trivial) (by simp only [go_sem, hP, hn]; try rfl) (by rw [hn]; decide) (by rfl) ?_; simp only [go_sem, hP, hn]; (repeat refine vc ?_)
      refine hK _ ?_; clear K hK
      refine Tr.le (Le.keep [1, 2, 4, 5, 6, 7, 8, 9]) ?_; simp only [List.map_cons, List.map_nil, lk, Nat.reduceEqDiff, reduceIte]
      (first | refine d1 (.p true 0 (.p true 1 (.p true 2 (.p true 3 (.p true 4 (.p true 5 (.p true 6 (.p true 7 (.alt 8 (.p true 9 (.alt 10 .nil .nil)) .nil))))))))) [37] (by rw [hP]; kernel_rfl) (by kernel_rfl) (by simp only [go_sem, hP, hn]; try simp) (fun _ _ h => h) fun K hK => ?_ | refine d2 (.p true 0 (.p true 1 (.p true 2 (.p true 3 (.p true 4 (.p true 5 (.p true 6 (.p true 7 (.alt 8 (.p true 9 (.alt 10 .nil .nil)) .nil))))))))) [37] (by rw [hP]; kernel_rfl) (by kernel_rfl) (by simp only [go_sem, hP, hn]; try simp) (fun _ _ h => h) fun K hK => ?_ | refine d4 (.p true 0 (.p true 1 (.p true 2 (.p true 3 (.p true 4 (.p true 5 (.p true 6 (.p true 7 (.alt 8 (.p true 9 (.alt 10 .nil .nil)) .nil))))))))) [37] (by rw [hP]; kernel_rfl) (by kernel_rfl) (by simp only [go_sem, hP, hn]; try simp) (fun _ _ h => h) fun K hK => ?_); simp only [go_sem, hP, hn]
      (repeat refine vc ?_)
      refine p1 (by rw [hP, hT]; exact rate16_r Tm q (q.inn.map (rd R)) (by simpa using hpos) hmr) rfl rfl rfl trivial (by simp only [go_sem, hP, hn]; try trivial) (by simp only [go_sem, hP, hn]; try rfl) (by rw [hn]; decide) (by rfl) ?_; simp only [go_sem, hP, hn]; (repeat refine vc ?_)
      refine hK _ ?_; clear K hK
      refine Tr.le (Le.keep [1, 2, 4, 5, 6, 7, 8, 9]) ?_; simp only [List.map_cons, List.map_nil, lk, Nat.reduceEqDiff, reduceIte]
      (first | refine d1 (.p true 0 (.p true 1 (.p true 2 (.p true 3 (.p true 4 (.p true 5 (.p true 6 (.p true 7 (.p true 8 .nil))))))))) [] (by rw [hP]; kernel_rfl) (by kernel_rfl) (by simp only [go_sem, hP, hn]; try simp) (fun _ _ h => h) fun K hK => ?_ | refine d2 (.p true 0 (.p true 1 (.p true 2 (.p true 3 (.p true 4 (.p true 5 (.p true 6 (.p true 7 (.p true 8 .nil))))))))) [] (by rw [hP]; kernel_rfl) (by kernel_rfl) (by simp only [go_sem, hP, hn]; try simp) (fun _ _ h => h) fun K hK => ?_ | refine d4 (.p true 0 (.p true 1 (.p true 2 (.p true 3 (.p true 4 (.p true 5 (.p true 6 (.p true 7 (.p true 8 .nil))))))))) [] (by rw [hP]; kernel_rfl) (by kernel_rfl) (by simp only [go_sem, hP, hn]; try simp) (fun _ _ h => h) fun K hK => ?_); simp only [go_sem, hP, hn]
      simp only [List.length_set]
      (repeat refine vc ?_)
      rw [rd_set_same (by omega) (by omega)]
      refine hK _ ?_; clear K hK
      refine Tr.cond rfl (fun he => ?_) (fun he => ?_)
      · rw [if_pos he] at hL
        (repeat (first | refine TS.imp ?_ | refine n9 (by decide) ?_))
        exfalso
        rw [hLG, hL] at hok; cases hok
      rw [if_neg (by rw [he]; decide)] at hL
      (repeat (first | (refine TR.imp ?_; intro K hK; simp only [go_sem, hP, hn]; (repeat refine vc ?_); refine hK _ ?_; clear K hK) | refine TS.imp ?_ | refine n9 (by decide) ?_))
      rw [w64 (x := k + 1) (by omega) (by omega)]
      refine ⟨m - 1, _, by omega, ?_, k + 1, W.set (rd os k).toNat (q.rwide (q.inn.map (rd W))), R.set (rd os k).toNat (q.rate (q.inn.map (rd R))), rfl, by omega, by omega, by simpa using hWl, by simpa using hRl, hL⟩
      exact (Le.mv (by simp only [go_sem, hP, hn]; first | done | (simp; done) | (simp [intC]; done) | (repeat (first | rfl | constructor))) (by simp only [go_sem, hP, hn]; first | done | (simp; done) | (simp [intC]; done) | (repeat (first | rfl | constructor))))
  rw [drop_end (by simpa using hb)] at hL
  (repeat (first | refine TS.imp ?_ | refine n9 (by decide) ?_))
  refine TR.imp ?_; intro K hK; simp only [go_sem, hP, hn]; (repeat refine vc ?_); refine hK _ ?_; clear K hK
  refine Tr.le (Le.abox 2 [.any, .own 32, .own 37, .d (.i .i64 0)] rfl (by simp [an])) ?_
  (repeat (first | (refine TR.imp ?_; intro K hK; simp only [go_sem, hP, hn]; (repeat refine vc ?_); refine hK _ ?_; clear K hK) | refine TS.imp ?_ | refine n9 (by decide) ?_))
  simp only [RetQ, go_sem]
  refine ⟨by decide, ⟨flat_ints W, flat_ints R⟩, ?_⟩
  rw [hLG, hL]; rfl
section
attribute [local go_sem] wtup
def ndC (o : Int) (x : S) : List S := [.d (.i .i64 6), .d (.row [.i .i64 0] [[.i .i64 o]]), .d (.i .i64 4), .d (.i .i64 0), .d (.i .i64 0), .d (.i .i64 0), .d (.i .i64 0), .d (.i .i64 0), x, .d (.row [.i .i64 0] [[.i .i64 0], [.i .i64 0], [.i .i64 0], [.i .i64 0]]), .d (.i .i64 0), .d (.i .i64 0), .d (.i .i64 0), .d (.i .i64 0), .d (.i .i64 0)]
attribute [local go_sem] ndC
def nBh (o : Int) (V : List Int) : Nd := ⟨6, [o], 4, 0, 0, 0, 0, 0, V, [0, 0, 0, 0], 0, 0, 0, 0, 0⟩
def PBehind (wd lo hi : Int) (r : S) : Prop := ∃ ns' out', r = .agg (gcs wd lo hi out' (.d (rowN ns'))) ∧ ns'.length ≤ 65536 ∧ ∀ n ∈ ns', n.inn.length ≤ 4096 ∧ n.ws.length ≤ 65536 ∧ n.bs.length ≤ 65536
theorem behind_c {T : World → Prop} (Tm : TP T) (wd lo hi out more sign : Int) (ns : List Nd) (hns : ns.length ≤ 65536) (hin : ∀ n ∈ ns, n.inn.length ≤ 4096 ∧ n.ws.length ≤ 65536 ∧ n.bs.length ≤ 65536) (hok : (lookG wd lo hi out ns).1 = 0) (hm : 0 ≤ more ∧ more ≤ 3) :
    Cg Go.Proofs.Tryd.prog T 25 [] [.agg (gcs wd lo hi out (.d (rowN ns))), .d (.i .i64 more), .d (.i .i64 sign)] (fun r H => H = [] ∧ PBehind wd lo hi r) := by
  have hLR := look_lr hok
  have cL := Look_t Tm wd lo hi out ns hns hin (by rw [← look_same]; exact hok)
  rw [← look_same] at cL
  have hwl := hLR.lg.wl
  have hw16 := hLR.lg.w16
  have hn12 := hLR.n12
  have hout := hLR.out
  generalize (lookG wd lo hi out ns) = X at *
  obtain ⟨e, os, W, R⟩ := X
  simp only at hwl hw16 cL hok
  subst hok
  have hw := hw16 _ (rd_mem (l := W) (j := out) (by omega) (by omega))
  refine Cg_of [] Tm Go.Proofs.Tryd.func25 rfl rfl Go.Proofs.Tryd.ntmps25 (by simp) rfl (rs := [.cell 6 47]) rfl fun E hP hn hT hpn => ?_
  (repeat (first | refine TS.imp ?_ | refine n9 (by decide) ?_))
  refine TR.imp ?_; intro K hK; simp only [go_sem, hP, hn]; (repeat refine vc ?_); refine hK _ ?_; clear K hK
  (repeat (first | refine TS.imp ?_ | refine n9 (by decide) ?_))
  refine TR.imp ?_; intro K hK; simp only [go_sem, hP, hn]; (repeat refine vc ?_); refine hK _ ?_; clear K hK
  refine Tr.le (Le.ren 14 3001 (by rw [hpn] <;> rfl) rfl rfl) ?_; simp only [renT, renH, renO, renS, renL, rn, go_sem, hP, hn]
  (repeat (first | refine TS.imp ?_ | refine n9 (by decide) ?_))
  (first | refine d1 (.p true 0 (.p true 3 (.p true 4 (.alt 1 (.p false 2 (.p false 5 (.alt 6 (.p false 7 .nil) .nil))) .nil)))) [] (by rw [hP]; kernel_rfl) (by kernel_rfl) (by simp only [go_sem, hP, hn]; try simp) (fun _ _ h => h) fun K hK => ?_ | refine d2 (.p true 0 (.p true 3 (.p true 4 (.alt 1 (.p false 2 (.p false 5 (.alt 6 (.p false 7 .nil) .nil))) .nil)))) [] (by rw [hP]; kernel_rfl) (by kernel_rfl) (by simp only [go_sem, hP, hn]; try simp) (fun _ _ h => h) fun K hK => ?_ | refine d4 (.p true 0 (.p true 3 (.p true 4 (.alt 1 (.p false 2 (.p false 5 (.alt 6 (.p false 7 .nil) .nil))) .nil)))) [] (by rw [hP]; kernel_rfl) (by kernel_rfl) (by simp only [go_sem, hP, hn]; try simp) (fun _ _ h => h) fun K hK => ?_); simp only [go_sem, hP, hn]
  (repeat refine vc ?_)
  refine p1 (by rw [hP, hT]; exact cL) rfl rfl rfl trivial (by simp only [go_sem, hP, hn]; try trivial) (by simp only [go_sem, hP, hn]; try rfl) (by rw [hn]; decide) (by rfl) ?_; simp only [go_sem, hP, hn]; (repeat refine vc ?_)
  refine hK _ ?_; clear K hK
  refine Tr.le (Le.keep [1, 2, 3, 6, 7]) ?_; simp only [List.map_cons, List.map_nil, lk, Nat.reduceEqDiff, reduceIte]
  generalize rd W out = w at *
  clear hwl hw16 hLR cL
  obtain ⟨w, rfl⟩ : ∃ v : Nat, w = v := ⟨w.toNat, by omega⟩
  (repeat (first | refine TS.imp ?_ | refine n9 (by decide) ?_))
  refine TR.imp ?_; intro K hK; simp only [go_sem, hP, hn]; (repeat refine vc ?_); refine hK _ ?_; clear K hK
  (repeat (first | refine TS.imp ?_ | refine n9 (by decide) ?_))
  refine Tr.le (Le.keep [1, 2, 3, 6, 7, 8]) ?_; simp only [List.map_cons, List.map_nil, lk, Nat.reduceEqDiff, reduceIte]
  refine Tr.loop (fun q s => ∃ (i o : Int) (w : Nat) (M : List Nd), s = ⟨[(1, .d (.i .i64 more)), (2, .d (.i .i64 sign)), (3, .ptr 3 0), (6, .ptr 6 0), (7, .d (.i .i64 w)), (8, .d (.i .i64 i))], [(3, .box 47 (gcs wd lo hi o (.own 3001))), (3001, .row 27 e0N (M.map Nd.ds)), (6, .box 47 (gcs 0 0 0 0 (.d .nil)))]⟩ ∧ 0 ≤ i ∧ i + q = more ∧ w ≤ 16 ∧ M.length = ns.length + i ∧ ∀ n ∈ M, n.inn.length ≤ 4096 ∧ n.ws.length ≤ 65536 ∧ n.bs.length ≤ 65536) more.toNat ⟨_, (Le.mv (by simp only [go_sem, hP, hn]; first | done | (simp; done) | (simp [intC]; done) | (repeat (first | rfl | constructor))) (by simp only [go_sem, hP, hn]; first | done | (simp; done) | (simp [intC]; done) | (repeat (first | rfl | constructor)))), 0, out, w, ns, rfl, by omega, by omega, by omega, by omega, hin⟩ ?_
  rintro q s ⟨i, o, w, M, rfl, i0, iq, hw16, hMl, hM⟩
  (repeat (first | refine TS.imp ?_ | refine n9 (by decide) ?_))
  refine TR.imp ?_; intro K hK; simp only [go_sem, hP, hn]; (repeat refine vc ?_); refine hK _ ?_; clear K hK
  refine Tr.cond rfl (fun hb => ?_) (fun hb => ?_)
  · have hii : i < more := by simpa using hb
    clear hb
    have g4 : wrap64 (4 * (w : Int)) = ((4 * w : Nat) : Int) := by rw [w64 (by omega) (by omega)]; omega
    refine Tr.skip ?_
    refine n1 ?_
    refine Tr.seq ?_
    refine Tr.block ?_
    refine Tr.seq ?_
    refine Tr.meet (fun s => s = ⟨[(1, .d (.i .i64 more)), (2, .d (.i .i64 sign)), (3, .ptr 3 0), (6, .ptr 6 0), (8, .d (.i .i64 i)), (9, .ptr 9 0)], [(9, .box 27 (ndC o (.own 33))), (33, .row 3 [.i .i64 0] ((List.replicate (4 * w) 0).map intC)), (3, .box 47 (gcs wd lo hi o (.own 3001))), (3001, .row 27 e0N (M.map Nd.ds)), (6, .box 47 (gcs 0 0 0 0 (.d .nil)))]⟩) ?_ ?_
    rotate_left
    · (first | refine d1 (.p true 0 (.p true 1 (.p true 3 (.p true 4 (.alt 2 (.alt 5 (.alt 6 (.p false 7 (.alt 8 (.alt 9 .nil .nil) .nil)) (.alt 8 (.alt 6 (.p false 7 (.alt 9 .nil .nil)) .nil) .nil)) (.alt 6 (.alt 5 (.p false 7 (.alt 8 (.alt 9 .nil .nil) .nil)) (.alt 8 (.alt 5 (.p false 7 (.alt 9 .nil .nil)) .nil) .nil)) (.alt 8 (.alt 5 (.alt 6 (.p false 7 (.alt 9 .nil .nil)) .nil) (.alt 6 (.alt 5 (.p false 7 (.alt 9 .nil .nil)) .nil) .nil)) .nil))) (.alt 5 (.alt 2 (.alt 6 (.p false 7 (.alt 8 (.alt 9 .nil .nil) .nil)) (.alt 8 (.alt 6 (.p false 7 (.alt 9 .nil .nil)) .nil) .nil)) (.alt 6 (.alt 2 (.p false 7 (.alt 8 (.alt 9 .nil .nil) .nil)) (.alt 8 (.alt 2 (.p false 7 (.alt 9 .nil .nil)) .nil) .nil)) (.alt 8 (.alt 2 (.alt 6 (.p false 7 (.alt 9 .nil .nil)) .nil) (.alt 6 (.alt 2 (.p false 7 (.alt 9 .nil .nil)) .nil) .nil)) .nil))) (.alt 6 (.alt 2 (.alt 5 (.p false 7 (.alt 8 (.alt 9 .nil .nil) .nil)) (.alt 8 (.alt 5 (.p false 7 (.alt 9 .nil .nil)) .nil) .nil)) (.alt 5 (.alt 2 (.p false 7 (.alt 8 (.alt 9 .nil .nil) .nil)) (.alt 8 (.alt 2 (.p false 7 (.alt 9 .nil .nil)) .nil) .nil)) (.alt 8 (.alt 2 (.alt 5 (.p false 7 (.alt 9 .nil .nil)) .nil) (.alt 5 (.alt 2 (.p false 7 (.alt 9 .nil .nil)) .nil) .nil)) .nil))) (.alt 8 (.alt 2 (.alt 5 (.alt 6 (.p false 7 (.alt 9 .nil .nil)) .nil) (.alt 6 (.alt 5 (.p false 7 (.alt 9 .nil .nil)) .nil) .nil)) (.alt 5 (.alt 2 (.alt 6 (.p false 7 (.alt 9 .nil .nil)) .nil) (.alt 6 (.alt 2 (.p false 7 (.alt 9 .nil .nil)) .nil) .nil)) (.alt 6 (.alt 2 (.alt 5 (.p false 7 (.alt 9 .nil .nil)) .nil) (.alt 5 (.alt 2 (.p false 7 (.alt 9 .nil .nil)) .nil) .nil)) .nil))) .nil)))))))) [] (by rw [hP]; kernel_rfl) (by kernel_rfl) (by simp only [go_sem, hP, hn]; try simp) (fun _ _ h => h) fun K hK => ?_ | refine d2 (.p true 0 (.p true 1 (.p true 3 (.p true 4 (.alt 2 (.alt 5 (.alt 6 (.p false 7 (.alt 8 (.alt 9 .nil .nil) .nil)) (.alt 8 (.alt 6 (.p false 7 (.alt 9 .nil .nil)) .nil) .nil)) (.alt 6 (.alt 5 (.p false 7 (.alt 8 (.alt 9 .nil .nil) .nil)) (.alt 8 (.alt 5 (.p false 7 (.alt 9 .nil .nil)) .nil) .nil)) (.alt 8 (.alt 5 (.alt 6 (.p false 7 (.alt 9 .nil .nil)) .nil) (.alt 6 (.alt 5 (.p false 7 (.alt 9 .nil .nil)) .nil) .nil)) .nil))) (.alt 5 (.alt 2 (.alt 6 (.p false 7 (.alt 8 (.alt 9 .nil .nil) .nil)) (.alt 8 (.alt 6 (.p false 7 (.alt 9 .nil .nil)) .nil) .nil)) (.alt 6 (.alt 2 (.p false 7 (.alt 8 (.alt 9 .nil .nil) .nil)) (.alt 8 (.alt 2 (.p false 7 (.alt 9 .nil .nil)) .nil) .nil)) (.alt 8 (.alt 2 (.alt 6 (.p false 7 (.alt 9 .nil .nil)) .nil) (.alt 6 (.alt 2 (.p false 7 (.alt 9 .nil .nil)) .nil) .nil)) .nil))) (.alt 6 (.alt 2 (.alt 5 (.p false 7 (.alt 8 (.alt 9 .nil .nil) .nil)) (.alt 8 (.alt 5 (.p false 7 (.alt 9 .nil .nil)) .nil) .nil)) (.alt 5 (.alt 2 (.p false 7 (.alt 8 (.alt 9 .nil .nil) .nil)) (.alt 8 (.alt 2 (.p false 7 (.alt 9 .nil .nil)) .nil) .nil)) (.alt 8 (.alt 2 (.alt 5 (.p false 7 (.alt 9 .nil .nil)) .nil) (.alt 5 (.alt 2 (.p false 7 (.alt 9 .nil .nil)) .nil) .nil)) .nil))) (.alt 8 (.alt 2 (.alt 5 (.alt 6 (.p false 7 (.alt 9 .nil .nil)) .nil) (.alt 6 (.alt 5 (.p false 7 (.alt 9 .nil .nil)) .nil) .nil)) (.alt 5 (.alt 2 (.alt 6 (.p false 7 (.alt 9 .nil .nil)) .nil) (.alt 6 (.alt 2 (.p false 7 (.alt 9 .nil .nil)) .nil) .nil)) (.alt 6 (.alt 2 (.alt 5 (.p false 7 (.alt 9 .nil .nil)) .nil) (.alt 5 (.alt 2 (.p false 7 (.alt 9 .nil .nil)) .nil) .nil)) .nil))) .nil)))))))) [] (by rw [hP]; kernel_rfl) (by kernel_rfl) (by simp only [go_sem, hP, hn]; try simp) (fun _ _ h => h) fun K hK => ?_ | refine d4 (.p true 0 (.p true 1 (.p true 3 (.p true 4 (.alt 2 (.alt 5 (.alt 6 (.p false 7 (.alt 8 (.alt 9 .nil .nil) .nil)) (.alt 8 (.alt 6 (.p false 7 (.alt 9 .nil .nil)) .nil) .nil)) (.alt 6 (.alt 5 (.p false 7 (.alt 8 (.alt 9 .nil .nil) .nil)) (.alt 8 (.alt 5 (.p false 7 (.alt 9 .nil .nil)) .nil) .nil)) (.alt 8 (.alt 5 (.alt 6 (.p false 7 (.alt 9 .nil .nil)) .nil) (.alt 6 (.alt 5 (.p false 7 (.alt 9 .nil .nil)) .nil) .nil)) .nil))) (.alt 5 (.alt 2 (.alt 6 (.p false 7 (.alt 8 (.alt 9 .nil .nil) .nil)) (.alt 8 (.alt 6 (.p false 7 (.alt 9 .nil .nil)) .nil) .nil)) (.alt 6 (.alt 2 (.p false 7 (.alt 8 (.alt 9 .nil .nil) .nil)) (.alt 8 (.alt 2 (.p false 7 (.alt 9 .nil .nil)) .nil) .nil)) (.alt 8 (.alt 2 (.alt 6 (.p false 7 (.alt 9 .nil .nil)) .nil) (.alt 6 (.alt 2 (.p false 7 (.alt 9 .nil .nil)) .nil) .nil)) .nil))) (.alt 6 (.alt 2 (.alt 5 (.p false 7 (.alt 8 (.alt 9 .nil .nil) .nil)) (.alt 8 (.alt 5 (.p false 7 (.alt 9 .nil .nil)) .nil) .nil)) (.alt 5 (.alt 2 (.p false 7 (.alt 8 (.alt 9 .nil .nil) .nil)) (.alt 8 (.alt 2 (.p false 7 (.alt 9 .nil .nil)) .nil) .nil)) (.alt 8 (.alt 2 (.alt 5 (.p false 7 (.alt 9 .nil .nil)) .nil) (.alt 5 (.alt 2 (.p false 7 (.alt 9 .nil .nil)) .nil) .nil)) .nil))) (.alt 8 (.alt 2 (.alt 5 (.alt 6 (.p false 7 (.alt 9 .nil .nil)) .nil) (.alt 6 (.alt 5 (.p false 7 (.alt 9 .nil .nil)) .nil) .nil)) (.alt 5 (.alt 2 (.alt 6 (.p false 7 (.alt 9 .nil .nil)) .nil) (.alt 6 (.alt 2 (.p false 7 (.alt 9 .nil .nil)) .nil) .nil)) (.alt 6 (.alt 2 (.alt 5 (.p false 7 (.alt 9 .nil .nil)) .nil) (.alt 5 (.alt 2 (.p false 7 (.alt 9 .nil .nil)) .nil) .nil)) .nil))) .nil)))))))) [] (by rw [hP]; kernel_rfl) (by kernel_rfl) (by simp only [go_sem, hP, hn]; try simp) (fun _ _ h => h) fun K hK => ?_); simp only [go_sem, hP, hn]
      simp only [g4, Int.toNat_natCast]
      (repeat' (refine And.intro ?_ ?_)); all_goals (first | (refine hK _ ?_; (refine ⟨_, ?_, rfl⟩; exact (Le.freeze 30).trans ((Le.freeze 34).trans (Le.mv (by simp only [go_sem, hP, hn]; first | done | (simp; done) | (simp [intC]; done) | (repeat (first | rfl | constructor))) (by simp only [go_sem, hP, hn]; first | done | (simp; done) | (simp [intC]; done) | (repeat (first | rfl | constructor))))))) | (first | trivial | omega | (simp <;> omega) | (simp +contextual; done) | (clear hK; grind)))
    rintro s rfl
    (repeat (first | refine TS.imp ?_ | refine n9 (by decide) ?_))
    refine TR.imp ?_; intro K hK; simp only [go_sem, hP, hn]; (repeat refine vc ?_); refine hK _ ?_; clear K hK
    (repeat (first | refine TS.imp ?_ | refine n9 (by decide) ?_))
    obtain ⟨v, hv⟩ : ∃ v : Nat, v = 4 * w := ⟨_, rfl⟩
    rw [← hv]
    refine Tr.loop (fun p s => ∃ (k : Int) (V : List Int), s = ⟨[(1, .d (.i .i64 more)), (2, .d (.i .i64 sign)), (3, .ptr 3 0), (6, .ptr 6 0), (8, .d (.i .i64 i)), (9, .ptr 9 0), (10, .d (.i .i64 k))], [(9, .box 27 (ndC o (.own 33))), (33, .row 3 [.i .i64 0] (V.map intC)), (3, .box 47 (gcs wd lo hi o (.own 3001))), (3001, .row 27 e0N (M.map Nd.ds)), (6, .box 47 (gcs 0 0 0 0 (.d .nil)))]⟩ ∧ 0 ≤ k ∧ k + p = v ∧ V.length = v) v ⟨_, (Le.mv (by simp only [go_sem, hP, hn]; first | done | (simp; done) | (simp [intC]; done) | (repeat (first | rfl | constructor))) (by simp only [go_sem, hP, hn]; first | done | (simp; done) | (simp [intC]; done) | (repeat (first | rfl | constructor)))), 0, List.replicate v 0, rfl, by omega, by omega, by simp⟩ ?_
    rintro p s ⟨k, V, rfl, k0, kp, hV⟩
    (repeat (first | refine TS.imp ?_ | refine n9 (by decide) ?_))
    refine TR.imp ?_; intro K hK; simp only [go_sem, hP, hn]; (repeat refine vc ?_); refine hK _ ?_; clear K hK
    (repeat (first | refine TS.imp ?_ | refine n9 (by decide) ?_))
    refine Tr.cond rfl (fun hb => ?_) (fun hb => ?_)
    · have hk : k < v := by
        have : k < V.length := by simpa using hb
        omega
      have gk : wrap64 (k + 1) = k + 1 := w64 (by omega) (by omega)
      clear hb
      (repeat (first | refine TS.imp ?_ | refine n9 (by decide) ?_))
      refine TR.imp ?_; intro K hK; simp only [go_sem, hP, hn]; (repeat refine vc ?_); refine hK _ ?_; clear K hK
      (repeat (first | refine TS.imp ?_ | refine n9 (by decide) ?_))
      refine TR.imp ?_; intro K hK; simp only [go_sem, hP, hn]
      (repeat refine vc ?_)
      refine hK _ ?_; clear K hK
      refine Tr.le (Le.keep [1, 2, 3, 6, 8, 9, 10, 53]) ?_; simp only [List.map_cons, List.map_nil, lk, Nat.reduceEqDiff, reduceIte]
      (repeat (first | refine TS.imp ?_ | refine n9 (by decide) ?_))
      refine Tr.cond rfl (fun hc => ?_) (fun hc => ?_)
      · (repeat (first | refine TS.imp ?_ | refine n9 (by decide) ?_))
        refine TR.imp ?_; intro K hK; simp only [go_sem, hP, hn]; (repeat refine vc ?_); refine hK _ ?_; clear K hK
        (repeat (first | refine TS.imp ?_ | refine n9 (by decide) ?_))
        refine TR.imp ?_; intro K hK; simp only [gk, go_sem, hP, hn]; (repeat refine vc ?_); refine hK _ ?_; clear K hK
        (repeat (first | refine TS.imp ?_ | refine n9 (by decide) ?_))
        refine ⟨p - 1, _, by omega, ?_, k + 1, (V.set k.toNat 127).set k.toNat (-128), rfl, by omega, by omega, by simpa using hV⟩
        exact (Le.mv (by simp only [go_sem, hP, hn]; first | done | (simp; done) | (simp [intC]; done) | (repeat (first | rfl | constructor))) (by simp only [go_sem, hP, hn]; first | done | (simp; done) | (simp [intC]; done) | (repeat (first | rfl | constructor))))
      · (repeat (first | refine TS.imp ?_ | refine n9 (by decide) ?_))
        refine TR.imp ?_; intro K hK; simp only [gk, go_sem, hP, hn]; (repeat refine vc ?_); refine hK _ ?_; clear K hK
        (repeat (first | refine TS.imp ?_ | refine n9 (by decide) ?_))
        refine ⟨p - 1, _, by omega, ?_, k + 1, V.set k.toNat 127, rfl, by omega, by omega, by simpa using hV⟩
        exact (Le.mv (by simp only [go_sem, hP, hn]; first | done | (simp; done) | (simp [intC]; done) | (repeat (first | rfl | constructor))) (by simp only [go_sem, hP, hn]; first | done | (simp; done) | (simp [intC]; done) | (repeat (first | rfl | constructor))))
    · clear hb
      (repeat (first | refine TS.imp ?_ | refine n9 (by decide) ?_))
      refine Tr.le (Le.freeze 33) ?_
      simp only [go_sem, hP, hn]
      (repeat (first | refine TS.imp ?_ | refine n9 (by decide) ?_))
      refine Tr.le (Le.keep [1, 2, 3, 6, 8, 9]) ?_; simp only [List.map_cons, List.map_nil, lk, Nat.reduceEqDiff, reduceIte]
      have hap : M.map Nd.ds ++ [[.i .i64 6, .row [.i .i64 0] [[.i .i64 o]], .i .i64 4, .i .i64 0, .i .i64 0, .i .i64 0, .i .i64 0, .i .i64 0, .row [.i .i64 0] (V.map intC), .row [.i .i64 0] [[.i .i64 0], [.i .i64 0], [.i .i64 0], [.i .i64 0]], .i .i64 0, .i .i64 0, .i .i64 0, .i .i64 0, .i .i64 0]] = (M ++ [nBh o V]).map Nd.ds := by simp [nBh, Nd.ds, intC]
      have gM : (((M ++ [nBh o V]).length : Nat) : Int) = M.length + 1 := by simp
      refine TR.imp ?_; intro K hK; simp only [go_sem, hP, hn]
      simp only [hap]
      (repeat refine vc ?_)
      refine hK _ ?_; clear K hK
      (repeat (first | refine TS.imp ?_ | refine n9 (by decide) ?_))
      refine TR.imp ?_; intro K hK; simp only [go_sem, hP, hn]; (repeat refine vc ?_); refine hK _ ?_; clear K hK
      (repeat (first | refine TS.imp ?_ | refine n9 (by decide) ?_))
      refine TR.imp ?_; intro K hK; simp only [go_sem, hP, hn]; (repeat refine vc ?_); refine hK _ ?_; clear K hK
      (repeat (first | refine TS.imp ?_ | refine n9 (by decide) ?_))
      refine TR.imp ?_; intro K hK; simp only [go_sem, hP, hn]; (repeat refine vc ?_); refine hK _ ?_; clear K hK
      (repeat (first | refine TS.imp ?_ | refine n9 (by decide) ?_))
      rw [w64 (x := i + 1) (by omega) (by omega)]
      refine ⟨q - 1, _, by omega, ?_, i + 1, ((M ++ [nBh o V]).length : Nat), 4, M ++ [nBh o V], rfl, by omega, by omega, by omega, by omega, fun n hn => ?_⟩
      · refine Le.trans (b := ⟨[(1, .d (.i .i64 more)), (2, .d (.i .i64 sign)), (3, .ptr 3 0), (6, .ptr 6 0), (7, .d (.i .i64 4)), (8, .d (.i .i64 (i + 1)))], [(3, .box 47 (gcs wd lo hi ((M ++ [nBh o V]).length : Nat) (.own 62))), (62, .row 27 e0N ((M ++ [nBh o V]).map Nd.ds)), (6, .box 47 (gcs 0 0 0 0 (.d .nil)))]⟩) (Le.mv (by simp only [go_sem, hP, hn]; first | done | (simp; done) | (simp [intC]; done) | (repeat (first | rfl | constructor))) (by simp only [go_sem, hP, hn]; first | done | (simp; done) | (simp [intC]; done) | (repeat (first | rfl | constructor)))) ?_
        refine Le.trans (Le.ren 62 3001 (by rw [hpn] <;> rfl) rfl rfl) ?_; simp only [renT, renH, renO, renS, renL, rn, go_sem, hP, hn]
        exact (Le.mv (by simp only [go_sem, hP, hn]; first | done | (simp; done) | (simp [intC]; done) | (repeat (first | rfl | constructor))) (by simp only [go_sem, hP, hn]; first | done | (simp; done) | (simp [intC]; done) | (repeat (first | rfl | constructor))))
      · rcases List.mem_append.1 hn with h | h
        · exact hM n h
        · obtain rfl := List.mem_singleton.1 h
          simp [nBh]; omega
  · clear hb
    (repeat (first | refine TS.imp ?_ | refine n9 (by decide) ?_))
    refine Tr.le (Le.freeze 3001) ?_
    simp only [go_sem, hP, hn]
    (repeat (first | (refine TR.imp ?_; intro K hK; simp only [go_sem, hP, hn]; (repeat refine vc ?_); refine hK _ ?_; clear K hK) | refine TS.imp ?_ | refine n9 (by decide) ?_))
    simp only [RetG, go_sem]; (repeat with_reducible refine vc ?_)
    exact ⟨M, o, by simp [gcs, rowN, e0N], by omega, hM⟩
end
section
attribute [local go_sem] PMade
theorem and7 (x : Int) : Go.bits .and .i64 x 7 = x % 8 := and_mask x 3 (by decide)
theorem and3b (x : Int) : Go.bits .and .i64 x 3 = x % 4 := and_mask x 2 (by decide)
theorem u64w {x : Int} (h0 : 0 ≤ x) (h1 : x < 18446744073709551616) : IntKind.u64.wrap x = x := by
  unfold IntKind.wrap
  simp [IntKind.bits, IntKind.signed]
  omega
theorem pow8 (x : Int) : 1 ≤ (2 : Int) ^ (min (x % 8).toNat 64) ∧ (2 : Int) ^ (min (x % 8).toNat 64) ≤ 128 := by
  have : x % 8 = 0 ∨ x % 8 = 1 ∨ x % 8 = 2 ∨ x % 8 = 3 ∨ x % 8 = 4 ∨ x % 8 = 5 ∨ x % 8 = 6 ∨ x % 8 = 7 := by omega
  rcases this with h | h | h | h | h | h | h | h <;> rw [h] <;> decide
theorem BoundTells_c {T : World → Prop} (Tk : KT T) (l : List Int) (out' q0 q1 : Int) : Cg Go.Proofs.Tryd.prog T 9 [] [.d (.row [.i .i64 0] (l.map intC)), .d (.i .i64 out'), .agg [.d (.i .i64 q0), .d (.i .i64 q1)]] (fun r H => H = [] ∧ r = .d (.b true)) := by
  refine Cg_of [] Tk.m Go.Proofs.Tryd.func9 rfl rfl Go.Proofs.Tryd.ntmps9 (by simp) rfl (rs := [.tmp 6]) rfl fun E hP hn hT hpn => ?_
  (repeat (first | refine TS.imp ?_ | refine n9 (by decide) ?_))
  refine TR.imp ?_; intro K hK; simp only [go_sem, hP, hn]; (repeat refine vc ?_); refine hK _ ?_; clear K hK
  (repeat (first | refine TS.imp ?_ | refine n9 (by decide) ?_))
  refine TR.imp ?_; intro K hK; simp only [go_sem, hP, hn]
  (repeat refine vc ?_)
  refine CallN_cs (Hi := [] ) (by rw [hP, hT]; exact  awake20_c Tk) rfl rfl rfl trivial (by simp only [go_sem, hP, hn]; try trivial) (by simp only [go_sem, hP, hn]; try rfl) (by simp only [inH, go_sem, hP, hn]; try simp) (by rw [hn]; decide) ?_; simp only [go_sem, hP, hn]; (repeat refine vc ?_)
  refine hK _ ?_; clear K hK
  (repeat (first | refine TS.imp ?_ | refine n9 (by decide) ?_))
  refine TR.imp ?_; intro K hK; simp only [go_sem, hP, hn]
  (repeat refine vc ?_)
  refine CallN_cx (Hi := []) (by rw [hP, hT]; exact Made16_c Tk.m l ) rfl rfl rfl trivial (by simp only [go_sem, hP, hn]; try trivial) (by simp only [go_sem, hP, hn]; try rfl) trivial (by rw [hn]; decide) (fun r Ho hr => ?_); obtain  ⟨wd, lo, hi, out, ns, rfl, rfl, hG⟩ := hr; refine ⟨fun k _ => hpn k rfl, ?_⟩; simp only [cgS, newK, touK, go_sem, hP, hn]; (repeat refine vc ?_)
  refine hK _ ?_; clear K hK
  refine Tr.le (Le.freeze 2000) ?_
  simp only [go_sem, hP, hn]
  refine Tr.le (Le.keep [1, 5, 6, 7, 8]) ?_; simp only [List.map_cons, List.map_nil, lk, Nat.reduceEqDiff, reduceIte]
  have hlo := hG.lo0
  have hhi := hG.hi0
  have hu : IntKind.u64.wrap (q0 % 8) = q0 % 8 := u64w (by omega) (by omega)
  obtain ⟨p0, p1⟩ := pow8 q0
  have m1 := mul_le (-lo) 199 ((2 : Int) ^ (min (q0 % 8).toNat 64)) 128 (by omega) (by omega) (by omega) p1
  have m2 := mul_le hi 199 ((2 : Int) ^ (min (q0 % 8).toNat 64)) 128 (by omega) (by omega) (by omega) p1
  rw [Int.neg_mul] at m1
  have h1 : ∃ lo', wrap64 (lo * (2 : Int) ^ (min (q0 % 8).toNat 64)) = lo' ∧ -25472 ≤ lo' ∧ lo' ≤ 0 := ⟨_, w64 (by omega) (by omega), by omega, by omega⟩
  have h2 : ∃ hi', wrap64 (hi * (2 : Int) ^ (min (q0 % 8).toNat 64)) = hi' ∧ 0 ≤ hi' ∧ hi' ≤ 25472 := ⟨_, w64 (by omega) (by omega), by omega, by omega⟩
  obtain ⟨lo', e1, hl1, hl2⟩ := h1
  obtain ⟨hi', e2, hh1, hh2⟩ := h2
  clear m1 m2 p0 p1
  (repeat (first | refine TS.imp ?_ | refine n9 (by decide) ?_))
  refine TR.imp ?_; intro K hK; simp only [go_sem, hP, hn]
  rw [and7, hu]
  rw [e1]
  (repeat refine vc ?_)
  refine hK _ ?_; clear K hK
  (repeat (first | refine TS.imp ?_ | refine n9 (by decide) ?_))
  refine TR.imp ?_; intro K hK; simp only [go_sem, hP, hn]
  rw [and7, hu, e2]
  (repeat refine vc ?_)
  refine hK _ ?_; clear K hK
  clear e1 e2 hu
  refine Tr.le (Le.keep [1, 5, 6, 7, 8]) ?_; simp only [List.map_cons, List.map_nil, lk, Nat.reduceEqDiff, reduceIte]
  have hns : ns.length ≤ 65536 := by have := hG.n0; omega
  have hin : ∀ n ∈ ns, n.inn.length ≤ 4096 ∧ n.ws.length ≤ 65536 ∧ n.bs.length ≤ 65536 := fun n hn => by have := hG.inn n hn; omega
  have hok : (lookG wd lo' hi' out ns).1 = 0 := by
    obtain ⟨W, R, rk, hg⟩ := hG.gg
    have a0 := hG.wd0
    have a3 := hG.n0
    obtain ⟨W2, R2, e, _⟩ := gg_lg hg (lo := lo') (hi := hi') (out := out) (by omega) (mayG_of (by omega) (by omega) ⟨by omega, by omega⟩ hG.out0 (mayG_ok hG.may).2.2) ⟨by unfold in32; omega, by unfold in32; omega⟩
    rw [e]
  have t1 := tells20_c Tk wd lo' hi' out ns hns hin
  have t2 := tells20_c Tk wd lo' hi' out' ns hns hin
  have cB := behind_c Tk.m wd lo' hi' out (Go.bits .and .i64 q1 3) (q1.fdiv (2 ^ min 2 64)) ns hns hin hok (by rw [and3b]; omega)
  (repeat (first | refine TS.imp ?_ | refine n9 (by decide) ?_))
  refine TR.imp ?_; intro K hK; simp only [go_sem, hP, hn]; (repeat refine vc ?_); refine hK _ ?_; clear K hK
  (repeat (first | refine TS.imp ?_ | refine n9 (by decide) ?_))
  refine TR.imp ?_; intro K hK; simp only [go_sem, hP, hn]; (repeat refine vc ?_); refine hK _ ?_; clear K hK
  (repeat (first | refine TS.imp ?_ | refine n9 (by decide) ?_))
  refine Tr.le (Le.keep [5, 6, 7, 8, 9]) ?_; simp only [List.map_cons, List.map_nil, lk, Nat.reduceEqDiff, reduceIte]
  (repeat (first | refine TS.imp ?_ | refine n9 (by decide) ?_))
  refine TR.imp ?_; intro K hK; simp only [go_sem, hP, hn]
  (repeat refine vc ?_)
  refine CallN_gs (Hi := [] ) (fun hg => by rw [hP, hT]; exact  t1) rfl rfl rfl (fun hg => trivial) (fun hg => by clear hK; revert hg; simp only [go_sem, hP, hn] <;> first | trivial | omega | (simp; done) | (simp +contextual; done) | grind) (fun hg => by simp only [go_sem, hP, hn]; try rfl) (by simp only [inH, go_sem, hP, hn]; try simp) (by rw [hn]; decide) ?_; simp only [go_sem, hP, hn]; (repeat refine vc ?_)
  refine CallN_gs (Hi := [] ) (fun hg => by rw [hP, hT]; exact  t2) rfl rfl rfl (fun hg => trivial) (fun hg => by clear hK; revert hg; simp only [go_sem, hP, hn] <;> first | trivial | omega | (simp; done) | (simp +contextual; done) | grind) (fun hg => by simp only [go_sem, hP, hn]; try rfl) (by simp only [inH, go_sem, hP, hn]; try simp) (by rw [hn]; decide) ?_; simp only [go_sem, hP, hn]; (repeat refine vc ?_)
  refine CallN_tx (by rw [hP, hT]; exact cB ) rfl rfl rfl trivial (by simp only [go_sem, hP, hn]; try trivial) (by simp only [go_sem, hP, hn]; try rfl) (by rw [hn]; decide) (fun r hr => ?_); obtain  ⟨ns', out2, rfl, hns2, hin2⟩ := hr; simp only [beq_self_eq_true, go_sem, hP, hn]; (repeat refine vc ?_)
  refine CallN_gs (Hi := [] ) (fun hg => by rw [hP, hT]; exact  tells20_c Tk wd lo' hi' out2 ns' hns2 hin2) rfl rfl rfl (fun hg => trivial) (fun hg => by clear hK; revert hg; simp only [go_sem, hP, hn] <;> first | trivial | omega | (simp; done) | (simp +contextual; done) | grind) (fun hg => by simp only [go_sem, hP, hn]; try rfl) (by simp only [inH, go_sem, hP, hn]; try simp) (by rw [hn]; decide) ?_; simp only [go_sem, hP, hn]; (repeat refine vc ?_)
  refine hK _ ?_; clear K hK
  (repeat (first | (refine TR.imp ?_; intro K hK; simp only [go_sem, hP, hn]; (repeat refine vc ?_); refine hK _ ?_; clear K hK) | refine TS.imp ?_ | refine n9 (by decide) ?_))
  simp only [RetG, go_sem]; (repeat with_reducible refine vc ?_)
end
end Go.Proofs.YtgijboakaodcgaaDoor.Aw
