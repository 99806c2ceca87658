/- The abstract walk, and contracts of Go functions: each call returns what the Lean function named tells. Conditions: those that each theorem names, none else. -/
import Derived.Test.YtgijboakaodcgaaDoorZBoundTells3
set_option linter.unusedVariables false
set_option linter.unusedSimpArgs false
set_option maxRecDepth 100000
set_option linter.unusedSectionVars false
set_option maxHeartbeats 4000000
namespace Go.Proofs.YtgijboakaodcgaaDoor.Aw
open Go.RowKit
attribute [local go_sem_proc] Nat.reduceAdd Nat.reduceMul Nat.reduceSub Nat.reduceEqDiff Nat.reduceLeDiff Nat.reduceBEq Nat.reduceBNe Int.reduceToNat reduceIte reduceCtorEq
attribute [local go_sem] initT SQ so pe he ev lk constS stp stc gdS nth pickS pickD loadS cellsAt okAt fieldAddrS fieldS partS indexAddrS indexS extractS binS binD binI isShift unS convS lenS sliceS bndI bndC mmS mm2 mmD builtS fillS okCells cellsS splS solid aliveL alive okS boxS allocS makeS bsliceS elemsOf dcells stF storeS frzA frz frzT frzS frzL frzO frzH appS srcS appVC killS killT killC killH killO k1 k2 S.has S.hasL St.add St.upd dropH lh cond_or cond_and rw_intC rw_intC0 rw_set rw_app rw_apps rw_rep rw_slice wr64 cond_true cond_false true_and and_true List.map_cons List.map_nil List.length_cons List.length_nil List.drop_succ_cons List.drop_zero List.take_succ_cons List.take_zero List.nil_append List.cons_append List.getD_cons_zero List.getD_cons_succ List.headD_cons List.length_map ite_true ite_false if_true if_false Bool.false_eq_true and_self forall_const List.drop_nil List.take_nil List.append_nil Option.map_some Option.map_none List.mapM_cons List.mapM_nil Option.bind_eq_bind Option.bind_some Option.pure_def knows resL resV oneS freshS freshL cv cvL stpL stcL or_true true_or or_false false_or List.all_cons List.all_nil Bool.and_self Bool.or_self Bool.true_and Bool.and_true Bool.or_false Bool.false_or implies_true flatD allm_nil allm_cons List.getElem?_cons_zero List.getElem?_cons_succ Nd.cs Nd.ds ml mln Option.isSome_some Option.isSome_none eq_self Int.toNat_natCast AP ldOk isLd inL subL crt chg chgS chgP idxs aliveW Option.toList_some Option.toList_none Option.toList RetG Nd.win frzA offK keepH aliveK nkH closedH closedO keysK inH St.upd rowO List.contains_cons List.contains_nil Bool.or_self Option.isNone_none Option.isNone_some Bool.not_true Bool.not_false gcs rowN e0N frzC
attribute [local go_sem] sz2 ag2 ok2 kk2 iu2 zc2 zd2 by2 sz3 ag3 ok3 kk3 iu3 zc3 zd3 by3 sz4 ag4 ok4 bo4 zc4 zd4 by4 sz5 ag5 ok5 kk5 iu5 zc5 zd5 by5 sz9 ag9 ok9 st9 zc9 zd9 by9 sz12 ag12 ok12 kk12 iu12 zc12 zd12 by12 sz15 ag15 ok15 zc15 by15 sz16 ag16 ok16 zc16 by16 sz21 ag21 ok21 kk21 iu21 zc21 zd21 by21 sz22 ag22 ok22 sl22 zc22 zd22 by22 sz23 ag23 ok23 zc23 zd23 pl23 by23 fl23_0 fl23_1 fl23_2 fl23_3 fl23_4 fl23_5 sz24 ag24 ok24 zc24 zd24 pl24 by24 fl24_0 fl24_1 fl24_2 fl24_3 fl24_4 fl24_5 sz26 ag26 ok26 zc26 zd26 pl26 by26 fl26_0 fl26_1 fl26_2 fl26_3 fl26_4 fl26_5 fl26_6 fl26_7 fl26_8 fl26_9 fl26_10 fl26_11 fl26_12 fl26_13 fl26_14 sz27 ag27 ok27 zc27 zd27 pl27 by27 fl27_0 fl27_1 fl27_2 fl27_3 fl27_4 fl27_5 fl27_6 fl27_7 fl27_8 fl27_9 fl27_10 fl27_11 fl27_12 fl27_13 fl27_14 sz28 ag28 ok28 sl28 zc28 zd28 by28 sz38 ag38 ok38 sl38 ar38 zc38 zd38 pl38 by38 sz44 ag44 ok44 sl44 ar44 zc44 zd44 pl44 by44 sz45 ag45 ok45 sl45 zc45 zd45 by45 sz46 ag46 ok46 zc46 zd46 pl46 by46 fl46_0 fl46_1 fl46_2 fl46_3 fl46_4 sz47 ag47 ok47 zc47 zd47 pl47 by47 fl47_0 fl47_1 fl47_2 fl47_3 fl47_4 sz49 ag49 ok49 kk49 iu49 zc49 zd49 by49 sz53 ag53 ok53 sl53 ar53 zc53 zd53 pl53 by53 sz54 ag54 ok54 kk54 iu54 zc54 zd54 by54 sz55 ag55 ok55 kk55 iu55 zc55 zd55 by55 sz56 ag56 ok56 sl56 zc56 zd56 by56 sz57 ag57 ok57 kk57 iu57 zc57 zd57 by57 sz60 ag60 ok60 zc60 zd60 pl60 by60 fl60_0 fl60_1 fl60_2 fl60_3 sz61 ag61 ok61 zc61 zd61 pl61 by61 fl61_0 fl61_1 fl61_2 fl61_3 sz64 ag64 ok64 zc64 by64 sz65 ag65 ok65 zc65 zd65 pl65 by65 fl65_0 fl65_1 sz66 ag66 ok66 zc66 zd66 pl66 by66 fl66_0 fl66_1 sz78 ag78 ok78 sl78 ar78 zc78 zd78 pl78 by78 sz79 ag79 ok79 sl79 ar79 zc79 zd79 pl79 by79 sz81 ag81 ok81 zc81 zd81 pl81 by81 fl81_0 fl81_1 sz82 ag82 ok82 zc82 zd82 pl82 by82 fl82_0 fl82_1 sz84 ag84 ok84 zc84 zd84 pl84 by84 fl84_0 fl84_1 fl84_2 fl84_3 sz85 ag85 ok85 zc85 zd85 pl85 by85 fl85_0 fl85_1 fl85_2 fl85_3 sz92 ag92 ok92 sl92 ar92 zc92 zd92 pl92 by92 sz101 ag101 ok101 zc101 zd101 pl101 by101 fl101_0 fl101_1 sz102 ag102 ok102 zc102 zd102 pl102 by102 fl102_0 fl102_1 sz109 ag109 ok109 zc109 zd109 pl109 by109 fl109_0 fl109_1 fl109_2 sz110 ag110 ok110 zc110 zd110 pl110 by110 fl110_0 fl110_1 fl110_2 sz120 ag120 ok120 sl120 ar120 zc120 zd120 pl120 by120 sz121 ag121 ok121 zc121 zd121 pl121 by121 fl121_0 fl121_1 sz122 ag122 ok122 sl122 ar122 zc122 zd122 pl122 by122 sz130 ag130 ok130 zc130 by130 sz140 ag140 ok140 kk140 iu140 zc140 zd140 by140 sz144 ag144 ok144 zc144 by144
theorem else0_r {T : World → Prop} (Tm : TP T) (n : Nd) : Ct Go.Proofs.Tryd.prog T 84 [.agg n.cs] true (fun r => r = .d (.b n.else0)) := by
  refine Ct_of Tm Go.Proofs.Tryd.func84 rfl rfl Go.Proofs.Tryd.ntmps84 (by simp) (rs := [.tmp 2]) rfl fun E hP hn hT => ?_
  (repeat (first | (refine TR.imp ?_; intro K hK; simp only [go_sem, hP, hn]; (repeat refine vc ?_); refine hK _ ?_; clear K hK) | refine TS.imp ?_ | refine n9 (by decide) ?_))
  refine TR.imp ?_; intro K hK; simp only [go_sem, hP, hn]; (repeat refine vc ?_); refine c1 (by rw [hP, hT]; exact four_r Tm n.k) rfl rfl rfl trivial (by simp only [go_sem, hP, hn]; try trivial) (by simp only [go_sem, hP, hn]; try rfl) (by rw [hn]; decide) (by rfl) ?_; simp only [go_sem, hP, hn]; (repeat refine vc ?_); refine hK _ ?_; clear K hK
  (repeat (first | (refine TR.imp ?_; intro K hK; simp only [go_sem, hP, hn]; (repeat refine vc ?_); refine hK _ ?_; clear K hK) | refine TS.imp ?_ | refine n9 (by decide) ?_))
  refine TR.imp ?_; intro K hK; simp only [go_sem, hP, hn]; (repeat refine vc ?_); refine c1 (by rw [hP, hT]; exact weighs_r Tm n.k) rfl rfl rfl trivial (by simp only [go_sem, hP, hn]; try trivial) (by simp only [go_sem, hP, hn]; try rfl) (by rw [hn]; decide) (by rfl) ?_; simp only [go_sem, hP, hn]; (repeat refine vc ?_); refine hK _ ?_; clear K hK
  (repeat (first | (refine TR.imp ?_; intro K hK; simp only [go_sem, hP, hn]; (repeat refine vc ?_); refine hK _ ?_; clear K hK) | refine TS.imp ?_ | refine n9 (by decide) ?_))
  refine Tr.cond rfl (fun h6 => ?_) (fun h6 => ?_)
  · (repeat (first | (refine TR.imp ?_; intro K hK; simp only [go_sem, hP, hn]; (repeat refine vc ?_); refine hK _ ?_; clear K hK) | refine TS.imp ?_ | refine n9 (by decide) ?_))
    simp only [RetQ, go_sem]
    have e : n.e6 = true := h6
    unfold Nd.else0; rw [e]; rfl
  replace h6 : n.e6 = false := h6
  (repeat (first | (refine TR.imp ?_; intro K hK; simp only [go_sem, hP, hn]; (repeat refine vc ?_); refine hK _ ?_; clear K hK) | refine TS.imp ?_ | refine n9 (by decide) ?_))
  refine Tr.cond rfl (fun h8 => ?_) (fun h8 => ?_)
  · (repeat (first | (refine TR.imp ?_; intro K hK; simp only [go_sem, hP, hn]; (repeat refine vc ?_); refine hK _ ?_; clear K hK) | refine TS.imp ?_ | refine n9 (by decide) ?_))
    simp only [RetQ, go_sem]
    have e : n.e8 = true := h8
    unfold Nd.else0; rw [h6, e]; rfl
  replace h8 : n.e8 = false := h8
  (repeat (first | (refine TR.imp ?_; intro K hK; simp only [go_sem, hP, hn]; (repeat refine vc ?_); refine hK _ ?_; clear K hK) | refine TS.imp ?_ | refine n9 (by decide) ?_))
  refine Tr.cond rfl (fun h10 => ?_) (fun h10 => ?_)
  · (repeat (first | (refine TR.imp ?_; intro K hK; simp only [go_sem, hP, hn]; (repeat refine vc ?_); refine hK _ ?_; clear K hK) | refine TS.imp ?_ | refine n9 (by decide) ?_))
    simp only [RetQ, go_sem]
    have e : n.e10 = true := by unfold Nd.e10; simpa only [Int.natCast_pos] using h10
    unfold Nd.else0; rw [h6, h8, e]; rfl
  replace h10 : n.e10 = false := by unfold Nd.e10; simpa only [Int.natCast_pos] using h10
  (repeat (first | (refine TR.imp ?_; intro K hK; simp only [go_sem, hP, hn]; (repeat refine vc ?_); refine hK _ ?_; clear K hK) | refine TS.imp ?_ | refine n9 (by decide) ?_))
  simp only [RetQ, go_sem]
  unfold Nd.else0; rw [h6, h8, h10]; rfl
theorem sized_r {T : World → Prop} (Tm : TP T) (n : Nd) (v : Int) (hw : n.ws.length ≤ 65536) (hs : n.bs.length ≤ 65536) : Ct Go.Proofs.Tryd.prog T 85 [.agg n.cs, .d (.i .i64 v)] true (fun r => r = .d (.b (n.sized v))) := by
  refine Ct_of Tm Go.Proofs.Tryd.func85 rfl rfl Go.Proofs.Tryd.ntmps85 (by simp) (rs := [.tmp 4]) rfl fun E hP hn hT => ?_
  (repeat (first | (refine TR.imp ?_; intro K hK; simp only [go_sem, hP, hn]; (repeat refine vc ?_); refine hK _ ?_; clear K hK) | refine TS.imp ?_ | refine n9 (by decide) ?_))
  refine TR.imp ?_; intro K hK; simp only [go_sem, hP, hn]; (repeat refine vc ?_); refine c1 (by rw [hP, hT]; exact four_r Tm n.k) rfl rfl rfl trivial (by simp only [go_sem, hP, hn]; try trivial) (by simp only [go_sem, hP, hn]; try rfl) (by rw [hn]; decide) (by rfl) ?_; simp only [go_sem, hP, hn]; (repeat refine vc ?_); refine hK _ ?_; clear K hK
  (repeat (first | (refine TR.imp ?_; intro K hK; simp only [go_sem, hP, hn]; (repeat refine vc ?_); refine hK _ ?_; clear K hK) | refine TS.imp ?_ | refine n9 (by decide) ?_))
  refine TR.imp ?_; intro K hK; simp only [go_sem, hP, hn]; (repeat refine vc ?_); refine c1 (by rw [hP, hT]; exact weighs_r Tm n.k) rfl rfl rfl trivial (by simp only [go_sem, hP, hn]; try trivial) (by simp only [go_sem, hP, hn]; try rfl) (by rw [hn]; decide) (by rfl) ?_; simp only [go_sem, hP, hn]; (repeat refine vc ?_); refine hK _ ?_; clear K hK
  (repeat (first | (refine TR.imp ?_; intro K hK; simp only [go_sem, hP, hn]; (repeat refine vc ?_); refine hK _ ?_; clear K hK) | refine TS.imp ?_ | refine n9 (by decide) ?_))
  refine TR.imp ?_; intro K hK; simp only [go_sem, hP, hn]; (repeat refine vc ?_); refine c1 (by rw [hP, hT]; exact in_r Tm n.size 1 8) rfl rfl rfl trivial (by simp only [go_sem, hP, hn]; try trivial) (by simp only [go_sem, hP, hn]; try rfl) (by rw [hn]; decide) (by rfl) ?_; simp only [go_sem, hP, hn]; (repeat refine vc ?_); refine hK _ ?_; clear K hK
  (repeat (first | (refine TR.imp ?_; intro K hK; simp only [go_sem, hP, hn]; (repeat refine vc ?_); refine hK _ ?_; clear K hK) | refine TS.imp ?_ | refine n9 (by decide) ?_))
  refine Tr.cond rfl (fun h4 => ?_) (fun h4 => ?_)
  · (repeat (first | (refine TR.imp ?_; intro K hK; simp only [go_sem, hP, hn]; (repeat refine vc ?_); refine hK _ ?_; clear K hK) | refine TS.imp ?_ | refine n9 (by decide) ?_))
    simp only [RetQ, go_sem]
    have e : n.s4 = true := h4
    unfold Nd.sized; rw [e]; rfl
  replace h4 : n.s4 = false := h4
  (repeat (first | (refine TR.imp ?_; intro K hK; simp only [go_sem, hP, hn]; (repeat refine vc ?_); refine hK _ ?_; clear K hK) | refine TS.imp ?_ | refine n9 (by decide) ?_))
  refine TR.imp ?_; intro K hK; simp only [go_sem, hP, hn]; (repeat refine vc ?_); refine c1 (by rw [hP, hT]; exact in_r Tm n.step 1 4) rfl rfl rfl trivial (by simp only [go_sem, hP, hn]; try trivial) (by simp only [go_sem, hP, hn]; try rfl) (by rw [hn]; decide) (by rfl) ?_; simp only [go_sem, hP, hn]; (repeat refine vc ?_); refine hK _ ?_; clear K hK
  (repeat (first | (refine TR.imp ?_; intro K hK; simp only [go_sem, hP, hn]; (repeat refine vc ?_); refine hK _ ?_; clear K hK) | refine TS.imp ?_ | refine n9 (by decide) ?_))
  refine TR.imp ?_; intro K hK; simp only [go_sem, hP, hn]; (repeat refine vc ?_); refine c1 (by rw [hP, hT]; exact in_r Tm n.gap 1 4) rfl rfl rfl trivial (by simp only [go_sem, hP, hn]; try trivial) (by simp only [go_sem, hP, hn]; try rfl) (by rw [hn]; decide) (by rfl) ?_; simp only [go_sem, hP, hn]; (repeat refine vc ?_); refine hK _ ?_; clear K hK
  (repeat (first | (refine TR.imp ?_; intro K hK; simp only [go_sem, hP, hn]; (repeat refine vc ?_); refine hK _ ?_; clear K hK) | refine TS.imp ?_ | refine n9 (by decide) ?_))
  refine Tr.cond rfl (fun h8 => ?_) (fun h8 => ?_)
  · (repeat (first | (refine TR.imp ?_; intro K hK; simp only [go_sem, hP, hn]; (repeat refine vc ?_); refine hK _ ?_; clear K hK) | refine TS.imp ?_ | refine n9 (by decide) ?_))
    simp only [RetQ, go_sem]
    have e : n.s8 = true := h8
    unfold Nd.sized; rw [h4, e]; rfl
  replace h8 : n.s8 = false := h8
  (repeat (first | (refine TR.imp ?_; intro K hK; simp only [go_sem, hP, hn]; (repeat refine vc ?_); refine hK _ ?_; clear K hK) | refine TS.imp ?_ | refine n9 (by decide) ?_))
  (first | refine d1 (.p true 0 (.p true 1 (.p true 2 (.p true 3 (.p true 4 (.p true 5 (.p true 6 (.p true 7 (.p true 8 (.alt 9 (.p false 10 (.p false 11 (.p false 12 (.p true 13 (.p true 14 (.p true 15 (.p false 16 (.p false 17 (.p true 18 (.p true 19 (.p true 20 (.alt 21 (.p false 22 (.p false 23 (.p false 24 .nil))) .nil)))))))))))) .nil)))))))))) [] (by rw [hP]; kernel_rfl) (by kernel_rfl) (by simp only [go_sem, hP, hn]; try simp) (fun _ _ h => h) fun K hK => ?_ | refine d2 (.p true 0 (.p true 1 (.p true 2 (.p true 3 (.p true 4 (.p true 5 (.p true 6 (.p true 7 (.p true 8 (.alt 9 (.p false 10 (.p false 11 (.p false 12 (.p true 13 (.p true 14 (.p true 15 (.p false 16 (.p false 17 (.p true 18 (.p true 19 (.p true 20 (.alt 21 (.p false 22 (.p false 23 (.p false 24 .nil))) .nil)))))))))))) .nil)))))))))) [] (by rw [hP]; kernel_rfl) (by kernel_rfl) (by simp only [go_sem, hP, hn]; try simp) (fun _ _ h => h) fun K hK => ?_ | refine d4 (.p true 0 (.p true 1 (.p true 2 (.p true 3 (.p true 4 (.p true 5 (.p true 6 (.p true 7 (.p true 8 (.alt 9 (.p false 10 (.p false 11 (.p false 12 (.p true 13 (.p true 14 (.p true 15 (.p false 16 (.p false 17 (.p true 18 (.p true 19 (.p true 20 (.alt 21 (.p false 22 (.p false 23 (.p false 24 .nil))) .nil)))))))))))) .nil)))))))))) [] (by rw [hP]; kernel_rfl) (by kernel_rfl) (by simp only [go_sem, hP, hn]; try simp) (fun _ _ h => h) fun K hK => ?_); simp only [go_sem, hP, hn]; (repeat refine vc ?_); refine p2 (fun hg => by rw [hP, hT]; exact Span_r Tm n) rfl rfl rfl (fun hg => trivial) (fun hg => by clear hK; revert hg; simp only [go_sem, hP, hn]; first | trivial | omega | (simp; done) | (simp +contextual; done) | grind) (fun hg => by simp only [go_sem, hP, hn]; try rfl) (by rw [hn]; decide) (by rfl) ?_; simp only [go_sem, hP, hn]; (repeat refine vc ?_); refine p2 (fun hg => by rw [hP, hT]; exact Span_r Tm n) rfl rfl rfl (fun hg => trivial) (fun hg => by clear hK; revert hg; simp only [go_sem, hP, hn]; first | trivial | omega | (simp; done) | (simp +contextual; done) | grind) (fun hg => by simp only [go_sem, hP, hn]; try rfl) (by rw [hn]; decide) (by rfl) ?_; simp only [go_sem, hP, hn]; (repeat refine vc ?_); refine hK _ ?_; clear K hK
  refine Tr.cond rfl (fun h10 => ?_) (fun h10 => ?_)
  · (repeat (first | (refine TR.imp ?_; intro K hK; simp only [go_sem, hP, hn]; (repeat refine vc ?_); refine hK _ ?_; clear K hK) | refine TS.imp ?_ | refine n9 (by decide) ?_))
    simp only [RetQ, go_sem]
    have e : n.s10 = true := h10
    unfold Nd.sized; rw [h4, h8, e]; rfl
  replace h10 : n.s10 = false := h10
  (repeat (first | (refine TR.imp ?_; intro K hK; simp only [go_sem, hP, hn]; (repeat refine vc ?_); refine hK _ ?_; clear K hK) | refine TS.imp ?_ | refine n9 (by decide) ?_))
  refine TR.imp ?_; intro K hK; simp only [go_sem, hP, hn]; (repeat refine vc ?_); refine c1 (by rw [hP, hT]; exact in_r Tm n.wid 1 16) rfl rfl rfl trivial (by simp only [go_sem, hP, hn]; try trivial) (by simp only [go_sem, hP, hn]; try rfl) (by rw [hn]; decide) (by rfl) ?_; simp only [go_sem, hP, hn]; (repeat refine vc ?_); refine hK _ ?_; clear K hK
  (repeat (first | (refine TR.imp ?_; intro K hK; simp only [go_sem, hP, hn]; (repeat refine vc ?_); refine hK _ ?_; clear K hK) | refine TS.imp ?_ | refine n9 (by decide) ?_))
  refine Tr.cond rfl (fun h13 => ?_) (fun h13 => ?_)
  · (repeat (first | (refine TR.imp ?_; intro K hK; simp only [go_sem, hP, hn]; (repeat refine vc ?_); refine hK _ ?_; clear K hK) | refine TS.imp ?_ | refine n9 (by decide) ?_))
    simp only [RetQ, go_sem]
    have e : n.s13 = true := h13
    unfold Nd.sized; rw [h4, h8, h10, e]; rfl
  replace h13 : n.s13 = false := h13
  (repeat (first | (refine TR.imp ?_; intro K hK; simp only [go_sem, hP, hn]; (repeat refine vc ?_); refine hK _ ?_; clear K hK) | refine TS.imp ?_ | refine n9 (by decide) ?_))
  refine Tr.le (Le.keep [1, 2, 92]) ?_; simp only [List.map_cons, List.map_nil, lk, Nat.reduceEqDiff, reduceIte]
  refine Tr.cond rfl (fun hw0 => ?_) (fun hw0 => ?_)
  · (repeat (first | (refine TR.imp ?_; intro K hK; simp only [go_sem, hP, hn]; (repeat refine vc ?_); refine hK _ ?_; clear K hK) | refine TS.imp ?_ | refine n9 (by decide) ?_))
    refine Tr.cond rfl (fun h2 => ?_) (fun h2 => ?_)
    · (repeat (first | (refine TR.imp ?_; intro K hK; simp only [go_sem, hP, hn]; (repeat refine vc ?_); refine hK _ ?_; clear K hK) | refine TS.imp ?_ | refine n9 (by decide) ?_))
      refine Tr.le (Le.keep [1, 2, 11]) ?_; simp only [List.map_cons, List.map_nil, lk, Nat.reduceEqDiff, reduceIte]
      refine TR.imp ?_; intro K hK; simp only [go_sem, hP, hn]; (repeat refine vc ?_); refine c1 (by rw [hP, hT]; exact all_r Tm n.ws (-128) 127 hw) rfl rfl rfl trivial (by simp only [go_sem, hP, hn]; try trivial) (by simp only [go_sem, hP, hn]; try rfl) (by rw [hn]; decide) (by rfl) ?_; simp only [go_sem, hP, hn]; (repeat refine vc ?_); refine hK _ ?_; clear K hK
      (repeat (first | (refine TR.imp ?_; intro K hK; simp only [go_sem, hP, hn]; (repeat refine vc ?_); refine hK _ ?_; clear K hK) | refine TS.imp ?_ | refine n9 (by decide) ?_))
      refine TR.imp ?_; intro K hK; simp only [go_sem, hP, hn]; (repeat refine vc ?_); refine c1 (by rw [hP, hT]; exact all_r Tm n.bs (-16777216) 16777216 hs) rfl rfl rfl trivial (by simp only [go_sem, hP, hn]; try trivial) (by simp only [go_sem, hP, hn]; try rfl) (by rw [hn]; decide) (by rfl) ?_; simp only [go_sem, hP, hn]; (repeat refine vc ?_); refine hK _ ?_; clear K hK
      (repeat (first | (refine TR.imp ?_; intro K hK; simp only [go_sem, hP, hn]; (repeat refine vc ?_); refine hK _ ?_; clear K hK) | refine TS.imp ?_ | refine n9 (by decide) ?_))
      (first | refine d1 (.p true 0 (.p true 1 (.p true 2 (.p true 3 (.p true 4 (.alt 5 (.p false 6 (.p false 7 (.p true 8 (.p true 9 (.p true 10 (.p true 11 (.p true 12 (.p false 13 (.p false 14 (.p true 15 (.p true 16 (.p false 17 (.p false 18 (.p true 19 (.p true 20 (.p false 21 .nil)))))))))))))))) .nil)))))) [] (by rw [hP]; kernel_rfl) (by kernel_rfl) (by simp only [go_sem, hP, hn]; try simp) (fun _ _ h => h) fun K hK => ?_ | refine d2 (.p true 0 (.p true 1 (.p true 2 (.p true 3 (.p true 4 (.alt 5 (.p false 6 (.p false 7 (.p true 8 (.p true 9 (.p true 10 (.p true 11 (.p true 12 (.p false 13 (.p false 14 (.p true 15 (.p true 16 (.p false 17 (.p false 18 (.p true 19 (.p true 20 (.p false 21 .nil)))))))))))))))) .nil)))))) [] (by rw [hP]; kernel_rfl) (by kernel_rfl) (by simp only [go_sem, hP, hn]; try simp) (fun _ _ h => h) fun K hK => ?_ | refine d4 (.p true 0 (.p true 1 (.p true 2 (.p true 3 (.p true 4 (.alt 5 (.p false 6 (.p false 7 (.p true 8 (.p true 9 (.p true 10 (.p true 11 (.p true 12 (.p false 13 (.p false 14 (.p true 15 (.p true 16 (.p false 17 (.p false 18 (.p true 19 (.p true 20 (.p false 21 .nil)))))))))))))))) .nil)))))) [] (by rw [hP]; kernel_rfl) (by kernel_rfl) (by simp only [go_sem, hP, hn]; try simp) (fun _ _ h => h) fun K hK => ?_); simp only [go_sem, hP, hn]; (repeat refine vc ?_); refine p1 (by rw [hP, hT]; exact weights_r Tm n v) rfl rfl rfl trivial (by simp only [go_sem, hP, hn]; try trivial) (by simp only [go_sem, hP, hn]; try rfl) (by rw [hn]; decide) (by rfl) ?_; simp only [go_sem, hP, hn]; (repeat refine vc ?_); refine hK _ ?_; clear K hK
      refine Tr.cond rfl (fun h21 => ?_) (fun h21 => ?_)
      · (repeat (first | (refine TR.imp ?_; intro K hK; simp only [go_sem, hP, hn]; (repeat refine vc ?_); refine hK _ ?_; clear K hK) | refine TS.imp ?_ | refine n9 (by decide) ?_))
        simp only [RetQ, go_sem]
        have e : n.s21 v (v) = true := h21
        unfold Nd.sized; simp only [h4, h8, h10, h13, hw0, h2, e, if_true, Bool.false_eq_true, if_false]
      · (repeat (first | (refine TR.imp ?_; intro K hK; simp only [go_sem, hP, hn]; (repeat refine vc ?_); refine hK _ ?_; clear K hK) | refine TS.imp ?_ | refine n9 (by decide) ?_))
        refine Tr.le (Le.keep [2]) ?_; simp only [List.map_cons, List.map_nil, lk, Nat.reduceEqDiff, reduceIte]
        refine TR.imp ?_; intro K hK; simp only [go_sem, hP, hn]; (repeat refine vc ?_); refine c1 (by rw [hP, hT]; exact in_r Tm n.mult 0 32767) rfl rfl rfl trivial (by simp only [go_sem, hP, hn]; try trivial) (by simp only [go_sem, hP, hn]; try rfl) (by rw [hn]; decide) (by rfl) ?_; simp only [go_sem, hP, hn]; (repeat refine vc ?_); refine hK _ ?_; clear K hK
        (repeat (first | (refine TR.imp ?_; intro K hK; simp only [go_sem, hP, hn]; (repeat refine vc ?_); refine hK _ ?_; clear K hK) | refine TS.imp ?_ | refine n9 (by decide) ?_))
        refine TR.imp ?_; intro K hK; simp only [go_sem, hP, hn]; (repeat refine vc ?_); refine c1 (by rw [hP, hT]; exact in_r Tm n.shift 0 30) rfl rfl rfl trivial (by simp only [go_sem, hP, hn]; try trivial) (by simp only [go_sem, hP, hn]; try rfl) (by rw [hn]; decide) (by rfl) ?_; simp only [go_sem, hP, hn]; (repeat refine vc ?_); refine hK _ ?_; clear K hK
        (repeat (first | (refine TR.imp ?_; intro K hK; simp only [go_sem, hP, hn]; (repeat refine vc ?_); refine hK _ ?_; clear K hK) | refine TS.imp ?_ | refine n9 (by decide) ?_))
        refine TR.imp ?_; intro K hK; simp only [go_sem, hP, hn]; (repeat refine vc ?_); refine c1 (by rw [hP, hT]; exact in_r Tm n.low (-2147483648) 2147483647) rfl rfl rfl trivial (by simp only [go_sem, hP, hn]; try trivial) (by simp only [go_sem, hP, hn]; try rfl) (by rw [hn]; decide) (by rfl) ?_; simp only [go_sem, hP, hn]; (repeat refine vc ?_); refine hK _ ?_; clear K hK
        (repeat (first | (refine TR.imp ?_; intro K hK; simp only [go_sem, hP, hn]; (repeat refine vc ?_); refine hK _ ?_; clear K hK) | refine TS.imp ?_ | refine n9 (by decide) ?_))
        refine TR.imp ?_; intro K hK; simp only [go_sem, hP, hn]; (repeat refine vc ?_); refine c1 (by rw [hP, hT]; exact in_r Tm n.high (-2147483648) 2147483647) rfl rfl rfl trivial (by simp only [go_sem, hP, hn]; try trivial) (by simp only [go_sem, hP, hn]; try rfl) (by rw [hn]; decide) (by rfl) ?_; simp only [go_sem, hP, hn]; (repeat refine vc ?_); refine hK _ ?_; clear K hK
        (repeat (first | (refine TR.imp ?_; intro K hK; simp only [go_sem, hP, hn]; (repeat refine vc ?_); refine hK _ ?_; clear K hK) | refine TS.imp ?_ | refine n9 (by decide) ?_))
        simp only [RetQ, go_sem]
        have e : n.s27 = (inB n.mult 0 32767 && inB n.shift 0 30 && inB n.low (-2147483648) 2147483647 && inB n.high (-2147483648) 2147483647 && decide (n.low ≤ n.high)) := rfl
        have e1 : n.s21 v (v) = false := h21
        unfold Nd.sized; simp only [h4, h8, h10, h13, hw0, h2, e1, e, if_true, Bool.false_eq_true, if_false]
    · (repeat (first | (refine TR.imp ?_; intro K hK; simp only [go_sem, hP, hn]; (repeat refine vc ?_); refine hK _ ?_; clear K hK) | refine TS.imp ?_ | refine n9 (by decide) ?_))
      refine Tr.le (Le.keep [1, 2, 11]) ?_; simp only [List.map_cons, List.map_nil, lk, Nat.reduceEqDiff, reduceIte]
      refine TR.imp ?_; intro K hK; simp only [go_sem, hP, hn]; (repeat refine vc ?_); refine c1 (by rw [hP, hT]; exact all_r Tm n.ws (-128) 127 hw) rfl rfl rfl trivial (by simp only [go_sem, hP, hn]; try trivial) (by simp only [go_sem, hP, hn]; try rfl) (by rw [hn]; decide) (by rfl) ?_; simp only [go_sem, hP, hn]; (repeat refine vc ?_); refine hK _ ?_; clear K hK
      (repeat (first | (refine TR.imp ?_; intro K hK; simp only [go_sem, hP, hn]; (repeat refine vc ?_); refine hK _ ?_; clear K hK) | refine TS.imp ?_ | refine n9 (by decide) ?_))
      refine TR.imp ?_; intro K hK; simp only [go_sem, hP, hn]; (repeat refine vc ?_); refine c1 (by rw [hP, hT]; exact all_r Tm n.bs (-16777216) 16777216 hs) rfl rfl rfl trivial (by simp only [go_sem, hP, hn]; try trivial) (by simp only [go_sem, hP, hn]; try rfl) (by rw [hn]; decide) (by rfl) ?_; simp only [go_sem, hP, hn]; (repeat refine vc ?_); refine hK _ ?_; clear K hK
      (repeat (first | (refine TR.imp ?_; intro K hK; simp only [go_sem, hP, hn]; (repeat refine vc ?_); refine hK _ ?_; clear K hK) | refine TS.imp ?_ | refine n9 (by decide) ?_))
      (first | refine d1 (.p true 0 (.p true 1 (.p true 2 (.p true 3 (.p true 4 (.alt 5 (.p false 6 (.p false 7 (.p true 8 (.p true 9 (.p true 10 (.p true 11 (.p true 12 (.p false 13 (.p false 14 (.p true 15 (.p true 16 (.p false 17 (.p false 18 (.p true 19 (.p true 20 (.p false 21 .nil)))))))))))))))) .nil)))))) [] (by rw [hP]; kernel_rfl) (by kernel_rfl) (by simp only [go_sem, hP, hn]; try simp) (fun _ _ h => h) fun K hK => ?_ | refine d2 (.p true 0 (.p true 1 (.p true 2 (.p true 3 (.p true 4 (.alt 5 (.p false 6 (.p false 7 (.p true 8 (.p true 9 (.p true 10 (.p true 11 (.p true 12 (.p false 13 (.p false 14 (.p true 15 (.p true 16 (.p false 17 (.p false 18 (.p true 19 (.p true 20 (.p false 21 .nil)))))))))))))))) .nil)))))) [] (by rw [hP]; kernel_rfl) (by kernel_rfl) (by simp only [go_sem, hP, hn]; try simp) (fun _ _ h => h) fun K hK => ?_ | refine d4 (.p true 0 (.p true 1 (.p true 2 (.p true 3 (.p true 4 (.alt 5 (.p false 6 (.p false 7 (.p true 8 (.p true 9 (.p true 10 (.p true 11 (.p true 12 (.p false 13 (.p false 14 (.p true 15 (.p true 16 (.p false 17 (.p false 18 (.p true 19 (.p true 20 (.p false 21 .nil)))))))))))))))) .nil)))))) [] (by rw [hP]; kernel_rfl) (by kernel_rfl) (by simp only [go_sem, hP, hn]; try simp) (fun _ _ h => h) fun K hK => ?_); simp only [go_sem, hP, hn]; (repeat refine vc ?_); refine p1 (by rw [hP, hT]; exact weights_r Tm n v) rfl rfl rfl trivial (by simp only [go_sem, hP, hn]; try trivial) (by simp only [go_sem, hP, hn]; try rfl) (by rw [hn]; decide) (by rfl) ?_; simp only [go_sem, hP, hn]; (repeat refine vc ?_); refine hK _ ?_; clear K hK
      refine Tr.cond rfl (fun h21 => ?_) (fun h21 => ?_)
      · (repeat (first | (refine TR.imp ?_; intro K hK; simp only [go_sem, hP, hn]; (repeat refine vc ?_); refine hK _ ?_; clear K hK) | refine TS.imp ?_ | refine n9 (by decide) ?_))
        simp only [RetQ, go_sem]
        have e : n.s21 v (n.wid) = true := h21
        unfold Nd.sized; simp only [h4, h8, h10, h13, hw0, h2, e, if_true, Bool.false_eq_true, if_false]
      · (repeat (first | (refine TR.imp ?_; intro K hK; simp only [go_sem, hP, hn]; (repeat refine vc ?_); refine hK _ ?_; clear K hK) | refine TS.imp ?_ | refine n9 (by decide) ?_))
        refine Tr.le (Le.keep [2]) ?_; simp only [List.map_cons, List.map_nil, lk, Nat.reduceEqDiff, reduceIte]
        refine TR.imp ?_; intro K hK; simp only [go_sem, hP, hn]; (repeat refine vc ?_); refine c1 (by rw [hP, hT]; exact in_r Tm n.mult 0 32767) rfl rfl rfl trivial (by simp only [go_sem, hP, hn]; try trivial) (by simp only [go_sem, hP, hn]; try rfl) (by rw [hn]; decide) (by rfl) ?_; simp only [go_sem, hP, hn]; (repeat refine vc ?_); refine hK _ ?_; clear K hK
        (repeat (first | (refine TR.imp ?_; intro K hK; simp only [go_sem, hP, hn]; (repeat refine vc ?_); refine hK _ ?_; clear K hK) | refine TS.imp ?_ | refine n9 (by decide) ?_))
        refine TR.imp ?_; intro K hK; simp only [go_sem, hP, hn]; (repeat refine vc ?_); refine c1 (by rw [hP, hT]; exact in_r Tm n.shift 0 30) rfl rfl rfl trivial (by simp only [go_sem, hP, hn]; try trivial) (by simp only [go_sem, hP, hn]; try rfl) (by rw [hn]; decide) (by rfl) ?_; simp only [go_sem, hP, hn]; (repeat refine vc ?_); refine hK _ ?_; clear K hK
        (repeat (first | (refine TR.imp ?_; intro K hK; simp only [go_sem, hP, hn]; (repeat refine vc ?_); refine hK _ ?_; clear K hK) | refine TS.imp ?_ | refine n9 (by decide) ?_))
        refine TR.imp ?_; intro K hK; simp only [go_sem, hP, hn]; (repeat refine vc ?_); refine c1 (by rw [hP, hT]; exact in_r Tm n.low (-2147483648) 2147483647) rfl rfl rfl trivial (by simp only [go_sem, hP, hn]; try trivial) (by simp only [go_sem, hP, hn]; try rfl) (by rw [hn]; decide) (by rfl) ?_; simp only [go_sem, hP, hn]; (repeat refine vc ?_); refine hK _ ?_; clear K hK
        (repeat (first | (refine TR.imp ?_; intro K hK; simp only [go_sem, hP, hn]; (repeat refine vc ?_); refine hK _ ?_; clear K hK) | refine TS.imp ?_ | refine n9 (by decide) ?_))
        refine TR.imp ?_; intro K hK; simp only [go_sem, hP, hn]; (repeat refine vc ?_); refine c1 (by rw [hP, hT]; exact in_r Tm n.high (-2147483648) 2147483647) rfl rfl rfl trivial (by simp only [go_sem, hP, hn]; try trivial) (by simp only [go_sem, hP, hn]; try rfl) (by rw [hn]; decide) (by rfl) ?_; simp only [go_sem, hP, hn]; (repeat refine vc ?_); refine hK _ ?_; clear K hK
        (repeat (first | (refine TR.imp ?_; intro K hK; simp only [go_sem, hP, hn]; (repeat refine vc ?_); refine hK _ ?_; clear K hK) | refine TS.imp ?_ | refine n9 (by decide) ?_))
        simp only [RetQ, go_sem]
        have e : n.s27 = (inB n.mult 0 32767 && inB n.shift 0 30 && inB n.low (-2147483648) 2147483647 && inB n.high (-2147483648) 2147483647 && decide (n.low ≤ n.high)) := rfl
        have e1 : n.s21 v (n.wid) = false := h21
        unfold Nd.sized; simp only [h4, h8, h10, h13, hw0, h2, e1, e, if_true, Bool.false_eq_true, if_false]
  · (repeat (first | (refine TR.imp ?_; intro K hK; simp only [go_sem, hP, hn]; (repeat refine vc ?_); refine hK _ ?_; clear K hK) | refine TS.imp ?_ | refine n9 (by decide) ?_))
    refine Tr.le (Le.keep [2]) ?_; simp only [List.map_cons, List.map_nil, lk, Nat.reduceEqDiff, reduceIte]
    refine TR.imp ?_; intro K hK; simp only [go_sem, hP, hn]; (repeat refine vc ?_); refine c1 (by rw [hP, hT]; exact in_r Tm n.mult 0 32767) rfl rfl rfl trivial (by simp only [go_sem, hP, hn]; try trivial) (by simp only [go_sem, hP, hn]; try rfl) (by rw [hn]; decide) (by rfl) ?_; simp only [go_sem, hP, hn]; (repeat refine vc ?_); refine hK _ ?_; clear K hK
    (repeat (first | (refine TR.imp ?_; intro K hK; simp only [go_sem, hP, hn]; (repeat refine vc ?_); refine hK _ ?_; clear K hK) | refine TS.imp ?_ | refine n9 (by decide) ?_))
    refine TR.imp ?_; intro K hK; simp only [go_sem, hP, hn]; (repeat refine vc ?_); refine c1 (by rw [hP, hT]; exact in_r Tm n.shift 0 30) rfl rfl rfl trivial (by simp only [go_sem, hP, hn]; try trivial) (by simp only [go_sem, hP, hn]; try rfl) (by rw [hn]; decide) (by rfl) ?_; simp only [go_sem, hP, hn]; (repeat refine vc ?_); refine hK _ ?_; clear K hK
    (repeat (first | (refine TR.imp ?_; intro K hK; simp only [go_sem, hP, hn]; (repeat refine vc ?_); refine hK _ ?_; clear K hK) | refine TS.imp ?_ | refine n9 (by decide) ?_))
    refine TR.imp ?_; intro K hK; simp only [go_sem, hP, hn]; (repeat refine vc ?_); refine c1 (by rw [hP, hT]; exact in_r Tm n.low (-2147483648) 2147483647) rfl rfl rfl trivial (by simp only [go_sem, hP, hn]; try trivial) (by simp only [go_sem, hP, hn]; try rfl) (by rw [hn]; decide) (by rfl) ?_; simp only [go_sem, hP, hn]; (repeat refine vc ?_); refine hK _ ?_; clear K hK
    (repeat (first | (refine TR.imp ?_; intro K hK; simp only [go_sem, hP, hn]; (repeat refine vc ?_); refine hK _ ?_; clear K hK) | refine TS.imp ?_ | refine n9 (by decide) ?_))
    refine TR.imp ?_; intro K hK; simp only [go_sem, hP, hn]; (repeat refine vc ?_); refine c1 (by rw [hP, hT]; exact in_r Tm n.high (-2147483648) 2147483647) rfl rfl rfl trivial (by simp only [go_sem, hP, hn]; try trivial) (by simp only [go_sem, hP, hn]; try rfl) (by rw [hn]; decide) (by rfl) ?_; simp only [go_sem, hP, hn]; (repeat refine vc ?_); refine hK _ ?_; clear K hK
    (repeat (first | (refine TR.imp ?_; intro K hK; simp only [go_sem, hP, hn]; (repeat refine vc ?_); refine hK _ ?_; clear K hK) | refine TS.imp ?_ | refine n9 (by decide) ?_))
    simp only [RetQ, go_sem]
    have e : n.s27 = (inB n.mult 0 32767 && inB n.shift 0 30 && inB n.low (-2147483648) 2147483647 && inB n.high (-2147483648) 2147483647 && decide (n.low ≤ n.high)) := rfl
    unfold Nd.sized; simp only [h4, h8, h10, h13, hw0, e, Bool.false_eq_true, if_false]
theorem Check_r {T : World → Prop} (Tm : TP T) (n : Nd) (l : List Int) (hw : n.ws.length ≤ 65536) (hs : n.bs.length ≤ 65536) (hl : l.length ≤ 65536) (hi : n.inn.length ≤ 65536) : Ct Go.Proofs.Tryd.prog T 50 [.agg n.cs, .d (.row [.i .i64 0] (l.map intC))] true (fun r => r = .d (.i .i64 (n.rchk l))) := by
  refine Ct_of Tm Go.Proofs.Tryd.func50 rfl rfl Go.Proofs.Tryd.ntmps50 (by simp) (rs := [.tmp 4]) rfl fun E hP hn hT => ?_
  (repeat (first | (refine TR.imp ?_; intro K hK; simp only [go_sem, hP, hn]; (repeat refine vc ?_); refine hK _ ?_; clear K hK) | refine TS.imp ?_ | refine n9 (by decide) ?_))
  refine TR.imp ?_; intro K hK; simp only [go_sem, hP, hn]; (repeat refine vc ?_); refine c1 (by rw [hP, hT]; exact all_r Tm l 1 16 hl) rfl rfl rfl trivial (by simp only [go_sem, hP, hn]; try trivial) (by simp only [go_sem, hP, hn]; try rfl) (by rw [hn]; decide) (by rfl) ?_; simp only [go_sem, hP, hn]; (repeat refine vc ?_); refine hK _ ?_; clear K hK
  (repeat (first | (refine TR.imp ?_; intro K hK; simp only [go_sem, hP, hn]; (repeat refine vc ?_); refine hK _ ?_; clear K hK) | refine TS.imp ?_ | refine n9 (by decide) ?_))
  refine Tr.cond rfl (fun h1 => ?_) (fun h1 => ?_)
  · (repeat (first | (refine TR.imp ?_; intro K hK; simp only [go_sem, hP, hn]; (repeat refine vc ?_); refine hK _ ?_; clear K hK) | refine TS.imp ?_ | refine n9 (by decide) ?_))
    simp only [RetQ, go_sem]
    have e : n.chk1 l = true := h1
    unfold Nd.rchk; rw [e]; rfl
  replace h1 : n.chk1 l = false := h1
  (repeat (first | (refine TR.imp ?_; intro K hK; simp only [go_sem, hP, hn]; (repeat refine vc ?_); refine hK _ ?_; clear K hK) | refine TS.imp ?_ | refine n9 (by decide) ?_))
  refine TR.imp ?_; intro K hK; simp only [go_sem, hP, hn]; (repeat refine vc ?_); refine c1 (by rw [hP, hT]; exact in_r Tm n.k 1 12) rfl rfl rfl trivial (by simp only [go_sem, hP, hn]; try trivial) (by simp only [go_sem, hP, hn]; try rfl) (by rw [hn]; decide) (by rfl) ?_; simp only [go_sem, hP, hn]; (repeat refine vc ?_); refine hK _ ?_; clear K hK
  (repeat (first | (refine TR.imp ?_; intro K hK; simp only [go_sem, hP, hn]; (repeat refine vc ?_); refine hK _ ?_; clear K hK) | refine TS.imp ?_ | refine n9 (by decide) ?_))
  refine TR.imp ?_; intro K hK; simp only [go_sem, hP, hn]; (repeat refine vc ?_); refine c1 (by rw [hP, hT]; exact Many_r Tm n.k) rfl rfl rfl trivial (by simp only [go_sem, hP, hn]; try trivial) (by simp only [go_sem, hP, hn]; try rfl) (by rw [hn]; decide) (by rfl) ?_; simp only [go_sem, hP, hn]; (repeat refine vc ?_); refine hK _ ?_; clear K hK
  (repeat (first | (refine TR.imp ?_; intro K hK; simp only [go_sem, hP, hn]; (repeat refine vc ?_); refine hK _ ?_; clear K hK) | refine TS.imp ?_ | refine n9 (by decide) ?_))
  refine TR.imp ?_; intro K hK; simp only [go_sem, hP, hn]; (repeat refine vc ?_); refine c1 (by rw [hP, hT]; exact weighs_r Tm n.k) rfl rfl rfl trivial (by simp only [go_sem, hP, hn]; try trivial) (by simp only [go_sem, hP, hn]; try rfl) (by rw [hn]; decide) (by rfl) ?_; simp only [go_sem, hP, hn]; (repeat refine vc ?_); refine hK _ ?_; clear K hK
  (repeat (first | (refine TR.imp ?_; intro K hK; simp only [go_sem, hP, hn]; (repeat refine vc ?_); refine hK _ ?_; clear K hK) | refine TS.imp ?_ | refine n9 (by decide) ?_))
  refine Tr.cond rfl (fun h7 => ?_) (fun h7 => ?_)
  · (repeat (first | (refine TR.imp ?_; intro K hK; simp only [go_sem, hP, hn]; (repeat refine vc ?_); refine hK _ ?_; clear K hK) | refine TS.imp ?_ | refine n9 (by decide) ?_))
    simp only [RetQ, go_sem]
    have e : n.r7 l = true := h7
    unfold Nd.rchk; rw [h1, e]; rfl
  replace h7 : n.r7 l = false := h7
  (repeat (first | (refine TR.imp ?_; intro K hK; simp only [go_sem, hP, hn]; (repeat refine vc ?_); refine hK _ ?_; clear K hK) | refine TS.imp ?_ | refine n9 (by decide) ?_))
  refine Tr.cond rfl (fun h9 => ?_) (fun h9 => ?_)
  · (repeat (first | (refine TR.imp ?_; intro K hK; simp only [go_sem, hP, hn]; (repeat refine vc ?_); refine hK _ ?_; clear K hK) | refine TS.imp ?_ | refine n9 (by decide) ?_))
    simp only [RetQ, go_sem]
    have e : n.r9 = true := h9
    unfold Nd.rchk; rw [h1, h7, e]; rfl
  replace h9 : n.r9 = false := h9
  (repeat (first | (refine TR.imp ?_; intro K hK; simp only [go_sem, hP, hn]; (repeat refine vc ?_); refine hK _ ?_; clear K hK) | refine TS.imp ?_ | refine n9 (by decide) ?_))
  refine Tr.le (Le.keep [1, 2]) ?_; simp only [List.map_cons, List.map_nil, lk, Nat.reduceEqDiff, reduceIte]
  refine TR.imp ?_; intro K hK; simp only [go_sem, hP, hn]; (repeat refine vc ?_); refine c1 (by rw [hP, hT]; exact else0_r Tm n) rfl rfl rfl trivial (by simp only [go_sem, hP, hn]; try trivial) (by simp only [go_sem, hP, hn]; try rfl) (by rw [hn]; decide) (by rfl) ?_; simp only [go_sem, hP, hn]; (repeat refine vc ?_); refine hK _ ?_; clear K hK
  (repeat (first | (refine TR.imp ?_; intro K hK; simp only [go_sem, hP, hn]; (repeat refine vc ?_); refine hK _ ?_; clear K hK) | refine TS.imp ?_ | refine n9 (by decide) ?_))
  refine Tr.cond rfl (fun he => ?_) (fun he => ?_)
  · (repeat (first | (refine TR.imp ?_; intro K hK; simp only [go_sem, hP, hn]; (repeat refine vc ?_); refine hK _ ?_; clear K hK) | refine TS.imp ?_ | refine n9 (by decide) ?_))
    simp only [RetQ, go_sem]
    unfold Nd.rchk; rw [h1, h7, h9, he]; rfl
  have hne : 0 < l.length := List.length_pos_iff.2 fun e => by subst e; rw [Nd.r7_nil] at h7; cases h7
  (repeat (first | (refine TR.imp ?_; intro K hK; simp only [go_sem, hP, hn]; (repeat refine vc ?_); refine hK _ ?_; clear K hK) | refine TS.imp ?_ | refine n9 (by decide) ?_))
  (first | refine d1 (.p true 0 (.p true 1 (.p true 2 (.p true 3 (.alt 4 (.p false 5 .nil) .nil))))) [] (by rw [hP]; kernel_rfl) (by kernel_rfl) (by simp only [go_sem, hP, hn]; try simp) (fun _ _ h => h) fun K hK => ?_ | refine d2 (.p true 0 (.p true 1 (.p true 2 (.p true 3 (.alt 4 (.p false 5 .nil) .nil))))) [] (by rw [hP]; kernel_rfl) (by kernel_rfl) (by simp only [go_sem, hP, hn]; try simp) (fun _ _ h => h) fun K hK => ?_ | refine d4 (.p true 0 (.p true 1 (.p true 2 (.p true 3 (.alt 4 (.p false 5 .nil) .nil))))) [] (by rw [hP]; kernel_rfl) (by kernel_rfl) (by simp only [go_sem, hP, hn]; try simp) (fun _ _ h => h) fun K hK => ?_); simp only [go_sem, hP, hn]; (repeat refine vc ?_); refine p1 (by rw [hP, hT]; exact sized_r Tm n (rd l 0) hw hs) rfl rfl rfl trivial (by simp only [go_sem, hP, hn]; try trivial) (by simp only [go_sem, hP, hn]; try rfl) (by rw [hn]; decide) (by rfl) ?_; simp only [go_sem, hP, hn]; (repeat refine vc ?_); refine hK _ ?_; clear K hK
  (repeat (first | (refine TR.imp ?_; intro K hK; simp only [go_sem, hP, hn]; (repeat refine vc ?_); refine hK _ ?_; clear K hK) | refine TS.imp ?_ | refine n9 (by decide) ?_))
  refine Tr.cond rfl (fun hz => ?_) (fun hz => ?_)
  · (repeat (first | (refine TR.imp ?_; intro K hK; simp only [go_sem, hP, hn]; (repeat refine vc ?_); refine hK _ ?_; clear K hK) | refine TS.imp ?_ | refine n9 (by decide) ?_))
    simp only [RetQ, go_sem]
    unfold Nd.rchk; rw [h1, h7, h9, he, hz]; rfl
  (repeat (first | (refine TR.imp ?_; intro K hK; simp only [go_sem, hP, hn]; (repeat refine vc ?_); refine hK _ ?_; clear K hK) | refine TS.imp ?_ | refine n9 (by decide) ?_))
  have e0 : n.rchk l = n.chkL (rd l 0) 0 l := by unfold Nd.rchk; rw [h1, h7, h9, he, hz]; rfl
  refine Tr.loop (fun m s => ∃ j s0 : Int, s = ⟨[(12, .d (.i .i64 j)), (1, .d (.row [.i .i64 0] (l.map intC))), (11, .d (.i .i64 s0)), (2, .ptr 2 0)], [(2, .box 27 n.cs)]⟩ ∧ 0 ≤ j ∧ j + m = l.length ∧ n.rchk l = n.chkL (rd l 0) s0 (l.drop j.toNat)) l.length ⟨_, (Le.mv (by simp only [go_sem, hP, hn]; first | done | (simp; done) | (simp [intC]; done) | (repeat (first | rfl | constructor))) (by simp only [go_sem, hP, hn]; first | done | (simp; done) | (simp [intC]; done) | (repeat (first | rfl | constructor)))), 0, 0, rfl, by omega, by omega, by simpa using e0⟩ ?_
  rintro m s ⟨j, s0, rfl, h0, hm, hc⟩
  (repeat (first | (refine TR.imp ?_; intro K hK; simp only [go_sem, hP, hn]; (repeat refine vc ?_); refine hK _ ?_; clear K hK) | refine TS.imp ?_ | refine n9 (by decide) ?_))
  refine Tr.cond rfl (fun hb => ?_) (fun hb => ?_)
  · have hj : j < l.length := by simpa using hb
    rw [drop_rd h0 hj] at hc
    (repeat (first | (refine TR.imp ?_; intro K hK; simp only [go_sem, hP, hn]; (repeat refine vc ?_); refine hK _ ?_; clear K hK) | refine TS.imp ?_ | refine n9 (by decide) ?_))
    (first | refine d1 (.p true 0 (.p true 1 (.p true 2 (.p true 3 (.p true 4 (.p true 5 (.p true 6 (.p true 7 (.p true 8 (.p true 9 (.p true 10 (.p true 11 (.p true 12 .nil))))))))))))) [] (by rw [hP]; kernel_rfl) (by kernel_rfl) (by simp only [go_sem, hP, hn]; try simp) (fun _ _ h => h) fun K hK => ?_ | refine d2 (.p true 0 (.p true 1 (.p true 2 (.p true 3 (.p true 4 (.p true 5 (.p true 6 (.p true 7 (.p true 8 (.p true 9 (.p true 10 (.p true 11 (.p true 12 .nil))))))))))))) [] (by rw [hP]; kernel_rfl) (by kernel_rfl) (by simp only [go_sem, hP, hn]; try simp) (fun _ _ h => h) fun K hK => ?_ | refine d4 (.p true 0 (.p true 1 (.p true 2 (.p true 3 (.p true 4 (.p true 5 (.p true 6 (.p true 7 (.p true 8 (.p true 9 (.p true 10 (.p true 11 (.p true 12 .nil))))))))))))) [] (by rw [hP]; kernel_rfl) (by kernel_rfl) (by simp only [go_sem, hP, hn]; try simp) (fun _ _ h => h) fun K hK => ?_); simp only [go_sem, hP, hn]; (repeat refine vc ?_); refine hK _ ?_; clear K hK
    refine Tr.cond rfl (fun hd => ?_) (fun hd => ?_)
    · (repeat (first | (refine TR.imp ?_; intro K hK; simp only [go_sem, hP, hn]; (repeat refine vc ?_); refine hK _ ?_; clear K hK) | refine TS.imp ?_ | refine n9 (by decide) ?_))
      simp only [RetQ, go_sem]
      rw [hc]; unfold Nd.chkL; rw [if_pos hd]
    · (repeat (first | (refine TR.imp ?_; intro K hK; simp only [go_sem, hP, hn]; (repeat refine vc ?_); refine hK _ ?_; clear K hK) | refine TS.imp ?_ | refine n9 (by decide) ?_))
      rw [w64 (x := j + 1) (by omega) (by omega)]
      refine ⟨m - 1, _, by omega, ?_, j + 1, wrap64 (s0 + rd l j), rfl, by omega, by omega, ?_⟩
      · exact (Le.mv (by simp only [go_sem, hP, hn]; first | done | (simp; done) | (simp [intC]; done) | (repeat (first | rfl | constructor))) (by simp only [go_sem, hP, hn]; first | done | (simp; done) | (simp [intC]; done) | (repeat (first | rfl | constructor))))
      rw [hc, show (j + 1).toNat = j.toNat + 1 by omega]; conv => lhs; unfold Nd.chkL
      rw [if_neg (by rw [hd]; decide)]
  · rw [drop_end (by simpa using hb)] at hc
    (repeat (first | (refine TR.imp ?_; intro K hK; simp only [go_sem, hP, hn]; (repeat refine vc ?_); refine hK _ ?_; clear K hK) | refine TS.imp ?_ | refine n9 (by decide) ?_))
    refine Tr.cond rfl (fun hd => ?_) (fun hd => ?_)
    · (repeat (first | (refine TR.imp ?_; intro K hK; simp only [go_sem, hP, hn]; (repeat refine vc ?_); refine hK _ ?_; clear K hK) | refine TS.imp ?_ | refine n9 (by decide) ?_))
      simp only [RetQ, go_sem]
      rw [hc]; unfold Nd.chkL; rw [if_pos hd]
    · (repeat (first | (refine TR.imp ?_; intro K hK; simp only [go_sem, hP, hn]; (repeat refine vc ?_); refine hK _ ?_; clear K hK) | refine TS.imp ?_ | refine n9 (by decide) ?_))
      simp only [RetQ, go_sem]
      rw [hc]; unfold Nd.chkL; rw [if_neg (by rw [hd]; decide)]
theorem Width_r {T : World → Prop} (Tm : TP T) (n : Nd) (l : List Int) (hw : n.ws.length ≤ 65536) (hs : n.bs.length ≤ 65536) (hl : l.length ≤ 65536) (hi : n.inn.length ≤ 65536) : Ct Go.Proofs.Tryd.prog T 18 [.agg n.cs, .d (.row [.i .i64 0] (l.map intC))] true (fun r => r = .d (.i .i64 (n.rwide l))) := by
  refine Ct_of Tm Go.Proofs.Tryd.func18 rfl rfl Go.Proofs.Tryd.ntmps18 (by simp) (rs := [.tmp 4]) rfl fun E hP hn hT => ?_
  (repeat (first | (refine TR.imp ?_; intro K hK; simp only [go_sem, hP, hn]; (repeat refine vc ?_); refine hK _ ?_; clear K hK) | refine TS.imp ?_ | refine n9 (by decide) ?_))
  refine TR.imp ?_; intro K hK; simp only [go_sem, hP, hn]; (repeat refine vc ?_); refine c1 (by rw [hP, hT]; exact Check_r Tm n l hw hs hl hi) rfl rfl rfl trivial (by simp only [go_sem, hP, hn]; try trivial) (by simp only [go_sem, hP, hn]; try rfl) (by rw [hn]; decide) (by rfl) ?_; simp only [go_sem, hP, hn]; (repeat refine vc ?_); refine hK _ ?_; clear K hK
  refine Tr.cond rfl (fun h1 => ?_) (fun h1 => ?_)
  · (repeat (first | (refine TR.imp ?_; intro K hK; simp only [go_sem, hP, hn]; (repeat refine vc ?_); refine hK _ ?_; clear K hK) | refine TS.imp ?_ | refine n9 (by decide) ?_))
    simp only [RetQ, go_sem]
    unfold Nd.rwide; rw [h1]; rfl
  have hne : 0 < l.length := List.length_pos_iff.2 fun e => by subst e; rw [← chk_eq] at h1; exact n.chk_ne (by simpa using h1)
  (repeat (first | (refine TR.imp ?_; intro K hK; simp only [go_sem, hP, hn]; (repeat refine vc ?_); refine hK _ ?_; clear K hK) | refine TS.imp ?_ | refine n9 (by decide) ?_))
  refine Tr.cond rfl (fun h2 => ?_) (fun h2 => ?_)
  · (repeat (first | (refine TR.imp ?_; intro K hK; simp only [go_sem, hP, hn]; (repeat refine vc ?_); refine hK _ ?_; clear K hK) | refine TS.imp ?_ | refine n9 (by decide) ?_))
    simp only [RetQ, go_sem]
    unfold Nd.rwide; rw [h1, h2]; rfl
  (repeat (first | (refine TR.imp ?_; intro K hK; simp only [go_sem, hP, hn]; (repeat refine vc ?_); refine hK _ ?_; clear K hK) | refine TS.imp ?_ | refine n9 (by decide) ?_))
  refine Tr.cond rfl (fun h3 => ?_) (fun h3 => ?_)
  · (repeat (first | (refine TR.imp ?_; intro K hK; simp only [go_sem, hP, hn]; (repeat refine vc ?_); refine hK _ ?_; clear K hK) | refine TS.imp ?_ | refine n9 (by decide) ?_))
    simp only [RetQ, go_sem]
    unfold Nd.rwide; rw [h1, h2, h3]; rfl
  (repeat (first | (refine TR.imp ?_; intro K hK; simp only [go_sem, hP, hn]; (repeat refine vc ?_); refine hK _ ?_; clear K hK) | refine TS.imp ?_ | refine n9 (by decide) ?_))
  refine Tr.cond rfl (fun h4 => ?_) (fun h4 => ?_)
  · (repeat (first | (refine TR.imp ?_; intro K hK; simp only [go_sem, hP, hn]; (repeat refine vc ?_); refine hK _ ?_; clear K hK) | refine TS.imp ?_ | refine n9 (by decide) ?_))
    simp only [RetQ, go_sem]
    unfold Nd.rwide; rw [h1, h2, h3, h4]; rfl
  · (repeat (first | (refine TR.imp ?_; intro K hK; simp only [go_sem, hP, hn]; (repeat refine vc ?_); refine hK _ ?_; clear K hK) | refine TS.imp ?_ | refine n9 (by decide) ?_))
    have e0 : n.rwide l = sumL 0 l := by unfold Nd.rwide; rw [h1, h2, h3, h4]; rfl
    refine Tr.loop (fun m s => ∃ j s0 : Int, s = ⟨[(6, .d (.i .i64 j)), (1, .d (.row [.i .i64 0] (l.map intC))), (5, .d (.i .i64 s0))], []⟩ ∧ 0 ≤ j ∧ j + m = l.length ∧ n.rwide l = sumL s0 (l.drop j.toNat)) l.length ⟨_, (Le.mv (by simp only [go_sem, hP, hn]; first | done | (simp; done) | (simp [intC]; done) | (repeat (first | rfl | constructor))) (by simp only [go_sem, hP, hn]; first | done | (simp; done) | (simp [intC]; done) | (repeat (first | rfl | constructor)))), 0, 0, rfl, by omega, by omega, by simpa using e0⟩ ?_
    rintro m s ⟨j, s0, rfl, h0, hm, hc⟩
    (repeat (first | (refine TR.imp ?_; intro K hK; simp only [go_sem, hP, hn]; (repeat refine vc ?_); refine hK _ ?_; clear K hK) | refine TS.imp ?_ | refine n9 (by decide) ?_))
    refine Tr.cond rfl (fun hb => ?_) (fun hb => ?_)
    · have hj : j < l.length := by simpa using hb
      rw [drop_rd h0 hj] at hc
      (repeat (first | (refine TR.imp ?_; intro K hK; simp only [go_sem, hP, hn]; (repeat refine vc ?_); refine hK _ ?_; clear K hK) | refine TS.imp ?_ | refine n9 (by decide) ?_))
      rw [w64 (x := j + 1) (by omega) (by omega)]
      refine ⟨m - 1, _, by omega, ?_, j + 1, wrap64 (s0 + rd l j), rfl, by omega, by omega, ?_⟩
      · exact (Le.mv (by simp only [go_sem, hP, hn]; first | done | (simp; done) | (simp [intC]; done) | (repeat (first | rfl | constructor))) (by simp only [go_sem, hP, hn]; first | done | (simp; done) | (simp [intC]; done) | (repeat (first | rfl | constructor))))
      rw [hc, show (j + 1).toNat = j.toNat + 1 by omega]; rfl
    · rw [drop_end (by simpa using hb)] at hc
      (repeat (first | (refine TR.imp ?_; intro K hK; simp only [go_sem, hP, hn]; (repeat refine vc ?_); refine hK _ ?_; clear K hK) | refine TS.imp ?_ | refine n9 (by decide) ?_))
      simp only [RetQ, go_sem]
      rw [hc]; rfl


theorem rSpan_win (n : Nd) (sz gp : Int) (h : rFour n.k = true) (s0 : 1 ≤ sz) (s1 : sz ≤ 4) (g0 : 1 ≤ gp) (g1 : gp ≤ 3) (hs : n.size = sz) (hg : n.gap = gp) : 1 ≤ n.rSpan ∧ n.rSpan ≤ 10 := by
  have e1 : (n.k == 12) = false := four_ne _ h
  have e2 : rWin n.k = true := by rw [rWin_four, h]; rfl
  unfold Nd.rSpan
  rw [e1, e2, hs, hg]
  have hm := mul_le (sz - 1) 3 gp 3 (by omega) (by omega) (by omega) g1
  simp only [Bool.false_eq_true, if_false, Bool.not_true]
  rw [w64 (x := sz - 1) (by omega) (by omega), w64 (x := (sz - 1) * gp) (by omega) (by omega), w64 (by omega) (by omega)]
  omega
theorem window_c {T : World → Prop} (Tm : TP T) (l : List Int) (i : Int) (n : Nd) (hk : rFour n.k = true) (hl : l.length ≤ 4096) (h0 : 0 ≤ i) (h1 : i ≤ l.length) : C1 Go.Proofs.Tryd.prog T 62 1000 (rowO l i) [.ptr 1000 0, .agg n.cs] (fun r o => ∃ sz st gp lf rt j : Int, r = .agg (n.win sz st gp lf rt).cs ∧ o = rowO l j ∧ 1 ≤ sz ∧ sz ≤ 4 ∧ 1 ≤ st ∧ st ≤ 3 ∧ 1 ≤ gp ∧ gp ≤ 3 ∧ 0 ≤ lf ∧ lf < (n.win sz st gp lf rt).rSpan ∧ 0 ≤ rt ∧ rt < (n.win sz st gp lf rt).rSpan ∧ 0 ≤ j ∧ j ≤ l.length) := by
  refine Cg_of [1000] Tm Go.Proofs.Tryd.func62 rfl rfl Go.Proofs.Tryd.ntmps62 (by simp) rfl (rs := [.cell 4 27]) rfl fun E hP hn hT hpn => ?_
  (repeat (first | (refine TR.imp ?_; intro K hK; simp only [go_sem, hP, hn]; (repeat refine vc ?_); refine hK _ ?_; clear K hK) | refine TS.imp ?_ | refine n9 (by decide) ?_))
  refine TR.imp ?_; intro K hK; simp only [go_sem, hP, hn]
  (repeat refine vc ?_)
  refine CallN_c1 (by rw [hP, hT]; exact Next_c Tm l i 4 hl h0 h1 (by decide) (by decide) ) rfl rfl rfl trivial (by simp only [go_sem, hP, hn]; try trivial) (by simp only [go_sem, hP, hn]; try rfl) (by simp only [go_sem, hP, hn]; try rfl) (by rw [hn]; decide) (fun r ob' hr => ?_); obtain  ⟨v1, j1, rfl, rfl, a1, a2, b1, b2⟩ := hr; simp only [go_sem, hP, hn]; (repeat refine vc ?_)
  refine hK _ ?_; clear K hK
  refine TR.imp ?_; intro K hK; simp only [go_sem, hP, hn]
  (repeat refine vc ?_)
  refine CallN_c1 (by rw [hP, hT]; exact Next_c Tm l j1 3 hl b1 b2 (by decide) (by decide) ) rfl rfl rfl trivial (by simp only [go_sem, hP, hn]; try trivial) (by simp only [go_sem, hP, hn]; try rfl) (by simp only [go_sem, hP, hn]; try rfl) (by rw [hn]; decide) (fun r ob' hr => ?_); obtain  ⟨v2, j2, rfl, rfl, q1, q2, b3, b4⟩ := hr; simp only [go_sem, hP, hn]; (repeat refine vc ?_)
  refine hK _ ?_; clear K hK
  refine TR.imp ?_; intro K hK; simp only [go_sem, hP, hn]
  (repeat refine vc ?_)
  refine CallN_c1 (by rw [hP, hT]; exact Next_c Tm l j2 3 hl b3 b4 (by decide) (by decide) ) rfl rfl rfl trivial (by simp only [go_sem, hP, hn]; try trivial) (by simp only [go_sem, hP, hn]; try rfl) (by simp only [go_sem, hP, hn]; try rfl) (by rw [hn]; decide) (fun r ob' hr => ?_); obtain  ⟨v3, j3, rfl, rfl, d1, d2, b5, b6⟩ := hr; simp only [go_sem, hP, hn]; (repeat refine vc ?_)
  refine hK _ ?_; clear K hK
  rw [w64 (x := 1 + v1) (by omega) (by omega), w64 (x := 1 + v2) (by omega) (by omega), w64 (x := 1 + v3) (by omega) (by omega)]
  have hsp := rSpan_win (n.win (1 + v1) (1 + v2) (1 + v3) n.left n.right) (1 + v1) (1 + v3) hk (by omega) (by omega) (by omega) (by omega) rfl rfl
  refine Tr.le (Le.keep [0, 1, 3, 4]) ?_; simp only [List.map_cons, List.map_nil, lk, Nat.reduceEqDiff, reduceIte]
  refine TR.imp ?_; intro K hK; simp only [go_sem, hP, hn]
  (repeat refine vc ?_)
  refine c1 (by rw [hP, hT]; exact Span_r Tm (n.win (1 + v1) (1 + v2) (1 + v3) n.left n.right)) rfl rfl rfl trivial (by simp only [go_sem, hP, hn]; try trivial) (by simp only [go_sem, hP, hn]; try rfl) (by rw [hn]; decide) (by rfl) ?_; simp only [go_sem, hP, hn]; (repeat refine vc ?_)
  refine CallN_c1 (by rw [hP, hT]; exact Next_c Tm l j3 (n.win (1 + v1) (1 + v2) (1 + v3) n.left n.right).rSpan hl b5 b6 (by omega) (by omega) ) rfl rfl rfl trivial (by simp only [go_sem, hP, hn]; try trivial) (by simp only [go_sem, hP, hn]; try rfl) (by simp only [go_sem, hP, hn]; try rfl) (by rw [hn]; decide) (fun r ob' hr => ?_); obtain  ⟨v4, j4, rfl, rfl, e1, e2, b7, b8⟩ := hr; simp only [go_sem, hP, hn]; (repeat refine vc ?_)
  refine hK _ ?_; clear K hK
  refine TR.imp ?_; intro K hK; simp only [go_sem, hP, hn]
  (repeat refine vc ?_)
  refine c1 (by rw [hP, hT]; exact Span_r Tm (n.win (1 + v1) (1 + v2) (1 + v3) v4 n.right)) rfl rfl rfl trivial (by simp only [go_sem, hP, hn]; try trivial) (by simp only [go_sem, hP, hn]; try rfl) (by rw [hn]; decide) (by rfl) ?_; simp only [go_sem, hP, hn]; (repeat refine vc ?_)
  refine CallN_c1 (by rw [hP, hT]; exact Next_c Tm l j4 (n.win (1 + v1) (1 + v2) (1 + v3) v4 n.right).rSpan hl b7 b8 (by have : (n.win (1 + v1) (1 + v2) (1 + v3) v4 n.right).rSpan = (n.win (1 + v1) (1 + v2) (1 + v3) n.left n.right).rSpan := rfl; omega) (by have : (n.win (1 + v1) (1 + v2) (1 + v3) v4 n.right).rSpan = (n.win (1 + v1) (1 + v2) (1 + v3) n.left n.right).rSpan := rfl; omega) ) rfl rfl rfl trivial (by simp only [go_sem, hP, hn]; try trivial) (by simp only [go_sem, hP, hn]; try rfl) (by simp only [go_sem, hP, hn]; try rfl) (by rw [hn]; decide) (fun r ob' hr => ?_); obtain  ⟨v5, j5, rfl, rfl, f1, f2, b9, b10⟩ := hr; simp only [go_sem, hP, hn]; (repeat refine vc ?_)
  refine hK _ ?_; clear K hK
  (repeat (first | (refine TR.imp ?_; intro K hK; simp only [go_sem, hP, hn]; (repeat refine vc ?_); refine hK _ ?_; clear K hK) | refine TS.imp ?_ | refine n9 (by decide) ?_))
  simp only [RetG, go_sem]; (repeat with_reducible refine vc ?_)
  exact ⟨_, rfl, 1 + v1, 1 + v2, 1 + v3, v4, v5, j5, rfl, rfl, by omega, by omega, by omega, by omega, by omega, by omega, e1, e2, f1, f2, b9, b10⟩
section
theorem Next_p {T : World → Prop} (Tm : TP T) (l : List Int) (i n : Int) (hl : l.length ≤ 4096) (h0 : 0 ≤ i) (h1 : i ≤ l.length) (n0 : 0 < n) (n1 : n ≤ 1000000) : C1 Go.Proofs.Tryd.prog T 61 1000 (rowO l i) [.ptr 1000 0, .d (.i .i64 n)] (fun r o => ∃ x : Int × Int, r = .d (.i .i64 x.1) ∧ o = rowO l x.2 ∧ (0 ≤ x.1 ∧ x.1 < n) ∧ 0 ≤ x.2 ∧ x.2 ≤ l.length) :=
  (Next_c Tm l i n hl h0 h1 n0 n1).mono fun r H ⟨o, e, v, j, h1, h2, h3, h4, h5, h6⟩ => ⟨o, e, (v, j), h1, h2, ⟨h3, h4⟩, h5, h6⟩
def Z8 : List S := [.d (.i .i64 0), .d .nil, .d (.i .i64 0), .d (.i .i64 0), .d (.i .i64 0), .d (.i .i64 0), .d (.i .i64 0), .d (.i .i64 0), .d .nil, .d .nil, .d (.i .i64 0), .d (.i .i64 0), .d (.i .i64 0), .d (.i .i64 0), .d (.i .i64 0)]
attribute [local go_sem] Z8 intC
theorem guard_j {l : List Int} {i x j : Int} {g : Bool} {P : Prop} (h0 : 0 ≤ i) (h1 : i ≤ l.length) (hx : g = true → P ∧ 0 ≤ j ∧ j ≤ l.length) (hx' : g = false → (x, j) = (0, i)) : 0 ≤ j ∧ j ≤ l.length := by
  cases g with
  | true => exact (hx rfl).2
  | false => obtain ⟨_, rfl⟩ := Prod.mk.inj (hx' rfl); exact ⟨h0, h1⟩
theorem Made_c {T : World → Prop} (Tm : TP T) (l : List Int) (i : Int) (inn ws : List Int) (st : Bool) (hl : l.length ≤ 4096) (h0 : 0 ≤ i) (h1 : i ≤ l.length) (hio : (∃ a w, inn = [a] ∧ ws = [w]) ∨ ∃ a b v w, inn = [a, b] ∧ ws = [v, w]) (hws : ∀ x ∈ ws, 1 ≤ x ∧ x ≤ 16) : C1 Go.Proofs.Tryd.prog T 27 1000 (rowO l i) [.ptr 1000 0, .d (.row [.i .i64 0] (inn.map intC)), .d (.row [.i .i64 0] (ws.map intC)), .d (.b st)] (fun r o => ∃ (n : Nd) (j : Int), r = .agg n.cs ∧ o = rowO l j ∧ MadeN n inn ws st ∧ 0 ≤ j ∧ j ≤ l.length) := by
  have hlen : 0 < ws.length := by rcases hio with ⟨a, w, rfl, rfl⟩ | ⟨a, b, v, w, rfl, rfl⟩ <;> simp
  have hw0 : ∃ w, ws.take 1 = [w] ∧ rd ws 0 = w ∧ 1 ≤ w ∧ w ≤ 16 := by rcases hio with ⟨a, w, rfl, rfl⟩ | ⟨a, b, v, w, rfl, rfl⟩ <;> exact ⟨_, rfl, rfl, hws _ (by simp)⟩
  obtain ⟨w0, hw1, hw2, hw3⟩ := hw0
  refine Cg_of [1000] Tm Go.Proofs.Tryd.func27 rfl rfl Go.Proofs.Tryd.ntmps27 (by simp) rfl (rs := [.cell 8 27]) rfl fun E hP hn hT hpn => ?_
  (repeat (first | (refine TR.imp ?_; intro K hK; simp only [go_sem, hP, hn]; (repeat refine vc ?_); refine hK _ ?_; clear K hK) | refine TS.imp ?_ | refine n9 (by decide) ?_))
  refine Tr.le (Le.keep [0, 1, 2, 3, 8, 9, 10, 23]) ?_; simp only [List.map_cons, List.map_nil, lk, Nat.reduceEqDiff, reduceIte]
  rw [hw2]
  refine Tr.le (Le.wbox 9 (Nd.mk 0 inn 0 0 0 0 0 0 [] [] 0 0 0 0 0).cs rfl (by simp [wk, Nd.cs])) ?_
  simp only [St.upd, dropH, Nat.reduceBEq, if_true, if_false, reduceIte, Bool.false_eq_true]
  refine Tr.meet (fun s => ∃ (k0 a j : Int), inn.take 1 = [a] ∧ s = ⟨[(0, .ptr 1000 0), (3, .d (.b st)), (8, .ptr 8 0), (9, .ptr 9 0), (10, .d (.i .i64 w0))], [(9, .box 27 (Nd.mk k0 [a] 0 0 0 0 0 0 [] [] 0 0 0 0 0).cs), (8, .box 27 Z8), (1000, rowO l j)]⟩ ∧ 0 ≤ j ∧ j ≤ l.length) ?_ ?_
  rotate_left
  · refine Tr.cond rfl (fun h2 => ?_) (fun h2 => ?_)
    · obtain ⟨a, b, v, w, rfl, rfl⟩ : ∃ a b v w, inn = [a, b] ∧ ws = [v, w] := by
        rcases hio with ⟨a, w, rfl, rfl⟩ | h
        · simp at h2
        · exact h
      have hv := hws v (by simp)
      have hw := hws w (by simp)
      obtain rfl : v = w0 := hw2
      (repeat (first | (refine TR.imp ?_; intro K hK; simp only [go_sem, hP, hn]; (repeat refine vc ?_); refine hK _ ?_; clear K hK) | refine TS.imp ?_ | refine n9 (by decide) ?_))
      refine Tr.loop (fun m s => ∃ (j s0 : Int) (sm : Bool), s = ⟨[(13, .d (.i .i64 j)), (12, .d (.b sm)), (11, .d (.i .i64 s0)), (0, .ptr 1000 0), (1, .d (.row [.i .i64 0] ([a, b].map intC))), (2, .d (.row [.i .i64 0] ([v, w].map intC))), (3, .d (.b st)), (8, .ptr 8 0), (9, .ptr 9 0), (10, .d (.i .i64 v))], [(9, .box 27 (Nd.mk 8 [a, b] 0 0 0 0 0 0 [] [] 0 0 0 0 0).cs), (8, .box 27 Z8), (1000, rowO l i)]⟩ ∧ j + m = 2 ∧ ((j = 0 ∧ s0 = 0 ∧ sm = true) ∨ (j = 1 ∧ s0 = v ∧ sm = true) ∨ (j = 2 ∧ s0 = v + w ∧ sm = (w == v)))) 2 ⟨_, (Le.mv (by simp only [go_sem, hP, hn]; first | done | (simp; done) | (simp [intC]; done) | (repeat (first | rfl | constructor))) (by simp only [go_sem, hP, hn]; first | done | (simp; done) | (simp [intC]; done) | (repeat (first | rfl | constructor)))), 0, 0, true, rfl, rfl, .inl ⟨rfl, rfl, rfl⟩⟩ ?_
      rintro m s ⟨j, s0, sm, rfl, hm, (⟨rfl, rfl, rfl⟩ | ⟨rfl, rfl, rfl⟩ | ⟨rfl, rfl, rfl⟩)⟩
      · (repeat (first | (refine TR.imp ?_; intro K hK; simp only [go_sem, hP, hn]; (repeat refine vc ?_); refine hK _ ?_; clear K hK) | refine TS.imp ?_ | refine n9 (by decide) ?_))
        refine Tr.cond rfl (fun hb => ?_) (fun hb => ?_)
        · (repeat (first | (refine TR.imp ?_; intro K hK; simp only [go_sem, hP, hn]; (repeat refine vc ?_); refine hK _ ?_; clear K hK) | refine TS.imp ?_ | refine n9 (by decide) ?_))
          rw [w64 (x := 0 + v) (by omega) (by omega), w64 (x := 0 + 1) (by omega) (by omega), Int.zero_add]
          refine ⟨m - 1, _, by omega, ?_, 1, v, true, rfl, by omega, .inr (.inl ⟨rfl, rfl, rfl⟩)⟩
          exact (Le.mv (by simp only [go_sem, hP, hn]; first | done | (simp; done) | (simp [intC]; done) | (repeat (first | rfl | constructor))) (by simp only [go_sem, hP, hn]; first | done | (simp; done) | (simp [intC]; done) | (repeat (first | rfl | constructor))))
        · exact absurd hb (by decide)
      · (repeat (first | (refine TR.imp ?_; intro K hK; simp only [go_sem, hP, hn]; (repeat refine vc ?_); refine hK _ ?_; clear K hK) | refine TS.imp ?_ | refine n9 (by decide) ?_))
        refine Tr.cond rfl (fun hb => ?_) (fun hb => ?_)
        · (repeat (first | (refine TR.imp ?_; intro K hK; simp only [go_sem, hP, hn]; (repeat refine vc ?_); refine hK _ ?_; clear K hK) | refine TS.imp ?_ | refine n9 (by decide) ?_))
          rw [w64 (x := s0 + w) (by omega) (by omega), w64 (x := 1 + 1) (by omega) (by omega)]
          refine ⟨m - 1, _, by omega, ?_, 2, s0 + w, (w == s0), rfl, by omega, .inr (.inr ⟨rfl, rfl, rfl⟩)⟩
          exact (Le.mv (by simp only [go_sem, hP, hn]; first | done | (simp; done) | (simp [intC]; done) | (repeat (first | rfl | constructor))) (by simp only [go_sem, hP, hn]; first | done | (simp; done) | (simp [intC]; done) | (repeat (first | rfl | constructor))))
        · exact absurd hb (by decide)
      · (repeat (first | (refine TR.imp ?_; intro K hK; simp only [go_sem, hP, hn]; (repeat refine vc ?_); refine hK _ ?_; clear K hK) | refine TS.imp ?_ | refine n9 (by decide) ?_))
        refine Tr.cond rfl (fun hb => ?_) (fun hb => ?_)
        · exact absurd hb (by decide)
        · (repeat (first | (refine TR.imp ?_; intro K hK; simp only [go_sem, hP, hn]; (repeat refine vc ?_); refine hK _ ?_; clear K hK) | refine TS.imp ?_ | refine n9 (by decide) ?_))
          refine Tr.le (Le.keep [0, 1, 3, 8, 9, 10, 11, 12]) ?_; simp only [List.map_cons, List.map_nil, lk, Nat.reduceEqDiff, reduceIte]
          refine TR.imp ?_; intro K hK; simp only [go_sem, hP, hn]
          (repeat refine vc ?_)
          refine CallN_g2 ((0, i) : Int × Int) (fun x => .d (.i .i64 x.1)) (fun x => rowO l x.2) (fun x => (0 ≤ x.1 ∧ x.1 < 2) ∧ 0 ≤ x.2 ∧ x.2 ≤ l.length) rfl (fun hg => by rw [hP, hT]; exact Next_p Tm l i 2 hl h0 h1 (by decide) (by decide)) rfl rfl rfl (fun hg => trivial) (fun hg => by clear hK; revert hg; simp only [go_sem, hP, hn]; first | trivial | omega | (simp; done) | (simp +contextual; done) | grind) (fun hg => by simp only [go_sem, hP, hn]; try rfl) rfl (by rw [hn]; decide) (fun x hx hx' => ?_); obtain ⟨x, j⟩ := x; simp only [go_sem, hP, hn]; (repeat refine vc ?_)
          refine hK _ ?_; clear K hK
          have hj := guard_j h0 h1 hx hx'
          refine Tr.cond rfl (fun h3 => ?_) (fun h3 => ?_)
          · (repeat (first | (refine TR.imp ?_; intro K hK; simp only [go_sem, hP, hn]; (repeat refine vc ?_); refine hK _ ?_; clear K hK) | refine TS.imp ?_ | refine n9 (by decide) ?_))
            simp only [RetG, go_sem]; (repeat with_reducible refine vc ?_)
            have : w = v := by simp only [Bool.and_eq_true, beq_iff_eq] at h3; exact h3.1
            exact ⟨_, rfl, ⟨7, [a, b], 0, 0, 0, 0, 0, 0, [], [], 0, 0, 0, 0, 0⟩, j, rfl, rfl, made_two hv hw (.inl ⟨rfl, this.symm⟩), hj.1, hj.2⟩
          · (repeat (first | (refine TR.imp ?_; intro K hK; simp only [go_sem, hP, hn]; (repeat refine vc ?_); refine hK _ ?_; clear K hK) | refine TS.imp ?_ | refine n9 (by decide) ?_))
            refine Tr.cond rfl (fun h4 => ?_) (fun h4 => ?_)
            · (repeat (first | (refine TR.imp ?_; intro K hK; simp only [go_sem, hP, hn]; (repeat refine vc ?_); refine hK _ ?_; clear K hK) | refine TS.imp ?_ | refine n9 (by decide) ?_))
              simp only [RetG, go_sem]; (repeat with_reducible refine vc ?_)
              exact ⟨_, rfl, ⟨8, [a, b], 0, 0, 0, 0, 0, 0, [], [], 0, 0, 0, 0, 0⟩, j, rfl, rfl, made_two hv hw (.inr ⟨rfl, by simpa using h4⟩), hj.1, hj.2⟩
            · (repeat (first | (refine TR.imp ?_; intro K hK; simp only [go_sem, hP, hn]; (repeat refine vc ?_); refine hK _ ?_; clear K hK) | refine TS.imp ?_ | refine n9 (by decide) ?_))
              exact ⟨_, (Le.mv (by simp only [go_sem, hP, hn]; first | done | (simp; done) | (simp [intC]; done) | (repeat (first | rfl | constructor))) (by simp only [go_sem, hP, hn]; first | done | (simp; done) | (simp [intC]; done) | (repeat (first | rfl | constructor)))), 8, a, j, rfl, rfl, hj.1, hj.2⟩
    · (repeat (first | (refine TR.imp ?_; intro K hK; simp only [go_sem, hP, hn]; (repeat refine vc ?_); refine hK _ ?_; clear K hK) | refine TS.imp ?_ | refine n9 (by decide) ?_))
      obtain ⟨a, w, rfl, rfl⟩ : ∃ a w, inn = [a] ∧ ws = [w] := by
        rcases hio with h | ⟨a, b, v, w, rfl, rfl⟩
        · exact h
        · simp at h2
      exact ⟨_, (Le.mv (by simp only [go_sem, hP, hn]; first | done | (simp; done) | (simp [intC]; done) | (repeat (first | rfl | constructor))) (by simp only [go_sem, hP, hn]; first | done | (simp; done) | (simp [intC]; done) | (repeat (first | rfl | constructor)))), 0, a, i, rfl, rfl, h0, h1⟩
  rintro s ⟨k0, a, j, hin, rfl, hj0, hj1⟩
  (repeat (first | (refine TR.imp ?_; intro K hK; simp only [go_sem, hP, hn]; (repeat refine vc ?_); refine hK _ ?_; clear K hK) | refine TS.imp ?_ | refine n9 (by decide) ?_))
  refine TR.imp ?_; intro K hK; simp only [go_sem, hP, hn]
  (repeat refine vc ?_)
  refine CallN_c1 (by rw [hP, hT]; exact Next_c Tm l j 12 hl hj0 hj1 (by decide) (by decide) ) rfl rfl rfl trivial (by simp only [go_sem, hP, hn]; try trivial) (by simp only [go_sem, hP, hn]; try rfl) (by simp only [go_sem, hP, hn]; try rfl) (by rw [hn]; decide) (fun r ob' hr => ?_); obtain  ⟨v, j', rfl, rfl, hv0, hv1, hj0', hj1'⟩ := hr; simp only [go_sem, hP, hn]; (repeat refine vc ?_)
  refine hK _ ?_; clear K hK
  (repeat (first | (refine TR.imp ?_; intro K hK; simp only [go_sem, hP, hn]; (repeat refine vc ?_); refine hK _ ?_; clear K hK) | refine TS.imp ?_ | refine n9 (by decide) ?_))
  refine Tr.meet (fun s => ∃ (k j : Int), s = ⟨[(15, .d (.i .i64 k)), (14, .ptr 14 0), (0, .ptr 1000 0), (8, .ptr 8 0), (9, .ptr 9 0), (10, .d (.i .i64 w0))], [(14, .box 92 [.d (.i .i64 1), .d (.i .i64 2), .d (.i .i64 3), .d (.i .i64 4), .d (.i .i64 12), .d (.i .i64 1), .d (.i .i64 5), .d (.i .i64 6), .d (.i .i64 9), .d (.i .i64 10), .d (.i .i64 11), .d (.i .i64 6)]), (9, .box 27 (Nd.mk k0 [a] 0 0 0 0 0 0 [] [] 0 0 0 0 0).cs), (8, .box 27 Z8), (1000, rowO l j)]⟩ ∧ 0 ≤ k ∧ k < 12 ∧ (st = true → 7 ≤ k) ∧ 0 ≤ j ∧ j ≤ l.length) ?_ ?_
  rotate_left
  · refine Tr.cond rfl (fun hs => ?_) (fun hs => ?_)
    · refine TR.imp ?_; intro K hK; simp only [go_sem, hP, hn]
      (repeat refine vc ?_)
      refine CallN_c1 (by rw [hP, hT]; exact Next_c Tm l j' 5 hl hj0' hj1' (by decide) (by decide) ) rfl rfl rfl trivial (by simp only [go_sem, hP, hn]; try trivial) (by simp only [go_sem, hP, hn]; try rfl) (by simp only [go_sem, hP, hn]; try rfl) (by rw [hn]; decide) (fun r ob' hr => ?_); obtain  ⟨v', j2, rfl, rfl, hv0', hv1', hj0'', hj1''⟩ := hr; simp only [go_sem, hP, hn]; (repeat refine vc ?_)
      refine hK _ ?_; clear K hK
      rw [w64 (x := 7 + v') (by omega) (by omega)]
      exact ⟨_, (Le.mv (by simp only [go_sem, hP, hn]; first | done | (simp; done) | (simp [intC]; done) | (repeat (first | rfl | constructor))) (by simp only [go_sem, hP, hn]; first | done | (simp; done) | (simp [intC]; done) | (repeat (first | rfl | constructor)))), 7 + v', j2, rfl, by omega, by omega, fun _ => by omega, hj0'', hj1''⟩
    · (repeat (first | (refine TR.imp ?_; intro K hK; simp only [go_sem, hP, hn]; (repeat refine vc ?_); refine hK _ ?_; clear K hK) | refine TS.imp ?_ | refine n9 (by decide) ?_))
      exact ⟨_, (Le.mv (by simp only [go_sem, hP, hn]; first | done | (simp; done) | (simp [intC]; done) | (repeat (first | rfl | constructor))) (by simp only [go_sem, hP, hn]; first | done | (simp; done) | (simp [intC]; done) | (repeat (first | rfl | constructor)))), v, j', rfl, hv0, hv1, fun e => (by rw [hs] at e; cases e), hj0', hj1'⟩
  rintro s ⟨k, j, rfl, hk0, hk1, hks, hj0, hj1⟩
  refine TR.imp ?_; intro K hK
  have tail : ∀ (kk : Int) (s' : St), (kk = 1 ∨ kk = 2 ∨ kk = 3 ∨ kk = 4 ∨ kk = 5 ∨ kk = 6 ∨ kk = 9 ∨ kk = 10 ∨ kk = 11 ∨ kk = 12) → (st = true → 6 ≤ kk ∧ kk ≤ 11) → Le E s' ⟨[(0, .ptr 1000 0), (8, .ptr 8 0), (9, .ptr 9 0), (10, .d (.i .i64 w0))], [(9, .box 27 (Nd.mk kk [a] 0 0 0 0 0 0 [] [] 0 0 0 0 0).cs), (8, .box 27 Z8), (1000, rowO l j)]⟩ → K s' := fun kk s' hkk hst hle => hK _ (Tr.le hle (by
    clear hK hle K
    (repeat (first | (refine TR.imp ?_; intro K hK; simp only [go_sem, hP, hn]; (repeat refine vc ?_); refine hK _ ?_; clear K hK) | refine TS.imp ?_ | refine n9 (by decide) ?_))
    refine Tr.cond rfl (fun c1' => ?_) (fun c1' => ?_)
    · (repeat (first | (refine TR.imp ?_; intro K hK; simp only [go_sem, hP, hn]; (repeat refine vc ?_); refine hK _ ?_; clear K hK) | refine TS.imp ?_ | refine n9 (by decide) ?_))
      obtain rfl : kk = 1 := by simpa using c1'
      obtain rfl : st = false := by cases st with
        | false => rfl
        | true => exact absurd (hst rfl).1 (by decide)
      (repeat (first | (refine TR.imp ?_; intro K hK; simp only [go_sem, hP, hn]; (repeat refine vc ?_); refine hK _ ?_; clear K hK) | refine TS.imp ?_ | refine n9 (by decide) ?_))
      refine TR.imp ?_; intro K hK; simp only [go_sem, hP, hn]
      (repeat refine vc ?_)
      refine CallN_c1 (by rw [hP, hT]; exact window_c Tm l j (Nd.mk 1 [a] 0 0 0 0 0 0 [] [] 0 0 0 0 0) rfl hl hj0 hj1 ) rfl rfl rfl trivial (by simp only [go_sem, hP, hn]; try trivial) (by simp only [go_sem, hP, hn]; try rfl) (by simp only [go_sem, hP, hn]; try rfl) (by rw [hn]; decide) (fun r ob' hr => ?_); obtain  ⟨sz, s1, gp, lf, rt, j1, rfl, rfl, z0, z1, t0, t1, g0, g1, l0, l1, r0, r1, b0, b1⟩ := hr; simp only [go_sem, hP, hn]; (repeat refine vc ?_)
      refine hK _ ?_; clear K hK
      (repeat (first | (refine TR.imp ?_; intro K hK; simp only [go_sem, hP, hn]; (repeat refine vc ?_); refine hK _ ?_; clear K hK) | refine TS.imp ?_ | refine n9 (by decide) ?_))
      refine TR.imp ?_; intro K hK; simp only [go_sem, hP, hn]
      (repeat refine vc ?_)
      refine CallN_c1 (by rw [hP, hT]; exact Next_c Tm l j1 3 hl b0 b1 (by decide) (by decide) ) rfl rfl rfl trivial (by simp only [go_sem, hP, hn]; try trivial) (by simp only [go_sem, hP, hn]; try rfl) (by simp only [go_sem, hP, hn]; try rfl) (by rw [hn]; decide) (fun r ob' hr => ?_); obtain  ⟨v1, j2, rfl, rfl, e1, e2, b2, b3⟩ := hr; simp only [go_sem, hP, hn]; (repeat refine vc ?_)
      refine hK _ ?_; clear K hK
      have m1 := mul_le (1 + v1) 3 sz 4 (by omega) (by omega) (by omega) z1
      have m2 := mul_le ((1 + v1) * sz) 12 w0 16 m1.1 m1.2 (by omega) hw3.2
      rw [w64 (x := 1 + v1) (by omega) (by omega)]
      refine Tr.le (Le.keep [0, 8, 9, 10]) ?_; simp only [List.map_cons, List.map_nil, lk, Nat.reduceEqDiff, reduceIte]
      (repeat (first | (refine TR.imp ?_; intro K hK; simp only [go_sem, hP, hn]; (repeat refine vc ?_); refine hK _ ?_; clear K hK) | refine TS.imp ?_ | refine n9 (by decide) ?_))
      refine TR.imp ?_; intro K hK; simp only [go_sem, hP, hn]
      (repeat refine vc ?_)
      rw [w64 (x := (1 + v1) * sz) (by omega) (by omega), w64 (x := (1 + v1) * sz * w0) (by omega) (by omega)]
      refine CallN_c1 (by rw [hP, hT]; exact row_c Tm l j2 ((1 + v1) * sz * w0) (-9) 19 hl b2 b3 (by omega) (by omega) (by decide) (by decide) (by decide) (by decide) ) rfl rfl rfl trivial (by simp only [go_sem, hP, hn]; try trivial) (by simp only [go_sem, hP, hn]; try rfl) (by simp only [go_sem, hP, hn]; try rfl) (by rw [hn]; decide) (fun r ob' hr => ?_); obtain  ⟨W, j3, rfl, rfl, e3, e4, b4, b5⟩ := hr; simp only [go_sem, hP, hn]; (repeat refine vc ?_)
      refine hK _ ?_; clear K hK
      (repeat (first | (refine TR.imp ?_; intro K hK; simp only [go_sem, hP, hn]; (repeat refine vc ?_); refine hK _ ?_; clear K hK) | refine TS.imp ?_ | refine n9 (by decide) ?_))
      refine TR.imp ?_; intro K hK; simp only [go_sem, hP, hn]
      (repeat refine vc ?_)
      refine CallN_c1 (by rw [hP, hT]; exact row_c Tm l j3 (1 + v1) (-50) 101 hl b4 b5 (by omega) (by omega) (by decide) (by decide) (by decide) (by decide) ) rfl rfl rfl trivial (by simp only [go_sem, hP, hn]; try trivial) (by simp only [go_sem, hP, hn]; try rfl) (by simp only [go_sem, hP, hn]; try rfl) (by rw [hn]; decide) (fun r ob' hr => ?_); obtain  ⟨B, j4, rfl, rfl, e5, e6, b6, b7⟩ := hr; simp only [go_sem, hP, hn]; (repeat refine vc ?_)
      refine hK _ ?_; clear K hK
      (repeat (first | (refine TR.imp ?_; intro K hK; simp only [go_sem, hP, hn]; (repeat refine vc ?_); refine hK _ ?_; clear K hK) | refine TS.imp ?_ | refine n9 (by decide) ?_))
      simp only [RetG, go_sem]; (repeat with_reducible refine vc ?_)
      exact ⟨_, rfl, ⟨1, [a], 1 + v1, sz, s1, gp, lf, rt, W, B, 0, 0, 0, 0, 0⟩, j4, rfl, rfl, made_conv hin hw1 hw3 ⟨by omega, by omega⟩ ⟨z0, z1⟩ ⟨t0, t1⟩ ⟨g0, g1⟩ l0 l1 r0 r1 e3 (fun x hx => by have := e4 x hx; omega) e5 (fun x hx => by have := e6 x hx; omega), b6, b7⟩
    (repeat (first | (refine TR.imp ?_; intro K hK; simp only [go_sem, hP, hn]; (repeat refine vc ?_); refine hK _ ?_; clear K hK) | refine TS.imp ?_ | refine n9 (by decide) ?_))
    refine Tr.cond rfl (fun c2' => ?_) (fun c2' => ?_)
    · (repeat (first | (refine TR.imp ?_; intro K hK; simp only [go_sem, hP, hn]; (repeat refine vc ?_); refine hK _ ?_; clear K hK) | refine TS.imp ?_ | refine n9 (by decide) ?_))
      obtain rfl : kk = 2 := by simpa using c2'
      obtain rfl : st = false := by cases st with
        | false => rfl
        | true => exact absurd (hst rfl).1 (by decide)
      (repeat (first | (refine TR.imp ?_; intro K hK; simp only [go_sem, hP, hn]; (repeat refine vc ?_); refine hK _ ?_; clear K hK) | refine TS.imp ?_ | refine n9 (by decide) ?_))
      refine TR.imp ?_; intro K hK; simp only [go_sem, hP, hn]
      (repeat refine vc ?_)
      refine CallN_c1 (by rw [hP, hT]; exact window_c Tm l j (Nd.mk 2 [a] 0 0 0 0 0 0 [] [] 0 0 0 0 0) rfl hl hj0 hj1 ) rfl rfl rfl trivial (by simp only [go_sem, hP, hn]; try trivial) (by simp only [go_sem, hP, hn]; try rfl) (by simp only [go_sem, hP, hn]; try rfl) (by rw [hn]; decide) (fun r ob' hr => ?_); obtain  ⟨sz, s1, gp, lf, rt, j1, rfl, rfl, z0, z1, t0, t1, g0, g1, l0, l1, r0, r1, b0, b1⟩ := hr; simp only [go_sem, hP, hn]; (repeat refine vc ?_)
      refine hK _ ?_; clear K hK
      have m2 := mul_le sz 4 w0 16 (by omega) (by omega) (by omega) hw3.2
      refine Tr.le (Le.keep [0, 8, 9, 10]) ?_; simp only [List.map_cons, List.map_nil, lk, Nat.reduceEqDiff, reduceIte]
      (repeat (first | (refine TR.imp ?_; intro K hK; simp only [go_sem, hP, hn]; (repeat refine vc ?_); refine hK _ ?_; clear K hK) | refine TS.imp ?_ | refine n9 (by decide) ?_))
      refine TR.imp ?_; intro K hK; simp only [go_sem, hP, hn]
      (repeat refine vc ?_)
      rw [w64 (x := sz * w0) (by omega) (by omega)]
      refine CallN_c1 (by rw [hP, hT]; exact row_c Tm l j1 (sz * w0) (-9) 19 hl b0 b1 (by omega) (by omega) (by decide) (by decide) (by decide) (by decide) ) rfl rfl rfl trivial (by simp only [go_sem, hP, hn]; try trivial) (by simp only [go_sem, hP, hn]; try rfl) (by simp only [go_sem, hP, hn]; try rfl) (by rw [hn]; decide) (fun r ob' hr => ?_); obtain  ⟨W, j3, rfl, rfl, e3, e4, b4, b5⟩ := hr; simp only [go_sem, hP, hn]; (repeat refine vc ?_)
      refine hK _ ?_; clear K hK
      (repeat (first | (refine TR.imp ?_; intro K hK; simp only [go_sem, hP, hn]; (repeat refine vc ?_); refine hK _ ?_; clear K hK) | refine TS.imp ?_ | refine n9 (by decide) ?_))
      refine TR.imp ?_; intro K hK; simp only [go_sem, hP, hn]
      (repeat refine vc ?_)
      refine CallN_c1 (by rw [hP, hT]; exact row_c Tm l j3 w0 (-50) 101 hl b4 b5 (by omega) (by omega) (by decide) (by decide) (by decide) (by decide) ) rfl rfl rfl trivial (by simp only [go_sem, hP, hn]; try trivial) (by simp only [go_sem, hP, hn]; try rfl) (by simp only [go_sem, hP, hn]; try rfl) (by rw [hn]; decide) (fun r ob' hr => ?_); obtain  ⟨B, j4, rfl, rfl, e5, e6, b6, b7⟩ := hr; simp only [go_sem, hP, hn]; (repeat refine vc ?_)
      refine hK _ ?_; clear K hK
      (repeat (first | (refine TR.imp ?_; intro K hK; simp only [go_sem, hP, hn]; (repeat refine vc ?_); refine hK _ ?_; clear K hK) | refine TS.imp ?_ | refine n9 (by decide) ?_))
      simp only [RetG, go_sem]; (repeat with_reducible refine vc ?_)
      exact ⟨_, rfl, ⟨2, [a], 0, sz, s1, gp, lf, rt, W, B, 0, 0, 0, 0, 0⟩, j4, rfl, rfl, made_depth hin hw1 hw3 ⟨z0, z1⟩ ⟨t0, t1⟩ ⟨g0, g1⟩ l0 l1 r0 r1 e3 (fun x hx => by have := e4 x hx; omega) e5 (fun x hx => by have := e6 x hx; omega), b6, b7⟩
    (repeat (first | (refine TR.imp ?_; intro K hK; simp only [go_sem, hP, hn]; (repeat refine vc ?_); refine hK _ ?_; clear K hK) | refine TS.imp ?_ | refine n9 (by decide) ?_))
    refine Tr.cond rfl (fun c6' => ?_) (fun c6' => ?_)
    · (repeat (first | (refine TR.imp ?_; intro K hK; simp only [go_sem, hP, hn]; (repeat refine vc ?_); refine hK _ ?_; clear K hK) | refine TS.imp ?_ | refine n9 (by decide) ?_))
      obtain rfl : kk = 6 := by simpa using c6'
      (repeat (first | (refine TR.imp ?_; intro K hK; simp only [go_sem, hP, hn]; (repeat refine vc ?_); refine hK _ ?_; clear K hK) | refine TS.imp ?_ | refine n9 (by decide) ?_))
      refine TR.imp ?_; intro K hK; simp only [go_sem, hP, hn]
      (repeat refine vc ?_)
      refine CallN_c1 (by rw [hP, hT]; exact Next_c Tm l j 3 hl hj0 hj1 (by decide) (by decide) ) rfl rfl rfl trivial (by simp only [go_sem, hP, hn]; try trivial) (by simp only [go_sem, hP, hn]; try rfl) (by simp only [go_sem, hP, hn]; try rfl) (by rw [hn]; decide) (fun r ob' hr => ?_); obtain  ⟨v1, j2, rfl, rfl, e1, e2, b2, b3⟩ := hr; simp only [go_sem, hP, hn]; (repeat refine vc ?_)
      refine hK _ ?_; clear K hK
      have m2 := mul_le (1 + v1) 3 w0 16 (by omega) (by omega) (by omega) hw3.2
      rw [w64 (x := 1 + v1) (by omega) (by omega)]
      refine Tr.le (Le.keep [0, 8, 9, 10]) ?_; simp only [List.map_cons, List.map_nil, lk, Nat.reduceEqDiff, reduceIte]
      (repeat (first | (refine TR.imp ?_; intro K hK; simp only [go_sem, hP, hn]; (repeat refine vc ?_); refine hK _ ?_; clear K hK) | refine TS.imp ?_ | refine n9 (by decide) ?_))
      refine TR.imp ?_; intro K hK; simp only [go_sem, hP, hn]
      (repeat refine vc ?_)
      rw [w64 (x := (1 + v1) * w0) (by omega) (by omega)]
      refine CallN_c1 (by rw [hP, hT]; exact row_c Tm l j2 ((1 + v1) * w0) (-12) 25 hl b2 b3 (by omega) (by omega) (by decide) (by decide) (by decide) (by decide) ) rfl rfl rfl trivial (by simp only [go_sem, hP, hn]; try trivial) (by simp only [go_sem, hP, hn]; try rfl) (by simp only [go_sem, hP, hn]; try rfl) (by rw [hn]; decide) (fun r ob' hr => ?_); obtain  ⟨W, j3, rfl, rfl, e3, e4, b4, b5⟩ := hr; simp only [go_sem, hP, hn]; (repeat refine vc ?_)
      refine hK _ ?_; clear K hK
      (repeat (first | (refine TR.imp ?_; intro K hK; simp only [go_sem, hP, hn]; (repeat refine vc ?_); refine hK _ ?_; clear K hK) | refine TS.imp ?_ | refine n9 (by decide) ?_))
      refine TR.imp ?_; intro K hK; simp only [go_sem, hP, hn]
      (repeat refine vc ?_)
      refine CallN_c1 (by rw [hP, hT]; exact row_c Tm l j3 (1 + v1) (-5000) 10001 hl b4 b5 (by omega) (by omega) (by decide) (by decide) (by decide) (by decide) ) rfl rfl rfl trivial (by simp only [go_sem, hP, hn]; try trivial) (by simp only [go_sem, hP, hn]; try rfl) (by simp only [go_sem, hP, hn]; try rfl) (by rw [hn]; decide) (fun r ob' hr => ?_); obtain  ⟨B, j4, rfl, rfl, e5, e6, b6, b7⟩ := hr; simp only [go_sem, hP, hn]; (repeat refine vc ?_)
      refine hK _ ?_; clear K hK
      (repeat (first | (refine TR.imp ?_; intro K hK; simp only [go_sem, hP, hn]; (repeat refine vc ?_); refine hK _ ?_; clear K hK) | refine TS.imp ?_ | refine n9 (by decide) ?_))
      simp only [RetG, go_sem]; (repeat with_reducible refine vc ?_)
      exact ⟨_, rfl, ⟨6, [a], 1 + v1, 0, 0, 0, 0, 0, W, B, 0, 0, 0, 0, 0⟩, j4, rfl, rfl, made_dense hin hw1 hw3 ⟨by omega, by omega⟩ e3 (fun x hx => by have := e4 x hx; omega) e5 (fun x hx => by have := e6 x hx; omega), b6, b7⟩
    (repeat (first | (refine TR.imp ?_; intro K hK; simp only [go_sem, hP, hn]; (repeat refine vc ?_); refine hK _ ?_; clear K hK) | refine TS.imp ?_ | refine n9 (by decide) ?_))
    refine Tr.cond rfl (fun c3' => ?_) (fun c3' => ?_)
    · obtain rfl : kk = 3 := by simpa using c3'
      obtain rfl : st = false := by cases st with
        | false => rfl
        | true => exact absurd (hst rfl).1 (by decide)
      (repeat (first | (refine TR.imp ?_; intro K hK; simp only [go_sem, hP, hn]; (repeat refine vc ?_); refine hK _ ?_; clear K hK) | refine TS.imp ?_ | refine n9 (by decide) ?_))
      refine Tr.cond rfl (fun cp => ?_) (fun cp => ?_)
      · (repeat (first | (refine TR.imp ?_; intro K hK; simp only [go_sem, hP, hn]; (repeat refine vc ?_); refine hK _ ?_; clear K hK) | refine TS.imp ?_ | refine n9 (by decide) ?_))
        refine TR.imp ?_; intro K hK; simp only [go_sem, hP, hn]
        (repeat refine vc ?_)
        refine CallN_c1 (by rw [hP, hT]; exact window_c Tm l j (Nd.mk 3 [a] 0 0 0 0 0 0 [] [] 0 0 0 0 0) rfl hl hj0 hj1 ) rfl rfl rfl trivial (by simp only [go_sem, hP, hn]; try trivial) (by simp only [go_sem, hP, hn]; try rfl) (by simp only [go_sem, hP, hn]; try rfl) (by rw [hn]; decide) (fun r ob' hr => ?_); obtain  ⟨sz, s1, gp, lf, rt, j1, rfl, rfl, z0, z1, t0, t1, g0, g1, l0, l1, r0, r1, b0, b1⟩ := hr; simp only [go_sem, hP, hn]; (repeat refine vc ?_)
        refine hK _ ?_; clear K hK
        (repeat (first | (refine TR.imp ?_; intro K hK; simp only [go_sem, hP, hn]; (repeat refine vc ?_); refine hK _ ?_; clear K hK) | refine TS.imp ?_ | refine n9 (by decide) ?_))
        simp only [RetG, go_sem]; (repeat with_reducible refine vc ?_)
        exact ⟨_, rfl, ⟨3, [a], 0, sz, s1, gp, lf, rt, [], [], 0, 0, 0, 0, 0⟩, j1, rfl, rfl, made_pool hin hw1 hw3 (by decide) ⟨z0, z1⟩ ⟨t0, t1⟩ ⟨g0, g1⟩ l0 l1 r0 r1, b0, b1⟩
      · exact absurd cp (by decide)
    (repeat (first | (refine TR.imp ?_; intro K hK; simp only [go_sem, hP, hn]; (repeat refine vc ?_); refine hK _ ?_; clear K hK) | refine TS.imp ?_ | refine n9 (by decide) ?_))
    refine Tr.cond rfl (fun c4' => ?_) (fun c4' => ?_)
    · (repeat (first | (refine TR.imp ?_; intro K hK; simp only [go_sem, hP, hn]; (repeat refine vc ?_); refine hK _ ?_; clear K hK) | refine TS.imp ?_ | refine n9 (by decide) ?_))
      obtain rfl : kk = 4 := by simpa using c4'
      obtain rfl : st = false := by cases st with
        | false => rfl
        | true => exact absurd (hst rfl).1 (by decide)
      (repeat (first | (refine TR.imp ?_; intro K hK; simp only [go_sem, hP, hn]; (repeat refine vc ?_); refine hK _ ?_; clear K hK) | refine TS.imp ?_ | refine n9 (by decide) ?_))
      refine TR.imp ?_; intro K hK; simp only [go_sem, hP, hn]
      (repeat refine vc ?_)
      refine CallN_c1 (by rw [hP, hT]; exact window_c Tm l j (Nd.mk 4 [a] 0 0 0 0 0 0 [] [] 0 0 0 0 0) rfl hl hj0 hj1 ) rfl rfl rfl trivial (by simp only [go_sem, hP, hn]; try trivial) (by simp only [go_sem, hP, hn]; try rfl) (by simp only [go_sem, hP, hn]; try rfl) (by rw [hn]; decide) (fun r ob' hr => ?_); obtain  ⟨sz, s1, gp, lf, rt, j1, rfl, rfl, z0, z1, t0, t1, g0, g1, l0, l1, r0, r1, b0, b1⟩ := hr; simp only [go_sem, hP, hn]; (repeat refine vc ?_)
      refine hK _ ?_; clear K hK
      (repeat (first | (refine TR.imp ?_; intro K hK; simp only [go_sem, hP, hn]; (repeat refine vc ?_); refine hK _ ?_; clear K hK) | refine TS.imp ?_ | refine n9 (by decide) ?_))
      simp only [RetG, go_sem]; (repeat with_reducible refine vc ?_)
      exact ⟨_, rfl, ⟨4, [a], 0, sz, s1, gp, lf, rt, [], [], 0, 0, 0, 0, 0⟩, j1, rfl, rfl, made_pool hin hw1 hw3 (by decide) ⟨z0, z1⟩ ⟨t0, t1⟩ ⟨g0, g1⟩ l0 l1 r0 r1, b0, b1⟩
    (repeat (first | (refine TR.imp ?_; intro K hK; simp only [go_sem, hP, hn]; (repeat refine vc ?_); refine hK _ ?_; clear K hK) | refine TS.imp ?_ | refine n9 (by decide) ?_))
    refine Tr.cond rfl (fun c12' => ?_) (fun c12' => ?_)
    · (repeat (first | (refine TR.imp ?_; intro K hK; simp only [go_sem, hP, hn]; (repeat refine vc ?_); refine hK _ ?_; clear K hK) | refine TS.imp ?_ | refine n9 (by decide) ?_))
      obtain rfl : kk = 12 := by simpa using c12'
      (repeat (first | (refine TR.imp ?_; intro K hK; simp only [go_sem, hP, hn]; (repeat refine vc ?_); refine hK _ ?_; clear K hK) | refine TS.imp ?_ | refine n9 (by decide) ?_))
      refine TR.imp ?_; intro K hK; simp only [go_sem, hP, hn]
      (repeat refine vc ?_)
      refine CallN_c1 (by rw [hP, hT]; exact Next_c Tm l j 5 hl hj0 hj1 (by decide) (by decide) ) rfl rfl rfl trivial (by simp only [go_sem, hP, hn]; try trivial) (by simp only [go_sem, hP, hn]; try rfl) (by simp only [go_sem, hP, hn]; try rfl) (by rw [hn]; decide) (fun r ob' hr => ?_); obtain  ⟨v1, j2, rfl, rfl, e1, e2, b2, b3⟩ := hr; simp only [go_sem, hP, hn]; (repeat refine vc ?_)
      refine hK _ ?_; clear K hK
      rw [w64 (x := 1 + v1) (by omega) (by omega)]
      (repeat (first | (refine TR.imp ?_; intro K hK; simp only [go_sem, hP, hn]; (repeat refine vc ?_); refine hK _ ?_; clear K hK) | refine TS.imp ?_ | refine n9 (by decide) ?_))
      simp only [RetG, go_sem]; (repeat with_reducible refine vc ?_)
      exact ⟨_, rfl, ⟨12, [a], 0, 1 + v1, 0, 0, 0, 0, [], [], 0, 0, 0, 0, 0⟩, j2, rfl, rfl, made_rest hin hw1 hw3 (by decide) (fun h => absurd rfl h) (fun _ => ⟨by omega, by omega⟩) (fun _ => ⟨rfl, rfl⟩) (fun h => absurd h (by decide)) (fun _ => ⟨rfl, rfl⟩) (fun h => absurd h (by decide)) (fun h => absurd (hst h).2 (by decide)), b2, b3⟩
    (repeat (first | (refine TR.imp ?_; intro K hK; simp only [go_sem, hP, hn]; (repeat refine vc ?_); refine hK _ ?_; clear K hK) | refine TS.imp ?_ | refine n9 (by decide) ?_))
    refine Tr.cond rfl (fun c9' => ?_) (fun c9' => ?_)
    · (repeat (first | (refine TR.imp ?_; intro K hK; simp only [go_sem, hP, hn]; (repeat refine vc ?_); refine hK _ ?_; clear K hK) | refine TS.imp ?_ | refine n9 (by decide) ?_))
      obtain rfl : kk = 9 := by simpa using c9'
      (repeat (first | (refine TR.imp ?_; intro K hK; simp only [go_sem, hP, hn]; (repeat refine vc ?_); refine hK _ ?_; clear K hK) | refine TS.imp ?_ | refine n9 (by decide) ?_))
      refine TR.imp ?_; intro K hK; simp only [go_sem, hP, hn]
      (repeat refine vc ?_)
      refine CallN_c1 (by rw [hP, hT]; exact Next_c Tm l j 200 hl hj0 hj1 (by decide) (by decide) ) rfl rfl rfl trivial (by simp only [go_sem, hP, hn]; try trivial) (by simp only [go_sem, hP, hn]; try rfl) (by simp only [go_sem, hP, hn]; try rfl) (by rw [hn]; decide) (fun r ob' hr => ?_); obtain  ⟨v1, j2, rfl, rfl, e1, e2, b2, b3⟩ := hr; simp only [go_sem, hP, hn]; (repeat refine vc ?_)
      refine hK _ ?_; clear K hK
      rw [w64 (x := v1 - 150) (by omega) (by omega)]
      refine Tr.le (Le.keep [0, 8, 9, 10]) ?_; simp only [List.map_cons, List.map_nil, lk, Nat.reduceEqDiff, reduceIte]
      (first | refine d1 (.p true 0 (.p true 2 (.alt 1 (.alt 3 (.p false 4 (.p true 5 (.alt 6 .nil .nil))) .nil) (.alt 3 (.alt 1 (.p false 4 (.p true 5 (.alt 6 .nil .nil))) .nil) .nil)))) [9, 1000] (by rw [hP]; kernel_rfl) (by kernel_rfl) (by simp only [go_sem, hP, hn]; try simp) (fun _ _ h => h) fun K hK => ?_ | refine d2 (.p true 0 (.p true 2 (.alt 1 (.alt 3 (.p false 4 (.p true 5 (.alt 6 .nil .nil))) .nil) (.alt 3 (.alt 1 (.p false 4 (.p true 5 (.alt 6 .nil .nil))) .nil) .nil)))) [9, 1000] (by rw [hP]; kernel_rfl) (by kernel_rfl) (by simp only [go_sem, hP, hn]; try simp) (fun _ _ h => h) fun K hK => ?_ | refine d4 (.p true 0 (.p true 2 (.alt 1 (.alt 3 (.p false 4 (.p true 5 (.alt 6 .nil .nil))) .nil) (.alt 3 (.alt 1 (.p false 4 (.p true 5 (.alt 6 .nil .nil))) .nil) .nil)))) [9, 1000] (by rw [hP]; kernel_rfl) (by kernel_rfl) (by simp only [go_sem, hP, hn]; try simp) (fun _ _ h => h) fun K hK => ?_); simp only [go_sem, hP, hn]
      (repeat refine vc ?_)
      refine ⟨?_, ?_⟩
      · (repeat refine vc ?_)
        refine CallP_c1 (by rw [hP, hT]; exact Next_c Tm l j2 300 hl b2 b3 (by decide) (by decide) ) rfl rfl rfl trivial (by simp only [go_sem, hP, hn]; try trivial) (by simp only [go_sem, hP, hn]; try rfl) (by simp only [go_sem, hP, hn]; try rfl) (by rw [hn]; decide) rfl (fun r ob' hr => ?_); obtain  ⟨v2, j3, rfl, rfl, e3, e4, b4, b5⟩ := hr; simp only [go_sem, hP, hn]; (repeat refine vc ?_)
        rw [w64 (x := v1 - 150 + v2) (by omega) (by omega)]
        refine hK _ ?_; clear K hK
        (repeat (first | (refine TR.imp ?_; intro K hK; simp only [go_sem, hP, hn]; (repeat refine vc ?_); refine hK _ ?_; clear K hK) | refine TS.imp ?_ | refine n9 (by decide) ?_))
        simp only [RetG, go_sem]; (repeat with_reducible refine vc ?_)
        exact ⟨_, rfl, ⟨9, [a], 0, 0, 0, 0, 0, 0, [], [], 0, 0, v1 - 150, v1 - 150 + v2, 0⟩, j3, rfl, rfl, made_rest hin hw1 hw3 (by decide) (fun _ => rfl) (fun h => absurd h (by decide)) (fun _ => ⟨rfl, rfl⟩) (fun h => absurd h (by decide)) (fun h => absurd rfl h) (fun _ => ⟨by omega, by omega, by omega⟩) (fun _ => ⟨by decide, by decide⟩), b4, b5⟩
      · refine CallP_c1 (by rw [hP, hT]; exact Next_c Tm l j2 300 hl b2 b3 (by decide) (by decide) ) rfl rfl rfl trivial (by simp only [go_sem, hP, hn]; try trivial) (by simp only [go_sem, hP, hn]; try rfl) (by simp only [go_sem, hP, hn]; try rfl) (by rw [hn]; decide) rfl (fun r ob' hr => ?_); obtain  ⟨v2, j3, rfl, rfl, e3, e4, b4, b5⟩ := hr; simp only [go_sem, hP, hn]; (repeat refine vc ?_)
        rw [w64 (x := v1 - 150 + v2) (by omega) (by omega)]
        refine hK _ ?_; clear K hK
        (repeat (first | (refine TR.imp ?_; intro K hK; simp only [go_sem, hP, hn]; (repeat refine vc ?_); refine hK _ ?_; clear K hK) | refine TS.imp ?_ | refine n9 (by decide) ?_))
        simp only [RetG, go_sem]; (repeat with_reducible refine vc ?_)
        exact ⟨_, rfl, ⟨9, [a], 0, 0, 0, 0, 0, 0, [], [], 0, 0, v1 - 150, v1 - 150 + v2, 0⟩, j3, rfl, rfl, made_rest hin hw1 hw3 (by decide) (fun _ => rfl) (fun h => absurd h (by decide)) (fun _ => ⟨rfl, rfl⟩) (fun h => absurd h (by decide)) (fun h => absurd rfl h) (fun _ => ⟨by omega, by omega, by omega⟩) (fun _ => ⟨by decide, by decide⟩), b4, b5⟩
    (repeat (first | (refine TR.imp ?_; intro K hK; simp only [go_sem, hP, hn]; (repeat refine vc ?_); refine hK _ ?_; clear K hK) | refine TS.imp ?_ | refine n9 (by decide) ?_))
    refine Tr.cond rfl (fun c10' => ?_) (fun c10' => ?_)
    · (repeat (first | (refine TR.imp ?_; intro K hK; simp only [go_sem, hP, hn]; (repeat refine vc ?_); refine hK _ ?_; clear K hK) | refine TS.imp ?_ | refine n9 (by decide) ?_))
      obtain rfl : kk = 10 := by simpa using c10'
      (repeat (first | (refine TR.imp ?_; intro K hK; simp only [go_sem, hP, hn]; (repeat refine vc ?_); refine hK _ ?_; clear K hK) | refine TS.imp ?_ | refine n9 (by decide) ?_))
      refine TR.imp ?_; intro K hK; simp only [go_sem, hP, hn]
      (repeat refine vc ?_)
      refine CallN_c1 (by rw [hP, hT]; exact Next_c Tm l j 32768 hl hj0 hj1 (by decide) (by decide) ) rfl rfl rfl trivial (by simp only [go_sem, hP, hn]; try trivial) (by simp only [go_sem, hP, hn]; try rfl) (by simp only [go_sem, hP, hn]; try rfl) (by rw [hn]; decide) (fun r ob' hr => ?_); obtain  ⟨v1, j2, rfl, rfl, e1, e2, b2, b3⟩ := hr; simp only [go_sem, hP, hn]; (repeat refine vc ?_)
      refine hK _ ?_; clear K hK
      (repeat (first | (refine TR.imp ?_; intro K hK; simp only [go_sem, hP, hn]; (repeat refine vc ?_); refine hK _ ?_; clear K hK) | refine TS.imp ?_ | refine n9 (by decide) ?_))
      refine TR.imp ?_; intro K hK; simp only [go_sem, hP, hn]
      (repeat refine vc ?_)
      refine CallN_c1 (by rw [hP, hT]; exact Next_c Tm l j2 20 hl b2 b3 (by decide) (by decide) ) rfl rfl rfl trivial (by simp only [go_sem, hP, hn]; try trivial) (by simp only [go_sem, hP, hn]; try rfl) (by simp only [go_sem, hP, hn]; try rfl) (by rw [hn]; decide) (fun r ob' hr => ?_); obtain  ⟨v2, j3, rfl, rfl, e3, e4, b4, b5⟩ := hr; simp only [go_sem, hP, hn]; (repeat refine vc ?_)
      refine hK _ ?_; clear K hK
      (repeat (first | (refine TR.imp ?_; intro K hK; simp only [go_sem, hP, hn]; (repeat refine vc ?_); refine hK _ ?_; clear K hK) | refine TS.imp ?_ | refine n9 (by decide) ?_))
      simp only [RetG, go_sem]; (repeat with_reducible refine vc ?_)
      exact ⟨_, rfl, ⟨10, [a], 0, 0, 0, 0, 0, 0, [], [], v1, v2, 0, 0, 0⟩, j3, rfl, rfl, made_rest hin hw1 hw3 (by decide) (fun _ => rfl) (fun h => absurd h (by decide)) (fun h => absurd rfl h) (fun _ => ⟨⟨e1, by omega⟩, e3, by omega⟩) (fun _ => ⟨rfl, rfl⟩) (fun h => absurd h (by decide)) (fun _ => ⟨by decide, by decide⟩), b4, b5⟩
    · have hk5 : kk = 5 ∨ kk = 11 := by simp only [beq_eq_false_iff_ne] at c1' c2' c6' c3' c4' c12' c9' c10'; omega
      (repeat (first | (refine TR.imp ?_; intro K hK; simp only [go_sem, hP, hn]; (repeat refine vc ?_); refine hK _ ?_; clear K hK) | refine TS.imp ?_ | refine n9 (by decide) ?_))
      simp only [RetG, go_sem]; (repeat with_reducible refine vc ?_)
      exact ⟨_, rfl, ⟨kk, [a], 0, 0, 0, 0, 0, 0, [], [], 0, 0, 0, 0, 0⟩, j, rfl, rfl, made_rest hin hw1 hw3 (by omega) (fun _ => rfl) (fun h => by omega) (fun _ => ⟨rfl, rfl⟩) (fun h => by omega) (fun _ => ⟨rfl, rfl⟩) (fun h => by omega) (fun h => by have := hst h; omega), hj0, hj1⟩))
  clear hK
  have hq : k = 0 ∨ k = 1 ∨ k = 2 ∨ k = 3 ∨ k = 4 ∨ k = 5 ∨ k = 6 ∨ k = 7 ∨ k = 8 ∨ k = 9 ∨ k = 10 ∨ k = 11 := by omega
  rcases hq with rfl | rfl | rfl | rfl | rfl | rfl | rfl | rfl | rfl | rfl | rfl | rfl
  · simp only [go_sem, hP, hn]
    (repeat refine vc ?_)
    exact tail 1 _ (by decide) (fun e => by have := hks e; omega) (Le.mv (by simp only [go_sem, hP, hn]; first | done | (simp; done) | (simp [intC]; done) | (repeat (first | rfl | constructor))) (by simp only [go_sem, hP, hn]; first | done | (simp; done) | (simp [intC]; done) | (repeat (first | rfl | constructor))))
  · simp only [go_sem, hP, hn]
    (repeat refine vc ?_)
    exact tail 2 _ (by decide) (fun e => by have := hks e; omega) (Le.mv (by simp only [go_sem, hP, hn]; first | done | (simp; done) | (simp [intC]; done) | (repeat (first | rfl | constructor))) (by simp only [go_sem, hP, hn]; first | done | (simp; done) | (simp [intC]; done) | (repeat (first | rfl | constructor))))
  · simp only [go_sem, hP, hn]
    (repeat refine vc ?_)
    exact tail 3 _ (by decide) (fun e => by have := hks e; omega) (Le.mv (by simp only [go_sem, hP, hn]; first | done | (simp; done) | (simp [intC]; done) | (repeat (first | rfl | constructor))) (by simp only [go_sem, hP, hn]; first | done | (simp; done) | (simp [intC]; done) | (repeat (first | rfl | constructor))))
  · simp only [go_sem, hP, hn]
    (repeat refine vc ?_)
    exact tail 4 _ (by decide) (fun e => by have := hks e; omega) (Le.mv (by simp only [go_sem, hP, hn]; first | done | (simp; done) | (simp [intC]; done) | (repeat (first | rfl | constructor))) (by simp only [go_sem, hP, hn]; first | done | (simp; done) | (simp [intC]; done) | (repeat (first | rfl | constructor))))
  · simp only [go_sem, hP, hn]
    (repeat refine vc ?_)
    exact tail 12 _ (by decide) (fun e => by have := hks e; omega) (Le.mv (by simp only [go_sem, hP, hn]; first | done | (simp; done) | (simp [intC]; done) | (repeat (first | rfl | constructor))) (by simp only [go_sem, hP, hn]; first | done | (simp; done) | (simp [intC]; done) | (repeat (first | rfl | constructor))))
  · simp only [go_sem, hP, hn]
    (repeat refine vc ?_)
    exact tail 1 _ (by decide) (fun e => by have := hks e; omega) (Le.mv (by simp only [go_sem, hP, hn]; first | done | (simp; done) | (simp [intC]; done) | (repeat (first | rfl | constructor))) (by simp only [go_sem, hP, hn]; first | done | (simp; done) | (simp [intC]; done) | (repeat (first | rfl | constructor))))
  · simp only [go_sem, hP, hn]
    (repeat refine vc ?_)
    exact tail 5 _ (by decide) (fun e => by have := hks e; omega) (Le.mv (by simp only [go_sem, hP, hn]; first | done | (simp; done) | (simp [intC]; done) | (repeat (first | rfl | constructor))) (by simp only [go_sem, hP, hn]; first | done | (simp; done) | (simp [intC]; done) | (repeat (first | rfl | constructor))))
  · simp only [go_sem, hP, hn]
    (repeat refine vc ?_)
    exact tail 6 _ (by decide) (fun e => by have := hks e; omega) (Le.mv (by simp only [go_sem, hP, hn]; first | done | (simp; done) | (simp [intC]; done) | (repeat (first | rfl | constructor))) (by simp only [go_sem, hP, hn]; first | done | (simp; done) | (simp [intC]; done) | (repeat (first | rfl | constructor))))
  · simp only [go_sem, hP, hn]
    (repeat refine vc ?_)
    exact tail 9 _ (by decide) (fun e => by have := hks e; omega) (Le.mv (by simp only [go_sem, hP, hn]; first | done | (simp; done) | (simp [intC]; done) | (repeat (first | rfl | constructor))) (by simp only [go_sem, hP, hn]; first | done | (simp; done) | (simp [intC]; done) | (repeat (first | rfl | constructor))))
  · simp only [go_sem, hP, hn]
    (repeat refine vc ?_)
    exact tail 10 _ (by decide) (fun e => by have := hks e; omega) (Le.mv (by simp only [go_sem, hP, hn]; first | done | (simp; done) | (simp [intC]; done) | (repeat (first | rfl | constructor))) (by simp only [go_sem, hP, hn]; first | done | (simp; done) | (simp [intC]; done) | (repeat (first | rfl | constructor))))
  · simp only [go_sem, hP, hn]
    (repeat refine vc ?_)
    exact tail 11 _ (by decide) (fun e => by have := hks e; omega) (Le.mv (by simp only [go_sem, hP, hn]; first | done | (simp; done) | (simp [intC]; done) | (repeat (first | rfl | constructor))) (by simp only [go_sem, hP, hn]; first | done | (simp; done) | (simp [intC]; done) | (repeat (first | rfl | constructor))))
  · simp only [go_sem, hP, hn]
    (repeat refine vc ?_)
    exact tail 6 _ (by decide) (fun e => by have := hks e; omega) (Le.mv (by simp only [go_sem, hP, hn]; first | done | (simp; done) | (simp [intC]; done) | (repeat (first | rfl | constructor))) (by simp only [go_sem, hP, hn]; first | done | (simp; done) | (simp [intC]; done) | (repeat (first | rfl | constructor))))
end
theorem rate15_r {T : World → Prop} (Tm : TP T) (n : Nd) (l : List Int) (h0 : 0 < l.length) (hl : l.length ≤ 65536) : Ct Go.Proofs.Tryd.prog T 91 [.agg n.cs, .d (.row [.i .i64 0] (l.map intC))] true (fun r => r = .d (.i .i64 (n.rate l))) := by
  refine Ct_of Tm Go.Proofs.Tryd.func91 rfl rfl Go.Proofs.Tryd.ntmps91 (by simp) (rs := [.tmp 4]) rfl fun E hP hn hT => ?_
  (repeat (first | (refine TR.imp ?_; intro K hK; simp only [go_sem, hP, hn]; (repeat refine vc ?_); refine hK _ ?_; clear K hK) | refine TS.imp ?_ | refine n9 (by decide) ?_))
  refine Tr.loop (fun m s => ∃ j : Int, s = ⟨[(1, .d (.row [.i .i64 0] (l.map intC))), (2, .ptr 2 0), (5, .d (.i .i64 (rd l 0))), (6, .d (.i .i64 j))], [(2, .box 27 n.cs)]⟩ ∧ 0 ≤ j ∧ j + m = l.length ∧ l.all (· == rd l 0) = (l.drop j.toNat).all (· == rd l 0)) l.length ⟨_, (Le.mv (by simp only [go_sem, hP, hn]; first | done | (simp; done) | (simp [intC]; done) | (repeat (first | rfl | constructor))) (by simp only [go_sem, hP, hn]; first | done | (simp; done) | (simp [intC]; done) | (repeat (first | rfl | constructor)))), 0, rfl, by omega, by omega, by simp⟩ ?_
  rintro m s ⟨j, rfl, j0, hm, hc⟩
  (repeat (first | (refine TR.imp ?_; intro K hK; simp only [go_sem, hP, hn]; (repeat refine vc ?_); refine hK _ ?_; clear K hK) | refine TS.imp ?_ | refine n9 (by decide) ?_))
  refine Tr.cond rfl (fun hb => ?_) (fun hb => ?_)
  · have hj : j < l.length := by simpa using hb
    rw [drop_rd j0 hj, List.all_cons] at hc
    (repeat (first | (refine TR.imp ?_; intro K hK; simp only [go_sem, hP, hn]; (repeat refine vc ?_); refine hK _ ?_; clear K hK) | refine TS.imp ?_ | refine n9 (by decide) ?_))
    refine Tr.cond rfl (fun hd => ?_) (fun hd => ?_)
    · (repeat (first | (refine TR.imp ?_; intro K hK; simp only [go_sem, hP, hn]; (repeat refine vc ?_); refine hK _ ?_; clear K hK) | refine TS.imp ?_ | refine n9 (by decide) ?_))
      simp only [RetQ, go_sem]
      have e : l.all (· == rd l 0) = false := by
        rw [hc, show (rd l j == rd l 0) = false by simpa using hd, Bool.false_and]
      unfold Nd.rate; rw [if_pos e]
    · (repeat (first | (refine TR.imp ?_; intro K hK; simp only [go_sem, hP, hn]; (repeat refine vc ?_); refine hK _ ?_; clear K hK) | refine TS.imp ?_ | refine n9 (by decide) ?_))
      rw [w64 (x := j + 1) (by omega) (by omega)]
      refine ⟨m - 1, _, by omega, ?_, j + 1, rfl, by omega, by omega, ?_⟩
      · exact (Le.mv (by simp only [go_sem, hP, hn]; first | done | (simp; done) | (simp [intC]; done) | (repeat (first | rfl | constructor))) (by simp only [go_sem, hP, hn]; first | done | (simp; done) | (simp [intC]; done) | (repeat (first | rfl | constructor))))
      rw [hc, show (rd l j == rd l 0) = true by simpa using hd, Bool.true_and, show (j + 1).toNat = j.toNat + 1 by omega]
  · rw [drop_end (by simpa using hb)] at hc
    have e : ¬ l.all (· == rd l 0) = false := by rw [hc]; simp
    (repeat (first | (refine TR.imp ?_; intro K hK; simp only [go_sem, hP, hn]; (repeat refine vc ?_); refine hK _ ?_; clear K hK) | refine TS.imp ?_ | refine n9 (by decide) ?_))
    refine TR.imp ?_; intro K hK; simp only [go_sem, hP, hn]; (repeat refine vc ?_); refine c1 (by rw [hP, hT]; exact Windows_r Tm n.k) rfl rfl rfl trivial (by simp only [go_sem, hP, hn]; try trivial) (by simp only [go_sem, hP, hn]; try rfl) (by rw [hn]; decide) (by rfl) ?_; simp only [go_sem, hP, hn]; (repeat refine vc ?_); refine hK _ ?_; clear K hK
    (repeat (first | (refine TR.imp ?_; intro K hK; simp only [go_sem, hP, hn]; (repeat refine vc ?_); refine hK _ ?_; clear K hK) | refine TS.imp ?_ | refine n9 (by decide) ?_))
    refine Tr.cond rfl (fun h1 => ?_) (fun h1 => ?_)
    · (repeat (first | (refine TR.imp ?_; intro K hK; simp only [go_sem, hP, hn]; (repeat refine vc ?_); refine hK _ ?_; clear K hK) | refine TS.imp ?_ | refine n9 (by decide) ?_))
      simp only [RetQ, go_sem]
      unfold Nd.rate; rw [if_neg e, if_pos h1]
    (repeat (first | (refine TR.imp ?_; intro K hK; simp only [go_sem, hP, hn]; (repeat refine vc ?_); refine hK _ ?_; clear K hK) | refine TS.imp ?_ | refine n9 (by decide) ?_))
    refine Tr.cond rfl (fun h2 => ?_) (fun h2 => ?_)
    · (repeat (first | (refine TR.imp ?_; intro K hK; simp only [go_sem, hP, hn]; (repeat refine vc ?_); refine hK _ ?_; clear K hK) | refine TS.imp ?_ | refine n9 (by decide) ?_))
      simp only [RetQ, go_sem]
      unfold Nd.rate; rw [if_neg e, if_neg (by rw [h1]; decide), if_pos h2]
    (repeat (first | (refine TR.imp ?_; intro K hK; simp only [go_sem, hP, hn]; (repeat refine vc ?_); refine hK _ ?_; clear K hK) | refine TS.imp ?_ | refine n9 (by decide) ?_))
    refine TR.imp ?_; intro K hK; simp only [go_sem, hP, hn]; (repeat refine vc ?_); refine c1 (by rw [hP, hT]; exact Step_r Tm n) rfl rfl rfl trivial (by simp only [go_sem, hP, hn]; try trivial) (by simp only [go_sem, hP, hn]; try rfl) (by rw [hn]; decide) (by rfl) ?_; simp only [go_sem, hP, hn]; (repeat refine vc ?_); refine hK _ ?_; clear K hK
    (repeat (first | (refine TR.imp ?_; intro K hK; simp only [go_sem, hP, hn]; (repeat refine vc ?_); refine hK _ ?_; clear K hK) | refine TS.imp ?_ | refine n9 (by decide) ?_))
    simp only [RetQ, go_sem]
    unfold Nd.rate; rw [if_neg e, if_neg (by rw [h1]; decide), if_neg (by rw [h2]; decide)]
theorem rate16_r {T : World → Prop} (Tm : TP T) (n : Nd) (l : List Int) (h0 : 0 < l.length) (hl : l.length ≤ 65536) : Ct Go.Proofs.Tryd.prog T 97 [.agg n.cs, .d (.row [.i .i64 0] (l.map intC))] true (fun r => r = .d (.i .i64 (n.rate l))) := by
  refine Ct_of Tm Go.Proofs.Tryd.func97 rfl rfl Go.Proofs.Tryd.ntmps97 (by simp) (rs := [.tmp 4]) rfl fun E hP hn hT => ?_
  (repeat (first | (refine TR.imp ?_; intro K hK; simp only [go_sem, hP, hn]; (repeat refine vc ?_); refine hK _ ?_; clear K hK) | refine TS.imp ?_ | refine n9 (by decide) ?_))
  refine Tr.loop (fun m s => ∃ j : Int, s = ⟨[(1, .d (.row [.i .i64 0] (l.map intC))), (2, .ptr 2 0), (5, .d (.i .i64 (rd l 0))), (6, .d (.i .i64 j))], [(2, .box 27 n.cs)]⟩ ∧ 0 ≤ j ∧ j + m = l.length ∧ l.all (· == rd l 0) = (l.drop j.toNat).all (· == rd l 0)) l.length ⟨_, (Le.mv (by simp only [go_sem, hP, hn]; first | done | (simp; done) | (simp [intC]; done) | (repeat (first | rfl | constructor))) (by simp only [go_sem, hP, hn]; first | done | (simp; done) | (simp [intC]; done) | (repeat (first | rfl | constructor)))), 0, rfl, by omega, by omega, by simp⟩ ?_
  rintro m s ⟨j, rfl, j0, hm, hc⟩
  (repeat (first | (refine TR.imp ?_; intro K hK; simp only [go_sem, hP, hn]; (repeat refine vc ?_); refine hK _ ?_; clear K hK) | refine TS.imp ?_ | refine n9 (by decide) ?_))
  refine Tr.cond rfl (fun hb => ?_) (fun hb => ?_)
  · have hj : j < l.length := by simpa using hb
    rw [drop_rd j0 hj, List.all_cons] at hc
    (repeat (first | (refine TR.imp ?_; intro K hK; simp only [go_sem, hP, hn]; (repeat refine vc ?_); refine hK _ ?_; clear K hK) | refine TS.imp ?_ | refine n9 (by decide) ?_))
    refine Tr.cond rfl (fun hd => ?_) (fun hd => ?_)
    · (repeat (first | (refine TR.imp ?_; intro K hK; simp only [go_sem, hP, hn]; (repeat refine vc ?_); refine hK _ ?_; clear K hK) | refine TS.imp ?_ | refine n9 (by decide) ?_))
      simp only [RetQ, go_sem]
      have e : l.all (· == rd l 0) = false := by
        rw [hc, show (rd l j == rd l 0) = false by simpa using hd, Bool.false_and]
      unfold Nd.rate; rw [if_pos e]
    · (repeat (first | (refine TR.imp ?_; intro K hK; simp only [go_sem, hP, hn]; (repeat refine vc ?_); refine hK _ ?_; clear K hK) | refine TS.imp ?_ | refine n9 (by decide) ?_))
      rw [w64 (x := j + 1) (by omega) (by omega)]
      refine ⟨m - 1, _, by omega, ?_, j + 1, rfl, by omega, by omega, ?_⟩
      · exact (Le.mv (by simp only [go_sem, hP, hn]; first | done | (simp; done) | (simp [intC]; done) | (repeat (first | rfl | constructor))) (by simp only [go_sem, hP, hn]; first | done | (simp; done) | (simp [intC]; done) | (repeat (first | rfl | constructor))))
      rw [hc, show (rd l j == rd l 0) = true by simpa using hd, Bool.true_and, show (j + 1).toNat = j.toNat + 1 by omega]
  · rw [drop_end (by simpa using hb)] at hc
    have e : ¬ l.all (· == rd l 0) = false := by rw [hc]; simp
    (repeat (first | (refine TR.imp ?_; intro K hK; simp only [go_sem, hP, hn]; (repeat refine vc ?_); refine hK _ ?_; clear K hK) | refine TS.imp ?_ | refine n9 (by decide) ?_))
    refine TR.imp ?_; intro K hK; simp only [go_sem, hP, hn]; (repeat refine vc ?_); refine c1 (by rw [hP, hT]; exact Windows_r Tm n.k) rfl rfl rfl trivial (by simp only [go_sem, hP, hn]; try trivial) (by simp only [go_sem, hP, hn]; try rfl) (by rw [hn]; decide) (by rfl) ?_; simp only [go_sem, hP, hn]; (repeat refine vc ?_); refine hK _ ?_; clear K hK
    (repeat (first | (refine TR.imp ?_; intro K hK; simp only [go_sem, hP, hn]; (repeat refine vc ?_); refine hK _ ?_; clear K hK) | refine TS.imp ?_ | refine n9 (by decide) ?_))
    refine Tr.cond rfl (fun h1 => ?_) (fun h1 => ?_)
    · (repeat (first | (refine TR.imp ?_; intro K hK; simp only [go_sem, hP, hn]; (repeat refine vc ?_); refine hK _ ?_; clear K hK) | refine TS.imp ?_ | refine n9 (by decide) ?_))
      simp only [RetQ, go_sem]
      unfold Nd.rate; rw [if_neg e, if_pos h1]
    (repeat (first | (refine TR.imp ?_; intro K hK; simp only [go_sem, hP, hn]; (repeat refine vc ?_); refine hK _ ?_; clear K hK) | refine TS.imp ?_ | refine n9 (by decide) ?_))
    refine Tr.cond rfl (fun h2 => ?_) (fun h2 => ?_)
    · (repeat (first | (refine TR.imp ?_; intro K hK; simp only [go_sem, hP, hn]; (repeat refine vc ?_); refine hK _ ?_; clear K hK) | refine TS.imp ?_ | refine n9 (by decide) ?_))
      simp only [RetQ, go_sem]
      unfold Nd.rate; rw [if_neg e, if_neg (by rw [h1]; decide), if_pos h2]
    (repeat (first | (refine TR.imp ?_; intro K hK; simp only [go_sem, hP, hn]; (repeat refine vc ?_); refine hK _ ?_; clear K hK) | refine TS.imp ?_ | refine n9 (by decide) ?_))
    refine TR.imp ?_; intro K hK; simp only [go_sem, hP, hn]; (repeat refine vc ?_); refine c1 (by rw [hP, hT]; exact Step_r Tm n) rfl rfl rfl trivial (by simp only [go_sem, hP, hn]; try trivial) (by simp only [go_sem, hP, hn]; try rfl) (by rw [hn]; decide) (by rfl) ?_; simp only [go_sem, hP, hn]; (repeat refine vc ?_); refine hK _ ?_; clear K hK
    (repeat (first | (refine TR.imp ?_; intro K hK; simp only [go_sem, hP, hn]; (repeat refine vc ?_); refine hK _ ?_; clear K hK) | refine TS.imp ?_ | refine n9 (by decide) ?_))
    simp only [RetQ, go_sem]
    unfold Nd.rate; rw [if_neg e, if_neg (by rw [h1]; decide), if_neg (by rw [h2]; decide)]
section
def turnN (N : Int) (n : Nd) : Nd := { n with inn := n.inn.map fun x => if 0 < x then N + 1 - x else x }
attribute [local go_sem] turnN
theorem turned_c {T : World → Prop} (Tm : TP T) (wd lo hi out : Int) (ns : List Nd) (hn0 : 1 ≤ ns.length) (hn : ns.length ≤ 12) (ho : 0 ≤ out ∧ out ≤ ns.length) (hin : ∀ n ∈ ns, n.inn.length ≤ 4096 ∧ ∀ j ∈ n.inn, 0 ≤ j ∧ j ≤ ns.length) :
    Cg Go.Proofs.Tryd.prog T 92 [] [.agg (gcs wd lo hi out (.d (rowN ns)))] (fun r H => r = .agg (gcs wd lo hi (ns.length + 1 - out) (.own 2000)) ∧ H = [(2000, .row 27 e0N ((ns.map (turnN ns.length)).reverse.map Nd.ds))]) := by
  refine Cg_of [2000] Tm Go.Proofs.Tryd.func92 rfl rfl Go.Proofs.Tryd.ntmps92 (by simp) rfl (rs := [.cell 2 47]) rfl fun E hP hn hT hpn => ?_
  (repeat (first | (refine TR.imp ?_; intro K hK; simp only [go_sem, hP, hn]; (repeat refine vc ?_); refine hK _ ?_; clear K hK) | refine TS.imp ?_ | refine n9 (by decide) ?_))
  rw [w64 (x := (ns.length : Int) + 1) (by omega) (by omega), w64 (x := (ns.length : Int) + 1 - out) (by omega) (by omega)]
  refine Tr.le (Le.keep [1, 2, 3, 4, 5]) ?_; simp only [List.map_cons, List.map_nil, lk, Nat.reduceEqDiff, reduceIte]
  refine Tr.loop (fun m s => ∃ (i : Int) (x : S) (X : Hp), s = ⟨[(1, .ptr 1 0), (2, .ptr 2 0), (3, .d (.i .i64 ns.length)), (4, .ptr 4 0), (5, .d (.i .i64 i))], [(4, .box 47 (gcs wd lo hi (ns.length + 1 - out) x)), (2, .box 47 (gcs 0 0 0 0 (.d .nil))), (1, .box 47 (gcs wd lo hi out (.d (rowN ns))))] ++ X⟩ ∧ i = m ∧ i ≤ ns.length ∧ ((i = ns.length ∧ x = .d .nil ∧ X = []) ∨ (i < ns.length ∧ x = .own 66 ∧ X = [(66, .row 27 e0N (((ns.drop i.toNat).map (turnN ns.length)).reverse.map Nd.ds))]))) ns.length ⟨_, (Le.mv (by simp only [go_sem, hP, hn]; first | done | (simp; done) | (simp [intC]; done) | (repeat (first | rfl | constructor))) (by simp only [go_sem, hP, hn]; first | done | (simp; done) | (simp [intC]; done) | (repeat (first | rfl | constructor)))), ns.length, .d .nil, [], rfl, rfl, by omega, .inl ⟨rfl, rfl, rfl⟩⟩ ?_
  rintro m s ⟨i, x, X, rfl, him, hiN, hx⟩
  have hdr : 1 ≤ i → (ns.drop (i - 1).toNat).map (turnN ns.length) = turnN ns.length (nd ns (i - 1)) :: (ns.drop i.toNat).map (turnN ns.length) := fun h1 => by
    rw [drop_nd (show 0 ≤ i - 1 by omega) (by omega), List.map_cons, show i - 1 + 1 = i by omega]
  rcases hx with ⟨hN, rfl, rfl⟩ | ⟨hlt, rfl, rfl⟩
  · (repeat (first | (refine TR.imp ?_; intro K hK; simp only [go_sem, hP, hn]; (repeat refine vc ?_); refine hK _ ?_; clear K hK) | refine TS.imp ?_ | refine n9 (by decide) ?_))
    refine Tr.cond rfl (fun hb => ?_) (fun hb => ?_)
    · have h1 : 1 ≤ i := by simpa using hb
      have hi1 : wrap64 (i - 1) = i - 1 := w64 (by omega) (by omega)
      have hnd := rw_nd ns (i - 1) (by omega) (by omega)
      have hq := hin _ (nd_mem (ns := ns) (i := i - 1) (by omega) (by omega))
      replace hdr := hdr h1
      (repeat (first | refine TS.imp ?_ | refine n9 (by decide) ?_))
      refine TR.imp ?_; intro K hK; simp only [hi1, hnd, go_sem, hP, hn]
      (repeat refine vc ?_)
      generalize nd ns (i - 1) = q at hq hdr ⊢
      refine hK _ ?_; clear K hK
      (repeat (first | (refine TR.imp ?_; intro K hK; simp only [go_sem, hP, hn]; (repeat refine vc ?_); refine hK _ ?_; clear K hK) | refine TS.imp ?_ | refine n9 (by decide) ?_))
      refine Tr.le (Le.keep [1, 2, 3, 4, 5, 6, 7, 8]) ?_; simp only [List.map_cons, List.map_nil, lk, Nat.reduceEqDiff, reduceIte]
      refine Tr.loop (fun m2 s => ∃ (j : Int) (l : List Int), s = ⟨[(1, .ptr 1 0), (2, .ptr 2 0), (3, .d (.i .i64 ns.length)), (4, .ptr 4 0), (5, .d (.i .i64 i)), (6, .ptr 6 0), (7, .own 38), (8, .d (.i .i64 j))], [(38, .row 3 [.i .i64 0] (l.map intC)), (6, .box 27 q.cs), (4, .box 47 (gcs wd lo hi (ns.length + 1 - out) (.d .nil))), (2, .box 47 (gcs 0 0 0 0 (.d .nil))), (1, .box 47 (gcs wd lo hi out (.d (rowN ns))))]⟩ ∧ 0 ≤ j ∧ j + m2 = q.inn.length ∧ l.length = q.inn.length ∧ l.take j.toNat = (q.inn.take j.toNat).map (fun x => if 0 < x then (ns.length : Int) + 1 - x else x) ∧ l.drop j.toNat = q.inn.drop j.toNat) q.inn.length ⟨_, (Le.mv (by simp only [go_sem, hP, hn]; first | done | (simp; done) | (simp [intC]; done) | (repeat (first | rfl | constructor))) (by simp only [go_sem, hP, hn]; first | done | (simp; done) | (simp [intC]; done) | (repeat (first | rfl | constructor)))), 0, q.inn, rfl, by omega, by omega, rfl, by simp, by simp⟩ ?_
      rintro m2 s ⟨j, l, rfl, hj0, hj1, hl, hta, hdo⟩
      (repeat (first | (refine TR.imp ?_; intro K hK; simp only [go_sem, hP, hn]; (repeat refine vc ?_); refine hK _ ?_; clear K hK) | refine TS.imp ?_ | refine n9 (by decide) ?_))
      refine Tr.cond rfl (fun hc => ?_) (fun hc => ?_)
      · have hjl : j < l.length := by simpa using hc
        have hrd : rd l j = rd q.inn j := by
          have e1 := drop_rd hj0 hjl
          have e2 := drop_rd (l := q.inn) hj0 (by omega)
          rw [hdo, e2] at e1
          exact (List.cons.inj e1).1.symm
        have hd1 : l.drop (j + 1).toNat = q.inn.drop (j + 1).toNat := by
          have e1 := drop_rd hj0 hjl
          have e2 := drop_rd (l := q.inn) hj0 (by omega)
          rw [hdo, e2] at e1
          exact (List.cons.inj e1).2.symm
        have hbd := hq.2 _ (rd_mem (l := q.inn) hj0 (by omega))
        (repeat (first | (refine TR.imp ?_; intro K hK; simp only [go_sem, hP, hn]; (repeat refine vc ?_); refine hK _ ?_; clear K hK) | refine TS.imp ?_ | refine n9 (by decide) ?_))
        refine Tr.cond rfl (fun hg => ?_) (fun hg => ?_)
        · have hg1 : 0 < rd l j := by simpa using hg
          (repeat (first | refine TS.imp ?_ | refine n9 (by decide) ?_))
          refine TR.imp ?_; intro K hK; simp only [go_sem, hP, hn]; (repeat refine vc ?_); refine hK _ ?_; clear K hK
          (repeat (first | (refine TR.imp ?_; intro K hK; simp only [go_sem, hP, hn]; (repeat refine vc ?_); refine hK _ ?_; clear K hK) | refine TS.imp ?_ | refine n9 (by decide) ?_))
          rw [w64 (x := j + 1) (by omega) (by omega), w64 (x := (ns.length : Int) + 1) (by omega) (by omega), w64 (x := (ns.length : Int) + 1 - rd l j) (by omega) (by omega)]
          refine ⟨m2 - 1, _, by omega, ?_, j + 1, l.set j.toNat ((ns.length : Int) + 1 - rd l j), rfl, by omega, by omega, by simpa using hl, ?_, ?_⟩
          · exact (Le.mv (by simp only [go_sem, hP, hn]; first | done | (simp; done) | (simp [intC]; done) | (repeat (first | rfl | constructor))) (by simp only [go_sem, hP, hn]; first | done | (simp; done) | (simp [intC]; done) | (repeat (first | rfl | constructor))))
          · rw [take_set hj0 hjl, take_rd hj0 (show j < q.inn.length by omega), hta, List.map_append, List.map_cons, List.map_nil, hrd, if_pos (by omega)]
          · rw [List.drop_set_of_lt (by omega), hd1]
        · have hg1 : ¬ 0 < rd l j := by simpa using hg
          (repeat (first | (refine TR.imp ?_; intro K hK; simp only [go_sem, hP, hn]; (repeat refine vc ?_); refine hK _ ?_; clear K hK) | refine TS.imp ?_ | refine n9 (by decide) ?_))
          rw [w64 (x := j + 1) (by omega) (by omega)]
          refine ⟨m2 - 1, _, by omega, ?_, j + 1, l, rfl, by omega, by omega, hl, ?_, hd1⟩
          · exact (Le.mv (by simp only [go_sem, hP, hn]; first | done | (simp; done) | (simp [intC]; done) | (repeat (first | rfl | constructor))) (by simp only [go_sem, hP, hn]; first | done | (simp; done) | (simp [intC]; done) | (repeat (first | rfl | constructor))))
          · rw [take_rd hj0 hjl, take_rd hj0 (show j < q.inn.length by omega), hta, List.map_append, List.map_cons, List.map_nil, hrd, if_neg (by omega)]
      · have hj : j = q.inn.length := by have := of_decide_eq_false hc; omega
        obtain rfl : l = q.inn.map (fun x => if 0 < x then (ns.length : Int) + 1 - x else x) := by
          rw [List.take_of_length_le (by omega), List.take_of_length_le (by omega)] at hta
          exact hta
        refine Tr.le (Le.freeze 38) ?_
        simp only [go_sem, hP, hn]
        (repeat (first | refine TS.imp ?_ | refine n9 (by decide) ?_))
        refine TR.imp ?_; intro K hK; simp only [go_sem, hP, hn]; (repeat refine vc ?_); refine hK _ ?_; clear K hK
        (repeat (first | refine TS.imp ?_ | refine n9 (by decide) ?_))
        refine TR.imp ?_; intro K hK; simp only [go_sem, hP, hn]; (repeat refine vc ?_); refine hK _ ?_; clear K hK
        (repeat (first | (refine TR.imp ?_; intro K hK; simp only [go_sem, hP, hn]; (repeat refine vc ?_); refine hK _ ?_; clear K hK) | refine TS.imp ?_ | refine n9 (by decide) ?_))
        rw [hi1]
        refine ⟨m - 1, _, by omega, ?_, i - 1, .own 66, [(66, .row 27 e0N ([] ++ [(turnN ns.length q).ds]))], rfl, by omega, by omega, .inr ⟨by omega, rfl, by rw [hdr, List.reverse_cons, List.map_append]; rw [List.drop_eq_nil_of_le (by omega)]; rfl⟩⟩
        exact (Le.mv (by simp only [go_sem, hP, hn]; first | done | (simp; done) | (simp [intC]; done) | (repeat (first | rfl | constructor))) (by simp only [go_sem, hP, hn]; first | done | (simp; done) | (simp [intC]; done) | (repeat (first | rfl | constructor))))
    · exact absurd (of_decide_eq_false hb) (by omega)
  · (repeat (first | (refine TR.imp ?_; intro K hK; simp only [go_sem, hP, hn]; (repeat refine vc ?_); refine hK _ ?_; clear K hK) | refine TS.imp ?_ | refine n9 (by decide) ?_))
    refine Tr.cond rfl (fun hb => ?_) (fun hb => ?_)
    · have h1 : 1 ≤ i := by simpa using hb
      have hi1 : wrap64 (i - 1) = i - 1 := w64 (by omega) (by omega)
      have hnd := rw_nd ns (i - 1) (by omega) (by omega)
      have hq := hin _ (nd_mem (ns := ns) (i := i - 1) (by omega) (by omega))
      replace hdr := hdr h1
      (repeat (first | refine TS.imp ?_ | refine n9 (by decide) ?_))
      refine TR.imp ?_; intro K hK; simp only [hi1, hnd, go_sem, hP, hn]
      (repeat refine vc ?_)
      generalize nd ns (i - 1) = q at hq hdr ⊢
      refine hK _ ?_; clear K hK
      (repeat (first | (refine TR.imp ?_; intro K hK; simp only [go_sem, hP, hn]; (repeat refine vc ?_); refine hK _ ?_; clear K hK) | refine TS.imp ?_ | refine n9 (by decide) ?_))
      refine Tr.le (Le.keep [1, 2, 3, 4, 5, 6, 7, 8]) ?_; simp only [List.map_cons, List.map_nil, lk, Nat.reduceEqDiff, reduceIte]
      refine Tr.loop (fun m2 s => ∃ (j : Int) (l : List Int), s = ⟨[(1, .ptr 1 0), (2, .ptr 2 0), (3, .d (.i .i64 ns.length)), (4, .ptr 4 0), (5, .d (.i .i64 i)), (6, .ptr 6 0), (7, .own 38), (8, .d (.i .i64 j))], [(38, .row 3 [.i .i64 0] (l.map intC)), (6, .box 27 q.cs), (4, .box 47 (gcs wd lo hi (ns.length + 1 - out) (.own 66))), (2, .box 47 (gcs 0 0 0 0 (.d .nil))), (1, .box 47 (gcs wd lo hi out (.d (rowN ns)))), (66, .row 27 e0N (((ns.drop i.toNat).map (turnN ns.length)).reverse.map Nd.ds))]⟩ ∧ 0 ≤ j ∧ j + m2 = q.inn.length ∧ l.length = q.inn.length ∧ l.take j.toNat = (q.inn.take j.toNat).map (fun x => if 0 < x then (ns.length : Int) + 1 - x else x) ∧ l.drop j.toNat = q.inn.drop j.toNat) q.inn.length ⟨_, (Le.mv (by simp only [go_sem, hP, hn]; first | done | (simp; done) | (simp [intC]; done) | (repeat (first | rfl | constructor))) (by simp only [go_sem, hP, hn]; first | done | (simp; done) | (simp [intC]; done) | (repeat (first | rfl | constructor)))), 0, q.inn, rfl, by omega, by omega, rfl, by simp, by simp⟩ ?_
      rintro m2 s ⟨j, l, rfl, hj0, hj1, hl, hta, hdo⟩
      (repeat (first | (refine TR.imp ?_; intro K hK; simp only [go_sem, hP, hn]; (repeat refine vc ?_); refine hK _ ?_; clear K hK) | refine TS.imp ?_ | refine n9 (by decide) ?_))
      refine Tr.cond rfl (fun hc => ?_) (fun hc => ?_)
      · have hjl : j < l.length := by simpa using hc
        have hrd : rd l j = rd q.inn j := by
          have e1 := drop_rd hj0 hjl
          have e2 := drop_rd (l := q.inn) hj0 (by omega)
          rw [hdo, e2] at e1
          exact (List.cons.inj e1).1.symm
        have hd1 : l.drop (j + 1).toNat = q.inn.drop (j + 1).toNat := by
          have e1 := drop_rd hj0 hjl
          have e2 := drop_rd (l := q.inn) hj0 (by omega)
          rw [hdo, e2] at e1
          exact (List.cons.inj e1).2.symm
        have hbd := hq.2 _ (rd_mem (l := q.inn) hj0 (by omega))
        (repeat (first | (refine TR.imp ?_; intro K hK; simp only [go_sem, hP, hn]; (repeat refine vc ?_); refine hK _ ?_; clear K hK) | refine TS.imp ?_ | refine n9 (by decide) ?_))
        refine Tr.cond rfl (fun hg => ?_) (fun hg => ?_)
        · have hg1 : 0 < rd l j := by simpa using hg
          (repeat (first | refine TS.imp ?_ | refine n9 (by decide) ?_))
          refine TR.imp ?_; intro K hK; simp only [go_sem, hP, hn]; (repeat refine vc ?_); refine hK _ ?_; clear K hK
          (repeat (first | (refine TR.imp ?_; intro K hK; simp only [go_sem, hP, hn]; (repeat refine vc ?_); refine hK _ ?_; clear K hK) | refine TS.imp ?_ | refine n9 (by decide) ?_))
          rw [w64 (x := j + 1) (by omega) (by omega), w64 (x := (ns.length : Int) + 1) (by omega) (by omega), w64 (x := (ns.length : Int) + 1 - rd l j) (by omega) (by omega)]
          refine ⟨m2 - 1, _, by omega, ?_, j + 1, l.set j.toNat ((ns.length : Int) + 1 - rd l j), rfl, by omega, by omega, by simpa using hl, ?_, ?_⟩
          · exact (Le.mv (by simp only [go_sem, hP, hn]; first | done | (simp; done) | (simp [intC]; done) | (repeat (first | rfl | constructor))) (by simp only [go_sem, hP, hn]; first | done | (simp; done) | (simp [intC]; done) | (repeat (first | rfl | constructor))))
          · rw [take_set hj0 hjl, take_rd hj0 (show j < q.inn.length by omega), hta, List.map_append, List.map_cons, List.map_nil, hrd, if_pos (by omega)]
          · rw [List.drop_set_of_lt (by omega), hd1]
        · have hg1 : ¬ 0 < rd l j := by simpa using hg
          (repeat (first | (refine TR.imp ?_; intro K hK; simp only [go_sem, hP, hn]; (repeat refine vc ?_); refine hK _ ?_; clear K hK) | refine TS.imp ?_ | refine n9 (by decide) ?_))
          rw [w64 (x := j + 1) (by omega) (by omega)]
          refine ⟨m2 - 1, _, by omega, ?_, j + 1, l, rfl, by omega, by omega, hl, ?_, hd1⟩
          · exact (Le.mv (by simp only [go_sem, hP, hn]; first | done | (simp; done) | (simp [intC]; done) | (repeat (first | rfl | constructor))) (by simp only [go_sem, hP, hn]; first | done | (simp; done) | (simp [intC]; done) | (repeat (first | rfl | constructor))))
          · rw [take_rd hj0 hjl, take_rd hj0 (show j < q.inn.length by omega), hta, List.map_append, List.map_cons, List.map_nil, hrd, if_neg (by omega)]
      · have hj : j = q.inn.length := by have := of_decide_eq_false hc; omega
        obtain rfl : l = q.inn.map (fun x => if 0 < x then (ns.length : Int) + 1 - x else x) := by
          rw [List.take_of_length_le (by omega), List.take_of_length_le (by omega)] at hta
          exact hta
        refine Tr.le (Le.freeze 38) ?_
        simp only [go_sem, hP, hn]
        (repeat (first | refine TS.imp ?_ | refine n9 (by decide) ?_))
        refine TR.imp ?_; intro K hK; simp only [go_sem, hP, hn]; (repeat refine vc ?_); refine hK _ ?_; clear K hK
        (repeat (first | refine TS.imp ?_ | refine n9 (by decide) ?_))
        refine TR.imp ?_; intro K hK; simp only [go_sem, hP, hn]; (repeat refine vc ?_); refine hK _ ?_; clear K hK
        (repeat (first | (refine TR.imp ?_; intro K hK; simp only [go_sem, hP, hn]; (repeat refine vc ?_); refine hK _ ?_; clear K hK) | refine TS.imp ?_ | refine n9 (by decide) ?_))
        rw [hi1]
        refine ⟨m - 1, _, by omega, ?_, i - 1, .own 66, [(66, .row 27 e0N ((((ns.drop i.toNat).map (turnN ns.length)).reverse.map Nd.ds) ++ [(turnN ns.length q).ds]))], rfl, by omega, by omega, .inr ⟨by omega, rfl, by rw [hdr, List.reverse_cons, List.map_append]; rfl⟩⟩
        exact (Le.mv (by simp only [go_sem, hP, hn]; first | done | (simp; done) | (simp [intC]; done) | (repeat (first | rfl | constructor))) (by simp only [go_sem, hP, hn]; first | done | (simp; done) | (simp [intC]; done) | (repeat (first | rfl | constructor))))
    · have h0 : i = 0 := by {have := of_decide_eq_false hb; omega}
      subst h0
      refine Tr.le (Le.ren 66 2000 (by rw [hpn]; rfl) rfl rfl) ?_
      simp only [renT, renH, renO, renS, renL, rn, go_sem, hP, hn]
      (repeat (first | (refine TR.imp ?_; intro K hK; simp only [go_sem, hP, hn]; (repeat refine vc ?_); refine hK _ ?_; clear K hK) | refine TS.imp ?_ | refine n9 (by decide) ?_))

      simp only [RetG, go_sem]; (repeat with_reducible refine vc ?_)
      decide
end
/-- what ref15.Made makes -/
structure GM (wd lo hi out : Int) (ns : List Nd) : Prop where
  wd0 : 1 ≤ wd ∧ wd ≤ 3
  lo0 : -199 ≤ lo ∧ lo ≤ 0
  hi0 : 0 ≤ hi ∧ hi ≤ 199
  n0 : 1 ≤ ns.length ∧ ns.length ≤ 6
  out0 : 1 ≤ out ∧ out ≤ ns.length
  made : ∃ ns0 W R, MadeL wd ns0 W R ∧ (ns = ns0 ∨ ns = (ns0.map (turnN ns0.length)).reverse)
def PMade (r : S) (H : Hp) : Prop := ∃ wd lo hi out ns, r = .agg (gcs wd lo hi out (.own 2000)) ∧ H = [(2000, .row 27 e0N (ns.map Nd.ds))] ∧ GM wd lo hi out ns
theorem Made15_c {T : World → Prop} (Tm : TP T) (l0 : List Int) : Cg Go.Proofs.Tryd.prog T 53 [] [.d (.row [.i .i64 0] (l0.map intC))] PMade := by
  refine Cg_of [2000] Tm Go.Proofs.Tryd.func53 rfl rfl Go.Proofs.Tryd.ntmps53 (by simp) rfl (rs := [.cell 2 47]) rfl fun E hP hn hT hpn => ?_
  (repeat (first | (refine TR.imp ?_; intro K hK; simp only [go_sem, hP, hn]; (repeat refine vc ?_); refine hK _ ?_; clear K hK) | refine TS.imp ?_ | refine n9 (by decide) ?_))
  refine Tr.meet (fun s => ∃ l : List Int, s = ⟨[(0, .d (.row [.i .i64 0] (l.map intC))), (2, .ptr 2 0)], [(2, .box 47 (gcs 0 0 0 0 (.d .nil)))]⟩ ∧ l.length ≤ 240) ?_ ?_
  rotate_left
  · refine Tr.cond rfl (fun h1 => ?_) (fun h1 => ?_)
    · have h2 : 240 < l0.length := by
        have : (240 : Int) < l0.length := by simpa using h1
        omega
      (repeat (first | (refine TR.imp ?_; intro K hK; simp only [go_sem, hP, hn]; (repeat refine vc ?_); refine hK _ ?_; clear K hK) | refine TS.imp ?_ | refine n9 (by decide) ?_))
      exact ⟨_, (Le.mv (by simp only [go_sem, hP, hn]; first | done | (simp; done) | (simp [intC]; done) | (repeat (first | rfl | constructor))) (by simp only [go_sem, hP, hn]; first | done | (simp; done) | (simp [intC]; done) | (repeat (first | rfl | constructor)))), l0.take 240, rfl, by simp; omega⟩
    · have h2 : l0.length ≤ 240 := by
        have : (l0.length : Int) ≤ 240 := by simpa using h1
        omega
      (repeat (first | (refine TR.imp ?_; intro K hK; simp only [go_sem, hP, hn]; (repeat refine vc ?_); refine hK _ ?_; clear K hK) | refine TS.imp ?_ | refine n9 (by decide) ?_))
      exact ⟨_, (Le.mv (by simp only [go_sem, hP, hn]; first | done | (simp; done) | (simp [intC]; done) | (repeat (first | rfl | constructor))) (by simp only [go_sem, hP, hn]; first | done | (simp; done) | (simp [intC]; done) | (repeat (first | rfl | constructor)))), l0, rfl, h2⟩
  rintro s ⟨l, rfl, hl⟩
  (repeat (first | (refine TR.imp ?_; intro K hK; simp only [go_sem, hP, hn]; (repeat refine vc ?_); refine hK _ ?_; clear K hK) | refine TS.imp ?_ | refine n9 (by decide) ?_))
  refine Tr.le (Le.keep [2, 3]) ?_; simp only [List.map_cons, List.map_nil, lk, Nat.reduceEqDiff, reduceIte]
  refine Tr.le (Le.ren 22 1000 (by rw [hpn] <;> rfl) rfl rfl) ?_; simp only [renT, renH, renO, renS, renL, rn, go_sem, hP, hn]
  have h00 : (0 : Int) ≤ 0 := by decide
  have h01 : (0 : Int) ≤ l.length := by omega
  refine TR.imp ?_; intro K hK; simp only [go_sem, hP, hn]
  (repeat refine vc ?_)
  refine CallN_c1 (by rw [hP, hT]; exact Next_c Tm l 0 3 (by omega) h00 h01 (by decide) (by decide) ) rfl rfl rfl trivial (by simp only [go_sem, hP, hn]; try trivial) (by simp only [go_sem, hP, hn]; try rfl) (by simp only [go_sem, hP, hn]; try rfl) (by rw [hn]; decide) (fun r ob' hr => ?_); obtain  ⟨v0, j1, rfl, rfl, v00, v01, j10, j11⟩ := hr; simp only [go_sem, hP, hn]; (repeat refine vc ?_)
  rw [w64 (x := 1 + v0) (by omega) (by omega)]
  refine hK _ ?_; clear K hK
  (repeat (first | refine TS.imp ?_ | refine n9 (by decide) ?_))
  refine TR.imp ?_; intro K hK; simp only [go_sem, hP, hn]
  (repeat refine vc ?_)
  refine CallN_c1 (by rw [hP, hT]; exact Next_c Tm l j1 200 (by omega) j10 j11 (by decide) (by decide) ) rfl rfl rfl trivial (by simp only [go_sem, hP, hn]; try trivial) (by simp only [go_sem, hP, hn]; try rfl) (by simp only [go_sem, hP, hn]; try rfl) (by rw [hn]; decide) (fun r ob' hr => ?_); obtain  ⟨v1, j2, rfl, rfl, v10, v11, j20, j21⟩ := hr; simp only [go_sem, hP, hn]; (repeat refine vc ?_)
  rw [w64 (x := 0 - v1) (by omega) (by omega)]
  refine hK _ ?_; clear K hK
  (repeat (first | refine TS.imp ?_ | refine n9 (by decide) ?_))
  refine TR.imp ?_; intro K hK; simp only [go_sem, hP, hn]
  (repeat refine vc ?_)
  refine CallN_c1 (by rw [hP, hT]; exact Next_c Tm l j2 200 (by omega) j20 j21 (by decide) (by decide) ) rfl rfl rfl trivial (by simp only [go_sem, hP, hn]; try trivial) (by simp only [go_sem, hP, hn]; try rfl) (by simp only [go_sem, hP, hn]; try rfl) (by rw [hn]; decide) (fun r ob' hr => ?_); obtain  ⟨v2, j3, rfl, rfl, v20, v21, j30, j31⟩ := hr; simp only [go_sem, hP, hn]; (repeat refine vc ?_)
  refine hK _ ?_; clear K hK
  (repeat (first | refine TS.imp ?_ | refine n9 (by decide) ?_))
  refine TR.imp ?_; intro K hK; simp only [go_sem, hP, hn]
  (repeat refine vc ?_)
  refine CallN_c1 (by rw [hP, hT]; exact Next_c Tm l j3 2 (by omega) j30 j31 (by decide) (by decide) ) rfl rfl rfl trivial (by simp only [go_sem, hP, hn]; try trivial) (by simp only [go_sem, hP, hn]; try rfl) (by simp only [go_sem, hP, hn]; try rfl) (by rw [hn]; decide) (fun r ob' hr => ?_); obtain  ⟨v3, j4, rfl, rfl, v30, v31, j40, j41⟩ := hr; simp only [go_sem, hP, hn]; (repeat refine vc ?_)
  refine hK _ ?_; clear K hK
  (repeat (first | refine TS.imp ?_ | refine n9 (by decide) ?_))
  refine TR.imp ?_; intro K hK; simp only [go_sem, hP, hn]
  (repeat refine vc ?_)
  refine CallN_c1 (by rw [hP, hT]; exact Next_c Tm l j4 6 (by omega) j40 j41 (by decide) (by decide) ) rfl rfl rfl trivial (by simp only [go_sem, hP, hn]; try trivial) (by simp only [go_sem, hP, hn]; try rfl) (by simp only [go_sem, hP, hn]; try rfl) (by rw [hn]; decide) (fun r ob' hr => ?_); obtain  ⟨v4, j5, rfl, rfl, v40, v41, j50, j51⟩ := hr; simp only [go_sem, hP, hn]; (repeat refine vc ?_)
  rw [w64 (x := 1 + v4) (by omega) (by omega)]
  refine hK _ ?_; clear K hK
  (repeat (first | refine TS.imp ?_ | refine n9 (by decide) ?_))
  (repeat (first | (refine TR.imp ?_; intro K hK; simp only [go_sem, hP, hn]; (repeat refine vc ?_); refine hK _ ?_; clear K hK) | refine TS.imp ?_ | refine n9 (by decide) ?_))
  have hwd : 1 ≤ 1 + v0 ∧ 1 + v0 ≤ 3 := by omega
  have hlo : -199 ≤ 0 - v1 ∧ 0 - v1 ≤ 0 := by omega
  have hmany : 1 ≤ 1 + v4 ∧ 1 + v4 ≤ 6 := by omega
  generalize 1 + v0 = wd at hwd ⊢
  generalize 0 - v1 = lo at hlo ⊢
  generalize 1 + v4 = many at hmany ⊢
  generalize (v3 == 1) = back
  clear v00 v01 v10 v11 v30 v31 v40 v41 h00 h01 j10 j11 j20 j21 j30 j31 j40 j41
  refine Tr.le (Le.keep [2, 3, 4, 5, 6, 7, 8, 9]) ?_; simp only [List.map_cons, List.map_nil, lk, Nat.reduceEqDiff, reduceIte]
  refine Tr.le (Le.ren 42 3001 (by rw [hpn] <;> rfl) rfl rfl) ?_; simp only [renT, renH, renO, renS, renL, rn, go_sem, hP, hn]
  refine Tr.le (Le.ren 43 3002 (by rw [hpn] <;> rfl) rfl rfl) ?_; simp only [renT, renH, renO, renS, renL, rn, go_sem, hP, hn]
  refine Tr.le (Le.nilown 3003 4 27 e0N (gcs wd lo v2 0 (.own 3003)) rfl (by simp [wo, gcs]) (by rw [hpn] <;> rfl) rfl rfl) ?_
  simp only [go_sem, hP, hn]
  refine Tr.loop (fun m s => ∃ (i j : Int) (ns : List Nd) (W R : List Int), s = ⟨[(2, .ptr 2 0), (3, .ptr 1000 0), (4, .ptr 4 0), (5, .d (.b back)), (6, .d (.i .i64 many)), (7, .own 3001), (8, .own 3002), (9, .d (.i .i64 i))], [(1000, rowO l j), (2, .box 47 (gcs 0 0 0 0 (.d .nil))), (4, .box 47 (gcs wd lo v2 0 (.own 3003))), (3001, .row 3 [.i .i64 0] (W.map intC)), (3002, .row 3 [.i .i64 0] (R.map intC)), (3003, .row 27 e0N (ns.map Nd.ds))]⟩ ∧ i = ns.length + 1 ∧ i + m = many + 1 ∧ MadeL wd ns W R ∧ 0 ≤ j ∧ j ≤ l.length) many.toNat ⟨_, (Le.mv (by simp only [go_sem, hP, hn]; first | done | (simp; done) | (simp [intC]; done) | (repeat (first | rfl | constructor))) (by simp only [go_sem, hP, hn]; first | done | (simp; done) | (simp [intC]; done) | (repeat (first | rfl | constructor)))), 1, j5, [], [wd], [1], rfl, by simp, by omega, .base, j50, j51⟩ ?_
  rintro m s ⟨i, j, ns, W, R, rfl, hi, him, hM, hj0, hj1⟩
  have hlen := hM.len
  have hWd := hM.wide ⟨hwd.1, by omega⟩
  (repeat (first | (refine TR.imp ?_; intro K hK; simp only [go_sem, hP, hn]; (repeat refine vc ?_); refine hK _ ?_; clear K hK) | refine TS.imp ?_ | refine n9 (by decide) ?_))
  refine Tr.cond rfl (fun hb => ?_) (fun hb => ?_)
  · have hib : i ≤ many := by simpa using hb
    have hiw : wrap64 (i - 1) = i - 1 := w64 (by omega) (by omega)
    (repeat (first | refine TS.imp ?_ | refine n9 (by decide) ?_))
    refine TR.imp ?_; intro K hK; simp only [hiw, go_sem, hP, hn]; (repeat refine vc ?_); refine hK _ ?_; clear K hK
    (repeat (first | refine TS.imp ?_ | refine n9 (by decide) ?_))
    refine TR.imp ?_; intro K hK; simp only [go_sem, hP, hn]
    (repeat refine vc ?_)
    refine CallN_c1 (by rw [hP, hT]; exact Next_c Tm l j 3 (by omega) hj0 hj1 (by decide) (by decide) ) rfl rfl rfl trivial (by simp only [go_sem, hP, hn]; try trivial) (by simp only [go_sem, hP, hn]; try rfl) (by simp only [go_sem, hP, hn]; try rfl) (by rw [hn]; decide) (fun r ob' hr => ?_); obtain  ⟨u, j', rfl, rfl, u0, u1, hj0', hj1'⟩ := hr; simp only [go_sem, hP, hn]; (repeat refine vc ?_)
    refine hK _ ?_; clear K hK
    (repeat (first | refine TS.imp ?_ | refine n9 (by decide) ?_))
    refine Tr.meet (fun s => ∃ (a j : Int), s = ⟨[(2, .ptr 2 0), (3, .ptr 1000 0), (4, .ptr 4 0), (5, .d (.b back)), (6, .d (.i .i64 many)), (7, .own 3001), (8, .own 3002), (9, .d (.i .i64 i)), (10, .d (.i .i64 a))], [(1000, rowO l j), (2, .box 47 (gcs 0 0 0 0 (.d .nil))), (4, .box 47 (gcs wd lo v2 0 (.own 3003))), (3001, .row 3 [.i .i64 0] (W.map intC)), (3002, .row 3 [.i .i64 0] (R.map intC)), (3003, .row 27 e0N (ns.map Nd.ds))]⟩ ∧ (0 ≤ a ∧ a < i) ∧ 0 ≤ j ∧ j ≤ l.length) ?_ ?_
    rotate_left
    · refine Tr.cond rfl (fun ha => ?_) (fun ha => ?_)
      · (repeat (first | refine TS.imp ?_ | refine n9 (by decide) ?_))
        refine TR.imp ?_; intro K hK; simp only [go_sem, hP, hn]
        (repeat refine vc ?_)
        refine CallN_c1 (by rw [hP, hT]; exact Next_c Tm l j' i (by omega) hj0' hj1' (by omega) (by omega) ) rfl rfl rfl trivial (by simp only [go_sem, hP, hn]; try trivial) (by simp only [go_sem, hP, hn]; try rfl) (by simp only [go_sem, hP, hn]; try rfl) (by rw [hn]; decide) (fun r ob' hr => ?_); obtain  ⟨a, j2, rfl, rfl, a0, a1, hj20, hj21⟩ := hr; simp only [go_sem, hP, hn]; (repeat refine vc ?_)
        refine hK _ ?_; clear K hK
        exact ⟨_, (Le.mv (by simp only [go_sem, hP, hn]; first | done | (simp; done) | (simp [intC]; done) | (repeat (first | rfl | constructor))) (by simp only [go_sem, hP, hn]; first | done | (simp; done) | (simp [intC]; done) | (repeat (first | rfl | constructor)))), a, j2, rfl, ⟨a0, a1⟩, hj20, hj21⟩
      · (repeat (first | (refine TR.imp ?_; intro K hK; simp only [go_sem, hP, hn]; (repeat refine vc ?_); refine hK _ ?_; clear K hK) | refine TS.imp ?_ | refine n9 (by decide) ?_))
        exact ⟨_, (Le.mv (by simp only [go_sem, hP, hn]; first | done | (simp; done) | (simp [intC]; done) | (repeat (first | rfl | constructor))) (by simp only [go_sem, hP, hn]; first | done | (simp; done) | (simp [intC]; done) | (repeat (first | rfl | constructor)))), i - 1, j', rfl, ⟨by omega, by omega⟩, hj0', hj1'⟩
    clear hj0 hj1 hj0' hj1' u0 u1
    rintro s ⟨a, j, rfl, ha, hj0, hj1⟩
    have haW : (0 ≤ a ∧ a < W.length) := by omega
    have haR : (0 ≤ a ∧ a < R.length) := by omega
    (repeat (first | (refine TR.imp ?_; intro K hK; simp only [go_sem, hP, hn]; (repeat refine vc ?_); refine hK _ ?_; clear K hK) | refine TS.imp ?_ | refine n9 (by decide) ?_))
    refine TR.imp ?_; intro K hK; simp only [go_sem, hP, hn]
    (repeat refine vc ?_)
    refine CallN_c1 (by rw [hP, hT]; exact Next_c Tm l j i (by omega) hj0 hj1 (by omega) (by omega) ) rfl rfl rfl trivial (by simp only [go_sem, hP, hn]; try trivial) (by simp only [go_sem, hP, hn]; try rfl) (by simp only [go_sem, hP, hn]; try rfl) (by rw [hn]; decide) (fun r ob' hr => ?_); obtain  ⟨b, j2, rfl, rfl, b0, b1, hj20, hj21⟩ := hr; simp only [go_sem, hP, hn]; (repeat refine vc ?_)
    refine hK _ ?_; clear K hK
    refine Tr.le (Le.keep [2, 3, 4, 5, 6, 7, 8, 9, 10, 11, 12, 13]) ?_; simp only [List.map_cons, List.map_nil, lk, Nat.reduceEqDiff, reduceIte]
    (repeat (first | refine TS.imp ?_ | refine n9 (by decide) ?_))
    (first | refine d1 (.p true 0 (.alt 1 (.p false 2 (.p false 3 (.p true 4 (.p true 5 (.p true 6 (.p true 7 (.p true 8 (.p true 9 (.p true 10 (.p true 11 (.p true 12 (.p false 13 .nil)))))))))))) .nil)) [1000] (by rw [hP]; kernel_rfl) (by kernel_rfl) (by simp only [go_sem, hP, hn]; try simp) (fun _ _ h => h) fun K hK => ?_ | refine d2 (.p true 0 (.alt 1 (.p false 2 (.p false 3 (.p true 4 (.p true 5 (.p true 6 (.p true 7 (.p true 8 (.p true 9 (.p true 10 (.p true 11 (.p true 12 (.p false 13 .nil)))))))))))) .nil)) [1000] (by rw [hP]; kernel_rfl) (by kernel_rfl) (by simp only [go_sem, hP, hn]; try simp) (fun _ _ h => h) fun K hK => ?_ | refine d4 (.p true 0 (.alt 1 (.p false 2 (.p false 3 (.p true 4 (.p true 5 (.p true 6 (.p true 7 (.p true 8 (.p true 9 (.p true 10 (.p true 11 (.p true 12 (.p false 13 .nil)))))))))))) .nil)) [1000] (by rw [hP]; kernel_rfl) (by kernel_rfl) (by simp only [go_sem, hP, hn]; try simp) (fun _ _ h => h) fun K hK => ?_); simp only [go_sem, hP, hn]
    (repeat refine vc ?_)
    refine CallP_c1 (by rw [hP, hT]; exact Next_c Tm l j2 3 (by omega) hj20 hj21 (by decide) (by decide) ) rfl rfl rfl trivial (by simp only [go_sem, hP, hn]; try trivial) (by simp only [go_sem, hP, hn]; try rfl) (by simp only [go_sem, hP, hn]; try rfl) (by rw [hn]; decide) rfl (fun r ob' hr => ?_); obtain  ⟨q, j3, rfl, rfl, q0, q1, hj30, hj31⟩ := hr; simp only [go_sem, hP, hn]; (repeat refine vc ?_)
    refine hK _ ?_; clear K hK
    refine Tr.meet (fun s => ∃ (inn ws : List Int) (j : Int), s = ⟨[(2, .ptr 2 0), (3, .ptr 1000 0), (4, .ptr 4 0), (5, .d (.b back)), (6, .d (.i .i64 many)), (7, .own 3001), (8, .own 3002), (9, .d (.i .i64 i)), (10, .d (.i .i64 a)), (11, .d (.row [.i .i64 0] (inn.map intC))), (12, .d (.row [.i .i64 0] (ws.map intC)))], [(1000, rowO l j), (2, .box 47 (gcs 0 0 0 0 (.d .nil))), (4, .box 47 (gcs wd lo v2 0 (.own 3003))), (3001, .row 3 [.i .i64 0] (W.map intC)), (3002, .row 3 [.i .i64 0] (R.map intC)), (3003, .row 27 e0N (ns.map Nd.ds))]⟩ ∧ ((inn = [a] ∧ ws = [rd W a]) ∨ ∃ b, inn = [a, b] ∧ ws = [rd W a, rd W b] ∧ (0 ≤ b ∧ b < W.length) ∧ rd R b = rd R a) ∧ 0 ≤ j ∧ j ≤ l.length) ?_ ?_
    rotate_left
    · refine Tr.cond rfl (fun hab => ?_) (fun hab => ?_)
      · (repeat (first | (refine TR.imp ?_; intro K hK; simp only [go_sem, hP, hn]; (repeat refine vc ?_); refine hK _ ?_; clear K hK) | refine TS.imp ?_ | refine n9 (by decide) ?_))
        refine ⟨_, ?_, [a, b], [rd W a, rd W b], j3, rfl, .inr ⟨b, rfl, rfl, by omega, ?_⟩, hj30, hj31⟩
        · exact (Le.freeze 84).trans ((Le.freeze 91).trans (Le.mv (by simp only [go_sem, hP, hn]; first | done | (simp; done) | (simp [intC]; done) | (repeat (first | rfl | constructor))) (by simp only [go_sem, hP, hn]; first | done | (simp; done) | (simp [intC]; done) | (repeat (first | rfl | constructor)))))
        · simp only [Bool.and_eq_true, beq_iff_eq] at hab; exact hab.2
      · (repeat (first | (refine TR.imp ?_; intro K hK; simp only [go_sem, hP, hn]; (repeat refine vc ?_); refine hK _ ?_; clear K hK) | refine TS.imp ?_ | refine n9 (by decide) ?_))
        refine ⟨_, ?_, [a], [rd W a], j3, rfl, .inl ⟨rfl, rfl⟩, hj30, hj31⟩
        exact (Le.freeze 58).trans ((Le.freeze 63).trans (Le.mv (by simp only [go_sem, hP, hn]; first | done | (simp; done) | (simp [intC]; done) | (repeat (first | rfl | constructor))) (by simp only [go_sem, hP, hn]; first | done | (simp; done) | (simp [intC]; done) | (repeat (first | rfl | constructor)))))
    clear q0 q1 hj30 hj31 hj20 hj21 b0 b1 hj0 hj1
    rintro s ⟨inn, ws, j, rfl, hio, hj0, hj1⟩
    have hws : ∀ x ∈ ws, 1 ≤ x ∧ x ≤ 16 := by
      rcases hio with ⟨_, rfl⟩ | ⟨b, _, rfl, hb, _⟩
      · intro x hx; simp at hx; subst hx; exact hWd _ (rd_mem haW.1 haW.2)
      · intro x hx; simp at hx; rcases hx with rfl | rfl
        · exact hWd _ (rd_mem haW.1 haW.2)
        · exact hWd _ (rd_mem hb.1 hb.2)
    have hio' : (∃ a w, inn = [a] ∧ ws = [w]) ∨ ∃ a b v w, inn = [a, b] ∧ ws = [v, w] := by
      rcases hio with ⟨rfl, rfl⟩ | ⟨b, rfl, rfl, _⟩
      · exact .inl ⟨_, _, rfl, rfl⟩
      · exact .inr ⟨_, _, _, _, rfl, rfl⟩
    (repeat (first | refine TS.imp ?_ | refine n9 (by decide) ?_))
    refine TR.imp ?_; intro K hK; simp only [go_sem, hP, hn]
    (repeat refine vc ?_)
    refine CallN_c1 (by rw [hP, hT]; exact Made_c Tm l j inn ws (rd R a == 0) (by omega) hj0 hj1 hio' hws ) rfl rfl rfl trivial (by simp only [go_sem, hP, hn]; try trivial) (by simp only [go_sem, hP, hn]; try rfl) (by simp only [go_sem, hP, hn]; try rfl) (by rw [hn]; decide) (fun r ob' hr => ?_); obtain  ⟨n, j', rfl, rfl, hN, hj0', hj1'⟩ := hr; simp only [go_sem, hP, hn]; (repeat refine vc ?_)
    refine hK _ ?_; clear K hK
    refine Tr.le (Le.keep [2, 3, 4, 5, 6, 7, 8, 9, 10, 12, 14]) ?_; simp only [List.map_cons, List.map_nil, lk, Nat.reduceEqDiff, reduceIte]
    (repeat (first | (refine TR.imp ?_; intro K hK; simp only [go_sem, hP, hn]; (repeat refine vc ?_); refine hK _ ?_; clear K hK) | refine TS.imp ?_ | refine n9 (by decide) ?_))
    have hnl : n.inn.length ≤ ws.length ∧ n.inn.length ≤ 2 := by
      rcases hio' with ⟨x, y, rfl, rfl⟩ | ⟨x, y, u, v, rfl, rfl⟩ <;> rcases hN.inn with e | e <;> rw [e] <;> simp
    have hwl := hN.wl
    have hbl := hN.bl
    refine Tr.le (Le.keep [2, 3, 4, 5, 6, 7, 8, 9, 10, 12, 14]) ?_; simp only [List.map_cons, List.map_nil, lk, Nat.reduceEqDiff, reduceIte]
    (first | refine d1 (.p true 0 (.p true 1 (.p true 2 (.p true 3 (.p true 4 (.p true 5 (.p true 6 (.alt 7 (.alt 8 (.alt 9 (.p false 10 .nil) .nil) .nil) .nil)))))))) [3001] (by rw [hP]; kernel_rfl) (by kernel_rfl) (by simp only [go_sem, hP, hn]; try simp) (fun _ _ h => h) fun K hK => ?_ | refine d2 (.p true 0 (.p true 1 (.p true 2 (.p true 3 (.p true 4 (.p true 5 (.p true 6 (.alt 7 (.alt 8 (.alt 9 (.p false 10 .nil) .nil) .nil) .nil)))))))) [3001] (by rw [hP]; kernel_rfl) (by kernel_rfl) (by simp only [go_sem, hP, hn]; try simp) (fun _ _ h => h) fun K hK => ?_ | refine d4 (.p true 0 (.p true 1 (.p true 2 (.p true 3 (.p true 4 (.p true 5 (.p true 6 (.alt 7 (.alt 8 (.alt 9 (.p false 10 .nil) .nil) .nil) .nil)))))))) [3001] (by rw [hP]; kernel_rfl) (by kernel_rfl) (by simp only [go_sem, hP, hn]; try simp) (fun _ _ h => h) fun K hK => ?_); simp only [go_sem, hP, hn]
    (repeat refine vc ?_)
    rw [← List.map_take]
    refine p1 (by rw [hP, hT]; exact Width_r Tm n (ws.take n.inn.length) (by omega) (by omega) (by rw [List.length_take]; omega) (by omega)) rfl rfl rfl trivial (by simp only [go_sem, hP, hn]; try trivial) (by simp only [go_sem, hP, hn]; try rfl) (by rw [hn]; decide) (by rfl) ?_; simp only [go_sem, hP, hn]; (repeat refine vc ?_)
    refine hK _ ?_; clear K hK
    refine Tr.le (Le.keep [2, 3, 4, 5, 6, 7, 8, 9, 10, 12, 14]) ?_; simp only [List.map_cons, List.map_nil, lk, Nat.reduceEqDiff, reduceIte]
    (first | refine d1 (.p true 0 (.p true 1 (.p true 2 (.p true 3 (.p true 4 (.alt 5 (.alt 6 (.alt 7 (.alt 8 (.alt 9 (.p false 10 .nil) .nil) .nil) .nil) .nil) .nil)))))) [3002] (by rw [hP]; kernel_rfl) (by kernel_rfl) (by simp only [go_sem, hP, hn]; try simp) (fun _ _ h => h) fun K hK => ?_ | refine d2 (.p true 0 (.p true 1 (.p true 2 (.p true 3 (.p true 4 (.alt 5 (.alt 6 (.alt 7 (.alt 8 (.alt 9 (.p false 10 .nil) .nil) .nil) .nil) .nil) .nil)))))) [3002] (by rw [hP]; kernel_rfl) (by kernel_rfl) (by simp only [go_sem, hP, hn]; try simp) (fun _ _ h => h) fun K hK => ?_ | refine d4 (.p true 0 (.p true 1 (.p true 2 (.p true 3 (.p true 4 (.alt 5 (.alt 6 (.alt 7 (.alt 8 (.alt 9 (.p false 10 .nil) .nil) .nil) .nil) .nil) .nil)))))) [3002] (by rw [hP]; kernel_rfl) (by kernel_rfl) (by simp only [go_sem, hP, hn]; try simp) (fun _ _ h => h) fun K hK => ?_); simp only [go_sem, hP, hn]
    (repeat refine vc ?_)
    rw [show [[D.i .i64 (rd R a)]] = [rd R a].map intC from rfl]
    refine p1 (by rw [hP, hT]; exact rate15_r Tm n [rd R a] (by simp) (by simp)) rfl rfl rfl trivial (by simp only [go_sem, hP, hn]; try trivial) (by simp only [go_sem, hP, hn]; try rfl) (by rw [hn]; decide) (by rfl) ?_; simp only [go_sem, hP, hn]; (repeat refine vc ?_)
    refine hK _ ?_; clear K hK
    (repeat (first | (refine TR.imp ?_; intro K hK; simp only [go_sem, hP, hn]; (repeat refine vc ?_); refine hK _ ?_; clear K hK) | refine TS.imp ?_ | refine n9 (by decide) ?_))
    rw [w64 (x := i + 1) (by omega) (by omega)]
    have hS := stepN_of hN haW (fun e => by simp [e]) hio
    refine ⟨m - 1, _, by omega, ?_, i + 1, j', ns ++ [n], W ++ [n.rwide (ws.take n.inn.length)], R ++ [n.rate [rd R a]], rfl, by simp; omega, by omega, hM.step hS, hj0', hj1'⟩
    refine Le.trans (b := ⟨[(2, .ptr 2 0), (3, .ptr 1000 0), (4, .ptr 4 0), (5, .d (.b back)), (6, .d (.i .i64 many)), (7, .own 116), (8, .own 126), (9, .d (.i .i64 (i + 1)))], [(1000, rowO l j'), (2, .box 47 (gcs 0 0 0 0 (.d .nil))), (4, .box 47 (gcs wd lo v2 0 (.own 105))), (116, .row 3 [.i .i64 0] ((W ++ [n.rwide (ws.take n.inn.length)]).map intC)), (126, .row 3 [.i .i64 0] ((R ++ [n.rate [rd R a]]).map intC)), (105, .row 27 e0N (ns.map Nd.ds ++ [n.ds]))]⟩) (Le.mv (by simp only [go_sem, hP, hn]; first | done | (simp; done) | (simp [intC]; done) | (repeat (first | rfl | constructor))) (by simp only [go_sem, hP, hn]; first | done | (simp; done) | (simp [intC]; done) | (repeat (first | rfl | constructor)))) ?_
    rw [show ns.map Nd.ds ++ [n.ds] = (ns ++ [n]).map Nd.ds by simp]
    refine Le.trans (Le.ren 116 3001 (by rw [hpn] <;> rfl) rfl rfl) ?_; simp only [renT, renH, renO, renS, renL, rn, go_sem, hP, hn]
    refine Le.trans (Le.ren 126 3002 (by rw [hpn] <;> rfl) rfl rfl) ?_; simp only [renT, renH, renO, renS, renL, rn, go_sem, hP, hn]
    refine Le.trans (Le.ren 105 3003 (by rw [hpn] <;> rfl) rfl rfl) ?_; simp only [renT, renH, renO, renS, renL, rn, go_sem, hP, hn]
    exact (Le.mv (by simp only [go_sem, hP, hn]; first | done | (simp; done) | (simp [intC]; done) | (repeat (first | rfl | constructor))) (by simp only [go_sem, hP, hn]; first | done | (simp; done) | (simp [intC]; done) | (repeat (first | rfl | constructor))))
  · have hmn : many = ns.length := by have := of_decide_eq_false hb; omega
    (repeat (first | (refine TR.imp ?_; intro K hK; simp only [go_sem, hP, hn]; (repeat refine vc ?_); refine hK _ ?_; clear K hK) | refine TS.imp ?_ | refine n9 (by decide) ?_))
    refine TR.imp ?_; intro K hK; simp only [go_sem, hP, hn]
    (repeat refine vc ?_)
    refine CallN_c1 (by rw [hP, hT]; exact Next_c Tm l j 5 (by omega) hj0 hj1 (by decide) (by decide) ) rfl rfl rfl trivial (by simp only [go_sem, hP, hn]; try trivial) (by simp only [go_sem, hP, hn]; try rfl) (by simp only [go_sem, hP, hn]; try rfl) (by rw [hn]; decide) (fun r ob' hr => ?_); obtain  ⟨u, j', rfl, rfl, u0, u1, hj0', hj1'⟩ := hr; simp only [go_sem, hP, hn]; (repeat refine vc ?_)
    refine hK _ ?_; clear K hK
    refine Tr.meet (fun s => ∃ (out : Int), s = ⟨[(2, .ptr 2 0), (4, .ptr 4 0), (5, .d (.b back))], [(2, .box 47 (gcs 0 0 0 0 (.d .nil))), (4, .box 47 (gcs wd lo v2 out (.own 3003))), (3003, .row 27 e0N (ns.map Nd.ds))]⟩ ∧ (1 ≤ out ∧ out ≤ ns.length)) ?_ ?_
    rotate_left
    · refine Tr.cond rfl (fun h5 => ?_) (fun h5 => ?_)
      · (repeat (first | refine TS.imp ?_ | refine n9 (by decide) ?_))
        refine TR.imp ?_; intro K hK; simp only [go_sem, hP, hn]
        (repeat refine vc ?_)
        refine CallN_c1 (by rw [hP, hT]; exact Next_c Tm l j' many (by omega) hj0' hj1' (by omega) (by omega) ) rfl rfl rfl trivial (by simp only [go_sem, hP, hn]; try trivial) (by simp only [go_sem, hP, hn]; try rfl) (by simp only [go_sem, hP, hn]; try rfl) (by rw [hn]; decide) (fun r ob' hr => ?_); obtain  ⟨o', j2, rfl, rfl, o0, o1, hj20, hj21⟩ := hr; simp only [go_sem, hP, hn]; (repeat refine vc ?_)
        rw [w64 (x := 1 + o') (by omega) (by omega)]
        refine hK _ ?_; clear K hK
        exact ⟨_, (Le.mv (by simp only [go_sem, hP, hn]; first | done | (simp; done) | (simp [intC]; done) | (repeat (first | rfl | constructor))) (by simp only [go_sem, hP, hn]; first | done | (simp; done) | (simp [intC]; done) | (repeat (first | rfl | constructor)))), 1 + o', rfl, by omega, by omega⟩
      · (repeat (first | (refine TR.imp ?_; intro K hK; simp only [go_sem, hP, hn]; (repeat refine vc ?_); refine hK _ ?_; clear K hK) | refine TS.imp ?_ | refine n9 (by decide) ?_))
        exact ⟨_, (Le.mv (by simp only [go_sem, hP, hn]; first | done | (simp; done) | (simp [intC]; done) | (repeat (first | rfl | constructor))) (by simp only [go_sem, hP, hn]; first | done | (simp; done) | (simp [intC]; done) | (repeat (first | rfl | constructor)))), many, rfl, by omega, by omega⟩
    rintro s ⟨out, rfl, hout⟩
    (repeat (first | (refine TR.imp ?_; intro K hK; simp only [go_sem, hP, hn]; (repeat refine vc ?_); refine hK _ ?_; clear K hK) | refine TS.imp ?_ | refine n9 (by decide) ?_))
    refine Tr.cond rfl (fun h6 => ?_) (fun h6 => ?_)
    · refine Tr.le (Le.freeze 3003) ?_
      simp only [go_sem, hP, hn]
      (repeat (first | refine TS.imp ?_ | refine n9 (by decide) ?_))
      refine TR.imp ?_; intro K hK; simp only [go_sem, hP, hn]
      (repeat refine vc ?_)
      refine CallN_cx (Hi := []) (by rw [hP, hT]; exact turned_c Tm wd lo v2 out ns (by omega) (by omega) (by omega) (fun n hn => ⟨by have := (hM.inn n hn).1; omega, (hM.inn n hn).2⟩) ) rfl rfl rfl trivial (by simp only [go_sem, hP, hn]; try trivial) (by simp only [go_sem, hP, hn]; try rfl) trivial (by rw [hn]; decide) (fun r Ho hr => ?_); obtain  ⟨rfl, rfl⟩ := hr; refine ⟨fun k _ => hpn k rfl, ?_⟩; simp only [cgS, newK, touK, go_sem, hP, hn]; (repeat refine vc ?_)
      refine hK _ ?_; clear K hK
      (repeat (first | refine TS.imp ?_ | refine n9 (by decide) ?_))
      simp only [RetG, go_sem]; (repeat with_reducible refine vc ?_)
      exact ⟨wd, lo, v2, _, _, rfl, rfl, hwd, hlo, ⟨v20, by omega⟩, by simp; omega, by simp; omega, ns, W, R, hM, .inr rfl⟩
    · refine Tr.le (Le.ren 3003 2000 (by rw [hpn] <;> rfl) rfl rfl) ?_; simp only [renT, renH, renO, renS, renL, rn, go_sem, hP, hn]
      (repeat (first | (refine TR.imp ?_; intro K hK; simp only [go_sem, hP, hn]; (repeat refine vc ?_); refine hK _ ?_; clear K hK) | refine TS.imp ?_ | refine n9 (by decide) ?_))
      simp only [RetG, go_sem]; (repeat with_reducible refine vc ?_)
      exact ⟨wd, lo, v2, out, ns, rfl, rfl, hwd, hlo, ⟨v20, by omega⟩, by omega, hout, ns, W, R, hM, .inl rfl⟩
section
def nB (j : Int) : Nd := ⟨11, [j], 0, 0, 0, 0, 0, 0, [], [], 0, 0, 0, 0, 0⟩
attribute [local go_sem] nB
end
end Go.Proofs.YtgijboakaodcgaaDoor.Aw
namespace Go.Proofs.YtgijboakaodcgaaDoor.Aw
open Go.RowKit
/-! the plain law of graphs that ref15.Made makes -/
theorem turnN_len (N : Int) (n : Nd) : (turnN N n).inn.length = n.inn.length := by simp [turnN]
theorem MadeL.wsl {wd : Int} {ns : List Nd} {W R : List Int} (h : MadeL wd ns W R) : ∀ n ∈ ns, n.ws.length ≤ 4096 ∧ n.bs.length ≤ 4096 := by
  induction h with
  | base => intro n hn; simp at hn
  | step hM hs ih =>
    intro n hn
    rcases List.mem_append.1 hn with hn | hn
    · exact ih n hn
    · simp at hn; subst hn; exact ⟨hs.wl, hs.bl⟩
theorem GM.inn {wd lo hi out : Int} {ns : List Nd} (h : GM wd lo hi out ns) : ∀ n ∈ ns, (n.inn.length ≤ 2 ∧ ∀ j ∈ n.inn, 0 ≤ j ∧ j ≤ ns.length) ∧ n.ws.length ≤ 4096 ∧ n.bs.length ≤ 4096 := by
  obtain ⟨ns0, W, R, hM, e⟩ := h.made
  rcases e with rfl | rfl
  · exact fun n hn => ⟨hM.inn n hn, hM.wsl n hn⟩
  · intro n hn
    simp only [List.mem_reverse, List.mem_map] at hn
    obtain ⟨n0, h0, rfl⟩ := hn
    have h1 := hM.inn n0 h0
    have h2 := hM.wsl n0 h0
    refine ⟨⟨by rw [turnN_len]; exact h1.1, fun j hj => ?_⟩, h2⟩
    simp only [turnN, List.mem_map] at hj
    obtain ⟨x, hx, rfl⟩ := hj
    have := h1.2 x hx
    simp only [List.length_reverse, List.length_map]
    split <;> omega
theorem nodup_len : ∀ (N : Nat) (l : List Int), l.Nodup → (∀ x ∈ l, 1 ≤ x ∧ x ≤ N) → l.length ≤ N
  | 0, l, _, h => by
    cases l with
    | nil => simp
    | cons x r => have := h x (by simp); omega
  | N + 1, l, hn, h => by
    by_cases hm : ((N : Int) + 1) ∈ l
    · have h1 := nodup_len N (l.erase ((N : Int) + 1)) (hn.erase _) (fun x hx => by
        have h2 := (hn.mem_erase_iff).1 hx
        have := h x h2.2
        omega)
      rw [List.length_erase_of_mem hm] at h1
      omega
    · have := nodup_len N l hn fun x hx => by
        have h2 := h x hx
        have : x ≠ (N : Int) + 1 := fun e => hm (e ▸ hx)
        omega
      omega
theorem all_len : ∀ (N : Nat) (l : List Int), (∀ x : Int, 1 ≤ x → x ≤ N → x ∈ l) → N ≤ l.length
  | 0, _, _ => Nat.zero_le _
  | N + 1, l, h => by
    have hm : ((N : Int) + 1) ∈ l := h _ (by omega) (by omega)
    have h1 := all_len N (l.erase ((N : Int) + 1)) fun x h0 h1 => (List.mem_erase_of_ne (by omega)).2 (h x h0 (by omega))
    rw [List.length_erase_of_mem hm] at h1
    have := List.length_pos_of_mem hm
    omega
theorem ordR_inv {ns : List Nd} (P : List Int → Prop) (step : ∀ (o : List Int) (i : Int), P o → 1 ≤ i → i ≤ ns.length → mayO ns o i = true → (∀ x : Int, 1 ≤ x → x ≤ ns.length → mayO ns o x = true → i ≤ x) → P (o ++ [i])) : ∀ (k : Nat) (o : List Int), P o → P (ordR ns k o)
  | 0, o, h => h
  | k + 1, o, h => by
    unfold ordR
    split
    · exact ordR_inv P step k o h
    · rename_i i hi
      have h1 := nextO_range hi
      exact ordR_inv P step k _ (step o i h (by omega) (by omega) h1.2.2 fun x h2 h3 h4 => by
        have key : ∀ (m : Nat) (l : Int), nextO ns o m l = some i → l ≤ x → i ≤ x := by
          intro m
          induction m with
          | zero => intro l e _; cases e
          | succ m ih =>
            intro l e hl
            unfold nextO at e
            split at e
            · cases e; exact hl
            · rename_i hn
              refine ih (l + 1) e ?_
              rcases Int.lt_or_le l x with h5 | h5
              · omega
              · obtain rfl : l = x := by omega
                exact absurd h4 hn
        exact key _ _ hi h2)
theorem mayO_iff {ns : List Nd} {o : List Int} {i : Int} : mayO ns o i = true ↔ i ∉ o ∧ ∀ j ∈ (nd ns (i - 1)).inn, j = 0 ∨ j ∈ o := by
  unfold mayO
  simp only [Bool.and_eq_true, Bool.not_eq_true', List.all_eq_true, Bool.or_eq_true, beq_iff_eq, List.contains_iff_mem]
  constructor
  · exact fun ⟨h1, h2⟩ => ⟨by simpa using h1, h2⟩
  · exact fun ⟨h1, h2⟩ => ⟨by simpa using h1, h2⟩
theorem order_nodup (ns : List Nd) : (order ns).Nodup := ordR_inv (fun o => o.Nodup) (fun o i h _ _ hm _ => by
  rw [List.nodup_append]
  refine ⟨h, by simp, fun a ha b hb => ?_⟩
  simp at hb; subst hb
  exact fun e => (mayO_iff.1 hm).1 (e ▸ ha)) ns.length [] (by simp)
/-- a ring of nodes -/
def ring (N kk : Int) : Nat → List Nd
  | 0 => []
  | t + 1 => ring N kk t ++ [nB (if (t : Int) = kk - 1 then N + 1 else N + 1 + t + 1)]
/-! graphs that ref15.Made makes are right: their order is whole, and what is told goes along it -/
structure NodeG (N : Int) (n : Nd) (W R : Int → Int) (rk : Int → Nat) (i : Int) : Prop where
  l1 : 1 ≤ n.inn.length
  l2 : n.inn.length ≤ 2
  inn : ∀ j ∈ n.inn, 0 ≤ j ∧ j ≤ N ∧ rk j < rk i
  chk : n.rchk (n.inn.map W) = 0
  wd : W i = n.rwide (n.inn.map W)
  rt : R i = n.rate (n.inn.map R)
  same : ∀ j ∈ n.inn, ∀ j' ∈ n.inn, R j = R j'
  still : ∀ j ∈ n.inn, R j = 0 → rWin n.k = false ∧ n.k ≠ 5
  wl : n.ws.length ≤ 4096
  bl : n.bs.length ≤ 4096
  st0 : 1 ≤ n.rStp
  st1 : n.rStp ≤ 3
  sp0 : 1 ≤ n.rSpan
  sp1 : n.rSpan ≤ 10
  post : n.post = 0
structure GG (wd : Int) (ns : List Nd) (W R : Int → Int) (rk : Int → Nat) : Prop where
  W0 : W 0 = wd
  R0 : R 0 = 1
  k0 : rk 0 = 0
  node : ∀ i : Int, 1 ≤ i → i ≤ ns.length → NodeG ns.length (nd ns (i - 1)) W R rk i ∧ rk i ≤ ns.length
theorem NodeG.congr {N N' : Int} {n : Nd} {W R W' R' : Int → Int} {rk : Int → Nat} {i : Int} (h : NodeG N n W R rk i) (hN : N ≤ N') (hi : W' i = W i ∧ R' i = R i) (hj : ∀ j ∈ n.inn, W' j = W j ∧ R' j = R j) : NodeG N' n W' R' rk i := by
  have e1 : n.inn.map W' = n.inn.map W := List.map_congr_left fun j h => (hj j h).1
  have e2 : n.inn.map R' = n.inn.map R := List.map_congr_left fun j h => (hj j h).2
  exact ⟨h.l1, h.l2, fun j hm => by have := h.inn j hm; omega, by rw [e1]; exact h.chk, by rw [e1, hi.1]; exact h.wd, by rw [e2, hi.2]; exact h.rt,
    fun j hm j' hm' => by rw [(hj j hm).2, (hj j' hm').2]; exact h.same j hm j' hm', fun j hm => by rw [(hj j hm).2]; exact h.still j hm, h.wl, h.bl, h.st0, h.st1, h.sp0, h.sp1, h.post⟩
theorem rd_app {l : List Int} {x j : Int} (h0 : 0 ≤ j) (h1 : j < l.length) : rd (l ++ [x]) j = rd l j := by
  unfold rd
  rw [List.getD_eq_getElem?_getD, List.getD_eq_getElem?_getD, List.getElem?_append_left (by omega)]
theorem rd_last (l : List Int) (x : Int) : rd (l ++ [x]) l.length = x := by
  unfold rd
  simp [List.getD_eq_getElem?_getD]
theorem nd_app {l : List Nd} {x : Nd} {j : Int} (h1 : j.toNat < l.length) : nd (l ++ [x]) j = nd l j := by
  unfold nd
  rw [List.getD_eq_getElem?_getD, List.getD_eq_getElem?_getD, List.getElem?_append_left h1]
theorem nd_last (l : List Nd) (x : Nd) : nd (l ++ [x]) l.length = x := by
  unfold nd
  simp [List.getD_eq_getElem?_getD]
theorem MadeL.gg {wd : Int} {ns : List Nd} {W R : List Int} (h : MadeL wd ns W R) : GG wd ns (rd W) (rd R) Int.toNat := by
  induction h with
  | base => exact ⟨rfl, rfl, rfl, fun i h0 h1 => by simp at h1; omega⟩
  | @step ns W R n w r hM hs ih =>
    have hl := hM.len
    refine ⟨by rw [rd_app (by omega) (by omega)]; exact ih.W0, by rw [rd_app (by omega) (by omega)]; exact ih.R0, rfl, fun i h0 h1 => ?_⟩
    rw [List.length_append, List.length_singleton] at h1 ⊢
    refine ⟨?_, by omega⟩
    rcases Int.lt_or_le (ns.length : Int) i with hlt | hle
    · obtain rfl : i = ns.length + 1 := by omega
      rw [show ((ns.length : Int) + 1 - 1) = ns.length by omega, nd_last]
      have hW : ∀ j ∈ n.inn, rd (W ++ [w]) j = rd W j ∧ rd (R ++ [r]) j = rd R j := fun j hj => by
        have := hs.inn j hj
        exact ⟨rd_app (by omega) (by omega), rd_app (by omega) (by omega)⟩
      have hwi : rd (W ++ [w]) ((ns.length : Int) + 1) = w := by rw [show ((ns.length : Int) + 1) = W.length by omega, rd_last]
      have hri : rd (R ++ [r]) ((ns.length : Int) + 1) = r := by rw [show ((ns.length : Int) + 1) = R.length by omega, rd_last]
      have h0m : rd n.inn 0 ∈ n.inn := rd_mem (by omega) (by have := hs.l1; omega)
      have e1 : n.inn.map (rd (W ++ [w])) = n.inn.map (rd W) := List.map_congr_left fun j h => (hW j h).1
      have e2 : n.inn.map (rd (R ++ [r])) = n.inn.map (rd R) := List.map_congr_left fun j h => (hW j h).2
      exact ⟨hs.l1, hs.l2, fun j hj => by have := hs.inn j hj; omega, by rw [e1]; exact hs.chk, by rw [hwi, e1]; exact hs.wd, by rw [hri, e2]; exact hs.rt,
        fun j hj j' hj' => by rw [(hW j hj).2, (hW j' hj').2, hs.same j hj, hs.same j' hj'], fun j hj => by rw [(hW j hj).2, hs.same j hj]; exact hs.still, hs.wl, hs.bl, hs.st0, hs.st1, hs.sp0, hs.sp1, hs.post⟩
    · rw [nd_app (by omega)]
      have hn := (ih.node i h0 hle).1
      exact hn.congr (by omega) ⟨rd_app (by omega) (by omega), rd_app (by omega) (by omega)⟩ fun j hj => by
        have := hn.inn j hj
        exact ⟨rd_app (by omega) (by omega), rd_app (by omega) (by omega)⟩
section
variable {n : Nd} {X : List Int}
theorem chkL_inn : ∀ (l : List Int) (v s : Int), ({ n with inn := X } : Nd).chkL v s l = n.chkL v s l
  | [], v, s => by unfold Nd.chkL; rfl
  | x :: l, v, s => by
    unfold Nd.chkL
    rw [chkL_inn l]
theorem rchk_inn (h : X.length = n.inn.length) (l : List Int) : ({ n with inn := X } : Nd).rchk l = n.rchk l := by
  unfold Nd.rchk
  rw [show ({ n with inn := X } : Nd).chk1 l = n.chk1 l by unfold Nd.chk1; rw [h], chkL_inn]
  rfl
theorem rwide_inn (h : X.length = n.inn.length) (l : List Int) : ({ n with inn := X } : Nd).rwide l = n.rwide l := by
  unfold Nd.rwide
  rw [rchk_inn h]
theorem rate_inn (l : List Int) : ({ n with inn := X } : Nd).rate l = n.rate l := rfl
end
/-- nodes get other numbers -/
theorem GG.ren {wd : Int} {ns : List Nd} {W R : Int → Int} {rk : Int → Nat} (h : GG wd ns W R rk) (ns' : List Nd) (σ τ : Int → Int) (hl : ns'.length = ns.length) (h0 : τ 0 = 0) (hσ : ∀ j : Int, 0 ≤ j → j ≤ ns.length → 0 ≤ σ j ∧ σ j ≤ ns.length ∧ τ (σ j) = j)
    (hτ : ∀ i : Int, 1 ≤ i → i ≤ ns.length → 1 ≤ τ i ∧ τ i ≤ ns.length) (hn : ∀ i : Int, 1 ≤ i → i ≤ ns.length → nd ns' (i - 1) = { nd ns (τ i - 1) with inn := (nd ns (τ i - 1)).inn.map σ }) : GG wd ns' (fun i => W (τ i)) (fun i => R (τ i)) (fun i => rk (τ i)) := by
  refine ⟨by rw [h0]; exact h.W0, by rw [h0]; exact h.R0, by rw [h0]; exact h.k0, fun i i1 i2 => ?_⟩
  rw [hl] at i2 ⊢
  obtain ⟨hm, hk⟩ := h.node (τ i) (hτ i i1 i2).1 (hτ i i1 i2).2
  refine ⟨?_, hk⟩
  rw [hn i i1 i2]
  generalize nd ns (τ i - 1) = n at hm ⊢
  have hj : ∀ j ∈ n.inn, τ (σ j) = j := fun j hj => by have := hm.inn j hj; exact (hσ j (by omega) (by omega)).2.2
  have e1 : (n.inn.map σ).map (fun i => W (τ i)) = n.inn.map W := by rw [List.map_map]; exact List.map_congr_left fun j h => by simp only [Function.comp, hj j h]
  have e2 : (n.inn.map σ).map (fun i => R (τ i)) = n.inn.map R := by rw [List.map_map]; exact List.map_congr_left fun j h => by simp only [Function.comp, hj j h]
  have hX : (n.inn.map σ).length = n.inn.length := by simp
  refine ⟨by simpa using hm.l1, by simpa using hm.l2, ?_, ?_, ?_, ?_, ?_, ?_, hm.wl, hm.bl, hm.st0, hm.st1, hm.sp0, hm.sp1, hm.post⟩
  · intro j' hj'
    simp only [List.mem_map] at hj'
    obtain ⟨j, hjm, rfl⟩ := hj'
    have h1 := hm.inn j hjm
    have h2 := hσ j (by omega) (by omega)
    exact ⟨h2.1, h2.2.1, by rw [h2.2.2]; exact h1.2.2⟩
  · rw [rchk_inn hX, e1]; exact hm.chk
  · rw [rwide_inn hX, e1]; exact hm.wd
  · rw [rate_inn, e2]; exact hm.rt
  · intro j1 h1 j2 h2
    simp only [List.mem_map] at h1 h2
    obtain ⟨j1, h1, rfl⟩ := h1
    obtain ⟨j2, h2, rfl⟩ := h2
    rw [hj j1 h1, hj j2 h2]
    exact hm.same j1 h1 j2 h2
  · intro j1 h1
    simp only [List.mem_map] at h1
    obtain ⟨j1, h1, rfl⟩ := h1
    rw [hj j1 h1]
    exact hm.still j1 h1
theorem nd_rev {ns : List Nd} {f : Nd → Nd} {i : Int} (h1 : 1 ≤ i) (h2 : i ≤ ns.length) : nd (ns.map f).reverse (i - 1) = f (nd ns (ns.length - i)) := by
  have a1 : (i - 1).toNat < ((ns.map f).reverse).length := by simp; omega
  have a2 : ((ns.length : Int) - i).toNat < ns.length := by omega
  unfold nd
  rw [List.getD_eq_getElem?_getD, List.getElem?_eq_getElem a1, List.getD_eq_getElem?_getD, List.getElem?_eq_getElem a2]
  simp only [Option.getD_some, List.getElem_reverse, List.getElem_map, List.length_map]
  congr 2
  omega
theorem GM.gg {wd lo hi out : Int} {ns : List Nd} (h : GM wd lo hi out ns) : ∃ W R rk, GG wd ns W R rk := by
  obtain ⟨ns0, W, R, hM, e⟩ := h.made
  rcases e with rfl | rfl
  · exact ⟨_, _, _, hM.gg⟩
  · have hlen : (ns0.map (turnN ns0.length)).reverse.length = ns0.length := by simp
    refine ⟨_, _, _, hM.gg.ren _ (fun x => if 0 < x then (ns0.length : Int) + 1 - x else x) (fun x => if 0 < x then (ns0.length : Int) + 1 - x else x) hlen rfl (fun j j0 j1 => ?_) (fun i i1 i2 => ?_) (fun i i1 i2 => ?_)⟩
    · by_cases hj : 0 < j
      · simp only [if_pos hj]
        rw [if_pos (by omega)]
        omega
      · simp only [if_neg hj]
        exact ⟨j0, j1, by first | rfl | trivial⟩
    · simp only [if_pos (show 0 < i by omega)]
      omega
    · rw [nd_rev i1 i2]
      simp only [if_pos (show 0 < i by omega)]
      rw [show (ns0.length : Int) + 1 - i - 1 = ns0.length - i by omega]
      rfl
/-! a right graph's order is whole; widths and rates go along it -/
theorem nextO_none {ns : List Nd} {o : List Int} : ∀ (m : Nat) (l : Int), nextO ns o m l = none → ∀ x, l ≤ x → x < l + m → mayO ns o x = false
  | 0, l, _, x, h1, h2 => by omega
  | m + 1, l, h, x, h1, h2 => by
    unfold nextO at h
    split at h
    · cases h
    · rename_i hm
      rcases Int.lt_or_le l x with h3 | h3
      · exact nextO_none m (l + 1) h x (by omega) (by omega)
      · obtain rfl : l = x := by omega
        simpa using hm
section
variable {wd : Int} {ns : List Nd} {W R : Int → Int} {rk : Int → Nat} (h : GG wd ns W R rk)
include h
theorem GG.next {o : List Int} (ho : o.length < ns.length) : ∃ i, nextO ns o ns.length 1 = some i := by
  cases hn : nextO ns o ns.length 1 with
  | some i => exact ⟨i, rfl⟩
  | none =>
    exfalso
    have hf := nextO_none _ _ hn
    have key : ∀ (r : Nat) (i : Int), rk i ≤ r → 1 ≤ i → i ≤ ns.length → i ∈ o := by
      intro r
      induction r with
      | zero =>
        intro i hr i1 i2
        have hm := (h.node i i1 i2).1
        by_cases hi : i ∈ o
        · exact hi
        · have h1 := hf i i1 (by omega)
          rw [mayO_iff.2 ⟨hi, fun j hj => by have := hm.inn j hj; omega⟩] at h1
          cases h1
      | succ r ih =>
        intro i hr i1 i2
        have hm := (h.node i i1 i2).1
        by_cases hi : i ∈ o
        · exact hi
        · have h1 := hf i i1 (by omega)
          rw [mayO_iff.2 ⟨hi, fun j hj => by
            have h2 := hm.inn j hj
            rcases Int.lt_or_le 0 j with h3 | h3
            · exact .inr (ih j (by omega) (by omega) h2.2.1)
            · exact .inl (by omega)⟩] at h1
          cases h1
    have := all_len ns.length o fun x h1 h2 => key _ x (Nat.le_refl _) h1 h2
    omega
theorem GG.ordR_len : ∀ (k : Nat) (o : List Int), o.length + k = ns.length → (ordR ns k o).length = ns.length
  | 0, o, e => by simpa [ordR] using e
  | k + 1, o, e => by
    obtain ⟨i, hi⟩ := h.next (o := o) (by omega)
    unfold ordR
    rw [hi]
    exact GG.ordR_len k (o ++ [i]) (by simp; omega)
theorem GG.order_len : (order ns).length = ns.length := h.ordR_len ns.length [] (by simp)
end
theorem order_top (ns : List Nd) : ∀ (o1 : List Int) (i : Int) (r : List Int), order ns = o1 ++ i :: r → mayO ns o1 i = true ∧ (∀ x : Int, 1 ≤ x → x ≤ ns.length → mayO ns o1 x = true → i ≤ x) ∧ 1 ≤ i ∧ i ≤ ns.length :=
  ordR_inv (fun o => ∀ (o1 : List Int) (i : Int) (r : List Int), o = o1 ++ i :: r → mayO ns o1 i = true ∧ (∀ x : Int, 1 ≤ x → x ≤ ns.length → mayO ns o1 x = true → i ≤ x) ∧ 1 ≤ i ∧ i ≤ ns.length) (fun o x ho h1 h2 h3 h4 o1 i r e => by
    rcases List.eq_nil_or_concat r with rfl | ⟨L, b, rfl⟩
    · have e2 := List.append_inj' e rfl
      obtain ⟨rfl, e3⟩ := e2
      obtain rfl : x = i := by simpa using e3
      exact ⟨h3, h4, h1, h2⟩
    · rw [show o1 ++ i :: (L.concat b) = (o1 ++ i :: L) ++ [b] by simp] at e
      exact ho o1 i L (List.append_inj' e rfl).1) ns.length [] (fun o1 i r e => by simp at e)
theorem gwin_eq {n : Nd} (hk : inB n.k 1 12 = true) (h0 : rWin n.k = false) : n.gwin = false := by
  have hs : n.span = 1 := by
    rw [span_eqW]
    unfold Nd.rSpan
    have h1 : (n.k == 12) = false := by unfold rWin at h0; simp only [Bool.or_eq_false_iff] at h0; exact h0.2
    rw [if_neg (by rw [h1]; decide), if_pos (by rw [h0]; rfl)]
  unfold Nd.gwin
  rw [hs]
  have h2 := inB_iff.1 hk
  unfold rWin at h0
  simp only [Bool.or_eq_false_iff, beq_eq_false_iff_ne] at h0
  simp only [Bool.or_eq_false_iff, decide_eq_false_iff_not, beq_eq_false_iff_ne]
  omega
theorem grate_eq {n : Nd} {l : List Int} (hk : inB n.k 1 12 = true) (hall : ∀ x ∈ l, x = rd l 0) (hst : rd l 0 = 0 → rWin n.k = false ∧ n.k ≠ 5) : n.grate l = (n.rate l, true) := by
  have ha : l.all (· == rd l 0) = true := List.all_eq_true.2 fun x hx => by simpa using hall x hx
  have hb : l.any (· != rd l 0) = false := by
    rw [List.any_eq_false]
    exact fun x hx => by simpa using hall x hx
  have hz : (rd l 0 == 0 && (n.gwin || n.k == 5)) = false := by
    cases e : (rd l 0 == 0) with
    | false => rfl
    | true =>
      have := hst (by simpa using e)
      rw [gwin_eq hk this.1, show (n.k == 5) = false by simpa using this.2]; rfl
  have hz2 : (rd l 0 == 0 && (rWin n.k || n.k == 5)) = false := by
    cases e : (rd l 0 == 0) with
    | false => rfl
    | true =>
      have := hst (by simpa using e)
      rw [this.1, show (n.k == 5) = false by simpa using this.2]; rfl
  unfold Nd.grate Nd.rate
  rw [hb, hz, ha, hz2, stp_eqW]
  simp only [Bool.or_self, Bool.false_eq_true, if_false, Bool.true_eq_false]
  split <;> rfl
theorem rd_set {l : List Int} {i j v : Int} (hi : 0 ≤ i) (hi2 : i < l.length) (hj : 0 ≤ j) : rd (l.set i.toNat v) j = if j = i then v else rd l j := by
  unfold rd
  rw [List.getD_eq_getElem?_getD, List.getD_eq_getElem?_getD, List.getElem?_set]
  by_cases e : j = i
  · subst e
    rw [if_pos rfl, if_pos rfl, if_pos (by omega)]; rfl
  · rw [if_neg (by omega), if_neg e]
theorem rd_map {l : List Int} {f : Int → Int} (h : 0 < l.length) : rd (l.map f) 0 = f (rd l 0) := by
  cases l with
  | nil => simp at h
  | cons x l => rfl
section
variable {wd : Int} {ns : List Nd} {W R : Int → Int} {rk : Int → Nat} (h : GG wd ns W R rk)
include h
theorem GG.lookL : ∀ (r o W1 R1 : List Int), order ns = o ++ r → W1.length = ns.length + 1 → R1.length = ns.length + 1 → (∀ x, x = 0 ∨ x ∈ o → rd W1 x = W x ∧ rd R1 x = R x) →
    ∃ W2 R2, lookL ns r W1 R1 = (0, W2, R2) ∧ W2.length = ns.length + 1 ∧ R2.length = ns.length + 1 ∧ ∀ x, x = 0 ∨ x ∈ o ++ r → rd W2 x = W x ∧ rd R2 x = R x
  | [], o, W1, R1, ho, hW, hR, hx => ⟨W1, R1, rfl, hW, hR, by simpa using hx⟩
  | i :: r, o, W1, R1, ho, hW, hR, hx => by
    obtain ⟨hm, _, i1, i2⟩ := order_top ns o i r ho
    have hN := (h.node i i1 i2).1
    have hin := (mayO_iff.1 hm).2
    rw [lookL_cons]
    generalize nd ns (i - 1) = n at hN hin ⊢
    have e1 : n.inn.map (rd W1) = n.inn.map W := List.map_congr_left fun j hj => (hx j (hin j hj)).1
    have e2 : n.inn.map (rd R1) = n.inn.map R := List.map_congr_left fun j hj => (hx j (hin j hj)).2
    obtain ⟨_, h7, _⟩ := rchk_unpack hN.chk
    have hk : inB n.k 1 12 = true := by
      unfold Nd.r7 at h7
      simp only [Bool.or_eq_false_iff, Bool.not_eq_false'] at h7
      exact h7.1.1
    have h0m : rd n.inn 0 ∈ n.inn := rd_mem (by omega) (by have := hN.l1; omega)
    have hr0 : rd (n.inn.map R) 0 = R (rd n.inn 0) := rd_map hN.l1
    have hg : n.grate (n.inn.map R) = (R i, true) := by
      rw [grate_eq hk (fun x hx => by
        simp only [List.mem_map] at hx
        obtain ⟨j, hj, rfl⟩ := hx
        rw [hr0]; exact hN.same j hj _ h0m) (by rw [hr0]; exact hN.still _ h0m), ← hN.rt]
    have hw : n.wide (n.inn.map W) = W i := by
      have := both_eq n (n.inn.map W)
      unfold Nd.both at this
      simp only [Bool.and_eq_true, beq_iff_eq] at this
      rw [this.2]; exact hN.wd.symm
    rw [e1, e2, chk_eq, hN.chk, hg, hw]
    simp only [bne_self_eq_false, Bool.false_eq_true, if_false, Bool.not_true]
    have := GG.lookL r (o ++ [i]) (W1.set i.toNat (W i)) (R1.set i.toNat (R i)) (by rw [ho]; simp) (by simpa using hW) (by simpa using hR) (fun x hx' => by
      have hx0 : 0 ≤ x := by
        rcases hx' with rfl | hx'
        · omega
        · have := ordR_range (ns := ns) (k := ns.length) (o := []) (by simp) x (show x ∈ order ns by
            rw [ho]
            rcases List.mem_append.1 hx' with hx' | hx'
            · exact List.mem_append_left _ hx'
            · exact List.mem_append_right _ (by simp at hx'; subst hx'; simp))
          omega
      rw [rd_set (by omega) (by omega) hx0, rd_set (by omega) (by omega) hx0]
      by_cases e : x = i
      · subst e; rw [if_pos rfl, if_pos rfl]; exact ⟨rfl, rfl⟩
      · rw [if_neg e, if_neg e]
        refine hx x ?_
        rcases hx' with hx' | hx'
        · exact .inl hx'
        · rcases List.mem_append.1 hx' with hx' | hx'
          · exact .inr hx'
          · simp at hx'; exact absurd hx' e)
    obtain ⟨W2, R2, e3, e4, e5, e6⟩ := this
    exact ⟨W2, R2, e3, e4, e5, by simpa using e6⟩
theorem GG.mem_order (x : Int) (h1 : 1 ≤ x) (h2 : x ≤ ns.length) : x ∈ order ns := by
  by_cases hx : x ∈ order ns
  · exact hx
  · exfalso
    have hl := h.order_len
    have hnd : (x :: order ns).Nodup := List.nodup_cons.2 ⟨hx, order_nodup ns⟩
    have := nodup_len ns.length (x :: order ns) hnd fun y hy => by
      rcases List.mem_cons.1 hy with rfl | hy
      · exact ⟨h1, h2⟩
      · exact ordR_range (ns := ns) (k := ns.length) (o := []) (by simp) y hy
    simp at this
    omega
/-- what graph.look tells of a right graph -/
theorem GG.lookG {lo hi out : Int} (hm : mayG wd lo hi out ns = 0) : ∃ W2 R2, lookG wd lo hi out ns = (0, order ns, W2, R2) ∧ W2.length = ns.length + 1 ∧ R2.length = ns.length + 1 ∧ ∀ x : Int, 0 ≤ x → x ≤ ns.length → rd W2 x = W x ∧ rd R2 x = R x := by
  obtain ⟨W2, R2, e1, e2, e3, e4⟩ := h.lookL (order ns) [] (wd :: List.replicate ns.length 0) (1 :: List.replicate ns.length 0) rfl (by simp) (by simp) (fun x hx => by
    simp only [List.not_mem_nil, or_false] at hx
    subst hx
    exact ⟨h.W0.symm, h.R0.symm⟩)
  refine ⟨W2, R2, ?_, e2, e3, fun x h1 h2 => e4 x ?_⟩
  · unfold Aw.lookG
    rw [if_neg (by rw [hm]; decide), if_neg (by rw [h.order_len]; simp), e1]
    rfl
  · rcases Int.lt_or_le 0 x with h3 | h3
    · exact .inr (by simpa using h.mem_order x h3 h2)
    · exact .inl (by omega)
end
theorem GM.may {wd lo hi out : Int} {ns : List Nd} (h : GM wd lo hi out ns) : mayG wd lo hi out ns = 0 := by
  have hn := h.n0
  unfold mayG
  rw [if_neg (by simp; omega), if_neg, if_pos]
  · exact List.all_eq_true.2 fun n hm => List.all_eq_true.2 fun j hj => inB_iff.2 ((h.inn n hm).1.2 j hj)
  · have := h.wd0; have := h.lo0; have := h.hi0; have := h.out0
    unfold mayQ
    simp only [Bool.or_eq_true, decide_eq_true_eq]
    omega
set_option maxRecDepth 100000
/-! the plain law of ends: wider ones never make narrower ones -/
structure Wi (x y : Rg) : Prop where
  lo : y.lo ≤ x.lo
  hi : x.hi ≤ y.hi
  le : x.lo ≤ x.hi
  al : y.al ≤ x.al
  ah : x.ah ≤ y.ah
  y32 : in32 y.lo ∧ in32 y.hi
theorem Wi.x32 {x y : Rg} (h : Wi x y) : in32 x.lo ∧ in32 x.hi := by
  have h1 := h.lo
  have h2 := h.hi
  have h3 := h.le
  have h4 := h.y32
  unfold in32 at *
  omega
def WL : List Rg → List Rg → Prop
  | [], [] => True
  | x :: a, y :: b => Wi x y ∧ WL a b
  | _, _ => False
theorem WL.len : ∀ {a b : List Rg}, WL a b → a.length = b.length
  | [], [], _ => rfl
  | x :: a, y :: b, h => by simp only [WL] at h; simp [WL.len h.2]
theorem WL.at : ∀ {a b : List Rg}, WL a b → ∀ i : Nat, i < a.length → Wi (a.getD i ⟨0, 0, 0, 0⟩) (b.getD i ⟨0, 0, 0, 0⟩)
  | [], [], _, i, hi => by simp at hi
  | x :: a, y :: b, h, 0, hi => by simp only [WL] at h; exact h.1
  | x :: a, y :: b, h, i + 1, hi => by simp only [WL] at h; simpa using WL.at h.2 i (by simpa using hi)
theorem WL.w {a b : List Rg} (h : WL a b) {j : Int} (h0 : 0 ≤ j) (h1 : j < a.length) : Wi (rg a j) (rg b j) := h.at j.toNat (by omega)
theorem WL.set : ∀ {a b : List Rg}, WL a b → ∀ (i : Nat) {x y : Rg}, Wi x y → WL (a.set i x) (b.set i y)
  | [], [], _, i, x, y, _ => by simp [WL]
  | u :: a, v :: b, h, 0, x, y, hw => by simp only [WL] at h; exact ⟨hw, h.2⟩
  | u :: a, v :: b, h, i + 1, x, y, hw => by simp only [WL] at h; exact ⟨h.1, WL.set h.2 i hw⟩
theorem WL.map {a b : List Rg} : ∀ {l : List Int}, (∀ j ∈ l, Wi (rg a j) (rg b j)) → WL (l.map (rg a)) (l.map (rg b))
  | [], _ => trivial
  | j :: l, h => ⟨h j (List.mem_cons_self ..), WL.map fun x hx => h x (List.mem_cons_of_mem _ hx)⟩
theorem mn_mono {a b c d : Int} (h1 : a ≤ c) (h2 : b ≤ d) : mn a b ≤ mn c d := by unfold mn; split <;> split <;> omega
theorem mx_mono {a b c d : Int} (h1 : a ≤ c) (h2 : b ≤ d) : mx a b ≤ mx c d := by unfold mx; split <;> split <;> omega
theorem mn_mx {a b c d : Int} (h1 : a ≤ b) : mn a c ≤ mx b d := by unfold mn mx; split <;> split <;> omega
theorem mnA_mono {a b : List Rg} (h : WL a b) (h0 : 1 ≤ a.length) : ∀ j, j ≤ a.length → mnA b j ≤ mnA a j ∧ mxA a j ≤ mxA b j ∧ mnA a j ≤ mxA a j
  | 0, _ => by
    have := h.w (j := 0) (by omega) (by omega)
    exact ⟨this.lo, this.hi, this.le⟩
  | j + 1, hj => by
    obtain ⟨i1, i2, i3⟩ := mnA_mono h h0 j (by omega)
    have := h.w (j := j) (by omega) (by omega)
    exact ⟨mn_mono i1 this.lo, mx_mono i2 this.hi, mn_mx i3⟩
theorem nodeLH_mono {n : Nd} {a b : List Rg} (h : WL a b) (h0 : 1 ≤ a.length) : nodeL n b ≤ nodeL n a ∧ nodeH n a ≤ nodeH n b ∧ nodeL n a ≤ nodeH n a := by
  obtain ⟨i1, i2, i3⟩ := mnA_mono h h0 a.length (Nat.le_refl _)
  unfold nodeL nodeH
  rw [← h.len]
  split
  · exact ⟨mn_mono i1 (Int.le_refl _), mx_mono i2 (Int.le_refl _), mn_mx i3⟩
  · exact ⟨i1, i2, i3⟩
theorem clampV_mono {x y l h : Int} (hxy : x ≤ y) (hl : l ≤ h) : clampV x l h ≤ clampV y l h := by unfold clampV; (repeat' split) <;> omega
theorem divV_mono {x y n : Int} (hxy : x ≤ y) : divV x n ≤ divV y n := by
  unfold divV
  split
  · exact Int.le_refl _
  · exact Int.ediv_le_ediv (by omega) (by omega)
theorem scaleV_mono {x y m s : Int} (hxy : x ≤ y) : scaleV x m s ≤ scaleV y m s := by
  unfold scaleV
  split
  · rename_i h
    refine clampV_mono ?_ (by decide)
    unfold halfV
    split
    · exact divV_mono (Int.mul_le_mul_of_nonneg_right hxy h.1)
    · exact Int.le_refl _
  · exact Int.le_refl _
theorem pst_mono {n : Nd} (hs : n.s27 = true) {x y : Int} (hxy : x ≤ y) : n.pst x ≤ n.pst y := by
  obtain ⟨_, _, _, b, _⟩ := s27' hs
  have h1 := clampV_mono (l := -2147483648) (h := 2147483647) hxy (by decide)
  have h2 := scaleV_mono (m := n.mult) (s := n.shift) h1
  unfold Nd.pst
  split
  · split
    · exact clampV_mono h2 b
    · exact clampV_mono h1 b
  · split
    · exact h2
    · exact h1
theorem mul_abs2 (a b : Int) (ha : -128 ≤ a ∧ a ≤ 128) (hb : in32 b) : -274877906944 ≤ a * b ∧ a * b ≤ 274877906944 := by
  have h1 : (a * b).natAbs ≤ 128 * 2147483648 := by
    rw [Int.natAbs_mul]
    unfold in32 at hb
    exact Nat.mul_le_mul (by omega) (by omega)
  omega
theorem eN_mono {W : List Int} (hw : ∀ i, -128 ≤ rd W i ∧ rd W i ≤ 128) {l h l' h' b : Int} (h1 : l' ≤ l) (h2 : l ≤ h) (h3 : h ≤ h') (h4 : in32 l' ∧ in32 h') (hb : -16777216 ≤ b ∧ b ≤ 16777216) : ∀ k : Nat, k ≤ 4096 →
    ((eN l' h' W b k).1 ≤ (eN l h W b k).1 ∧ (eN l h W b k).2 ≤ (eN l' h' W b k).2 ∧ (eN l h W b k).1 ≤ (eN l h W b k).2) ∧ -(16777216 + k * 274877906944) ≤ (eN l' h' W b k).1 ∧ (eN l' h' W b k).2 ≤ 16777216 + k * 274877906944 := by
  have hl32 : in32 l ∧ in32 h := by unfold in32 at *; omega
  intro k
  induction k with
  | zero => intro _; simp only [eN]; omega
  | succ k ih =>
    intro hk
    obtain ⟨⟨a1, a2, a3⟩, a4, a5⟩ := ih (by omega)
    have hwk := hw (k : Nat)
    have p1 := mul_abs2 _ _ hwk hl32.1
    have p2 := mul_abs2 _ _ hwk hl32.2
    have p3 := mul_abs2 _ _ hwk h4.1
    have p4 := mul_abs2 _ _ hwk h4.2
    simp only [eN]
    generalize rd W (k : Nat) = w at *
    split
    · rename_i hneg
      have m1 : w * h' ≤ w * h := Int.mul_le_mul_of_nonpos_left (by omega) h3
      have m2 : w * h ≤ w * l := Int.mul_le_mul_of_nonpos_left (by omega) h2
      have m3 : w * l ≤ w * l' := Int.mul_le_mul_of_nonpos_left (by omega) h1
      generalize w * l = q1 at *
      generalize w * h = q2 at *
      generalize w * l' = q3 at *
      generalize w * h' = q4 at *
      simp only
      rw [w64 (x := q1) (by omega) (by omega), w64 (x := q2) (by omega) (by omega), w64 (x := q3) (by omega) (by omega), w64 (x := q4) (by omega) (by omega)]
      generalize (eN l h W b k).1 = u1 at *
      generalize (eN l h W b k).2 = u2 at *
      generalize (eN l' h' W b k).1 = u3 at *
      generalize (eN l' h' W b k).2 = u4 at *
      rw [w64 (x := u1 + q2) (by omega) (by omega), w64 (x := u2 + q1) (by omega) (by omega), w64 (x := u3 + q4) (by omega) (by omega), w64 (x := u4 + q3) (by omega) (by omega)]
      omega
    · rename_i hneg
      have m1 : w * l' ≤ w * l := Int.mul_le_mul_of_nonneg_left h1 (by omega)
      have m2 : w * l ≤ w * h := Int.mul_le_mul_of_nonneg_left h2 (by omega)
      have m3 : w * h ≤ w * h' := Int.mul_le_mul_of_nonneg_left h3 (by omega)
      generalize w * l = q1 at *
      generalize w * h = q2 at *
      generalize w * l' = q3 at *
      generalize w * h' = q4 at *
      simp only
      rw [w64 (x := q1) (by omega) (by omega), w64 (x := q2) (by omega) (by omega), w64 (x := q3) (by omega) (by omega), w64 (x := q4) (by omega) (by omega)]
      generalize (eN l h W b k).1 = u1 at *
      generalize (eN l h W b k).2 = u2 at *
      generalize (eN l' h' W b k).1 = u3 at *
      generalize (eN l' h' W b k).2 = u4 at *
      rw [w64 (x := u1 + q1) (by omega) (by omega), w64 (x := u2 + q2) (by omega) (by omega), w64 (x := u3 + q3) (by omega) (by omega), w64 (x := u4 + q4) (by omega) (by omega)]
      omega
theorem all_rd' {ws : List Int} {a b : Int} (h : ws.all (inB · (-a) b) = true) (ha : 0 ≤ a) (hb : 0 ≤ b) (i : Int) : -a ≤ rd ws i ∧ rd ws i ≤ b := by
  unfold rd
  rw [List.getD_eq_getElem?_getD]
  cases hq : ws[i.toNat]? with
  | none => simp; omega
  | some z => exact inB_iff.1 (List.all_eq_true.1 h z (List.mem_of_getElem? hq))
theorem wsC_rd {n : Nd} {each : Nat} {c : Int} (h : n.ws.all (inB · (-128) 127) = true) (i : Int) : -128 ≤ rd (wsC n each c) i ∧ rd (wsC n each c) i ≤ 128 := by
  have : (wsC n each c).all (inB · (-128) 127) = true := List.all_eq_true.2 fun x hx => List.all_eq_true.1 h x (List.mem_of_mem_take (List.mem_of_mem_drop hx))
  have := all_rd' this (by decide) (by decide) i
  omega
structure WN (n : Nd) : Prop where
  s27 : n.s27 = true
  ws : n.ws.all (inB · (-128) 127) = true
  bs : n.bs.all (inB · (-16777216) 16777216) = true
  size : 0 ≤ n.size ∧ n.size ≤ 8
theorem aN_mono {n : Nd} {each : Nat} (hN : WN n) (he : each ≤ 4096) {l h l' h' : Int} (h1 : l' ≤ l) (h2 : l ≤ h) (h3 : h ≤ h') (h4 : in32 l' ∧ in32 h') : ∀ c : Nat,
    (aN n l' h' each c).1 ≤ (aN n l h each c).1 ∧ (aN n l h each c).2 ≤ (aN n l' h' each c).2 ∧ (aN n l h each c).1 ≤ (aN n l h each c).2 := by
  have key := fun c : Int => (eN_mono (W := wsC n each c) (wsC_rd hN.ws) h1 h2 h3 h4 (all_rd' hN.bs (by decide) (by decide) c) each he).1
  intro c
  induction c with
  | zero => exact key 0
  | succ c ih =>
    have := key c
    exact ⟨mn_mono ih.1 this.1, mx_mono ih.2.1 this.2.1, mn_mx ih.2.2⟩
theorem add_mono : ∀ (a b : List Int) (x y : Int), a.length = b.length → (∀ i : Nat, i < a.length → a.getD i 0 ≤ b.getD i 0) → x ≤ y → a.foldl (fun n x => clampV (n + x) (-2147483648) 2147483647) x ≤ b.foldl (fun n x => clampV (n + x) (-2147483648) 2147483647) y
  | [], [], x, y, _, _, h => h
  | u :: a, v :: b, x, y, hl, hp, h => by
    simp only [List.foldl_cons]
    have h0 := hp 0 (by simp)
    simp only [List.getD_cons_zero] at h0
    exact add_mono a b _ _ (by simpa using hl) (fun i hi => by simpa using hp (i + 1) (by simpa using hi)) (clampV_mono (by omega) (by decide))
  | [], v :: b, x, y, hl, _, _ => by simp at hl
  | u :: a, [], x, y, hl, _, _ => by simp at hl
theorem getD_map (f : Rg → Int) (a : List Rg) (i : Nat) (hi : i < a.length) : (a.map f).getD i 0 = f (a.getD i ⟨0, 0, 0, 0⟩) := by simp [List.getD, hi]
theorem slA_mono {a b : List Rg} (h : WL a b) : ∀ j : Nat, j ≤ a.length → j ≤ 16 → (slA b j ≤ slA a j ∧ shA a j ≤ shA b j) ∧ (-(j * 2147483648) ≤ slA b j ∧ slA a j ≤ j * 2147483648) ∧ -(j * 2147483648) ≤ shA a j ∧ shA b j ≤ j * 2147483648 := by
  intro j
  induction j with
  | zero => intro _ _; simp [slA, shA]
  | succ j ih =>
    intro h1 h2
    obtain ⟨⟨a1, a2⟩, ⟨a3, a4⟩, a5, a6⟩ := ih (by omega) (by omega)
    have hw := h.w (j := j) (by omega) (by omega)
    have q1 := hw.lo
    have q2 := hw.hi
    have q3 := hw.y32
    have q4 := hw.x32
    unfold in32 at q3 q4
    simp only [slA, shA]
    rw [w64 (x := slA a j + (rg a j).lo) (by omega) (by omega), w64 (x := slA b j + (rg b j).lo) (by omega) (by omega), w64 (x := shA a j + (rg a j).hi) (by omega) (by omega), w64 (x := shA b j + (rg b j).hi) (by omega) (by omega)]
    refine ⟨⟨by omega, by omega⟩, ⟨by omega, by omega⟩, by omega, by omega⟩
theorem node_wi {n : Nd} {w : Int} {a b : List Rg} {each : Nat} (h : WL a b) (hN : WN n) (ha : NOk n a each) (hb : NOk n b each) (hw : 1 ≤ w ∧ w ≤ 16) : Wi (nodeR n w a each) (nodeR n w b each) := by
  have hi := ha.i0
  obtain ⟨i1, i2, i3⟩ := nodeLH_mono (n := n) h hi.1
  have b32 := nodeLH32 hb
  have y32 := nodeR32 hb hN.s27 (width := w) (by omega)
  obtain ⟨_, _, _, lh, _⟩ := s27' hN.s27
  have hlen := h.len
  unfold nodeR at y32 ⊢
  split at y32
  · rename_i hq
    rw [if_pos hq, if_pos hq]
    obtain ⟨e1, e2, e3⟩ := aN_mono hN (ha.bw hq).e0 i1 i3 i2 b32 n.bs.length
    exact ⟨pst_mono hN.s27 e1, pst_mono hN.s27 e2, pst_mono hN.s27 e3, e1, e2, y32⟩
  rename_i hq
  rw [if_neg hq, if_neg hq]
  split at y32
  · rename_i h4
    rw [if_pos h4, if_pos h4]
    have hs := hN.size
    unfold in32 at b32
    have x32 : (-2147483648 ≤ nodeL n a ∧ nodeL n a ≤ 2147483647) ∧ -2147483648 ≤ nodeH n a ∧ nodeH n a ≤ 2147483647 := by omega
    have m1 : n.size * nodeL n b ≤ n.size * nodeL n a := Int.mul_le_mul_of_nonneg_left i1 hs.1
    have m2 : n.size * nodeH n a ≤ n.size * nodeH n b := Int.mul_le_mul_of_nonneg_left i2 hs.1
    have k1 := mul_abs2 n.size (nodeL n a) (by omega) x32.1
    have k2 := mul_abs2 n.size (nodeL n b) (by omega) b32.1
    have k3 := mul_abs2 n.size (nodeH n a) (by omega) x32.2
    have k4 := mul_abs2 n.size (nodeH n b) (by omega) b32.2
    refine ⟨i1, i2, i3, ?_, ?_, y32⟩
    · show wrap64 (n.size * nodeL n b) ≤ wrap64 (n.size * nodeL n a)
      rw [w64 (x := n.size * nodeL n b) (by omega) (by omega), w64 (x := n.size * nodeL n a) (by omega) (by omega)]; exact m1
    · show wrap64 (n.size * nodeH n a) ≤ wrap64 (n.size * nodeH n b)
      rw [w64 (x := n.size * nodeH n a) (by omega) (by omega), w64 (x := n.size * nodeH n b) (by omega) (by omega)]; exact m2
  rename_i h4
  rw [if_neg h4, if_neg h4]
  split at y32
  · rename_i h7
    rw [if_pos h7, if_pos h7]
    have s := (slA_mono h a.length (Nat.le_refl _) hi.2).1
    refine ⟨?_, ?_, ?_, by rw [hlen] at s; rw [hlen]; exact s.1, by rw [hlen] at s; rw [hlen]; exact s.2, y32⟩
    · exact add_mono _ _ _ _ (by simp [hlen]) (fun i hi => by
        simp only [List.length_map] at hi
        rw [getD_map _ _ _ hi, getD_map _ _ _ (by omega)]
        exact (h.at i (by omega)).lo) (Int.le_refl _)
    · exact add_mono _ _ _ _ (by simp [hlen]) (fun i hi => by
        simp only [List.length_map] at hi
        rw [getD_map _ _ _ hi, getD_map _ _ _ (by omega)]
        exact (h.at i (by omega)).hi) (Int.le_refl _)
    · exact add_mono _ _ _ _ (by simp) (fun i hi => by
        simp only [List.length_map] at hi
        rw [getD_map _ _ _ hi, getD_map _ _ _ hi]
        exact (h.at i (by omega)).le) (Int.le_refl _)
  rename_i h7
  rw [if_neg h7, if_neg h7]
  split at y32
  · rename_i h9
    rw [if_pos h9, if_pos h9]
    exact ⟨clampV_mono i1 lh, clampV_mono i2 lh, clampV_mono i3 lh, clampV_mono i1 lh, clampV_mono i2 lh, y32⟩
  rename_i h9
  rw [if_neg h9, if_neg h9]
  split at y32
  · rename_i hx
    rw [if_pos hx, if_pos hx]
    exact ⟨scaleV_mono i1, scaleV_mono i2, scaleV_mono i3, scaleV_mono i1, scaleV_mono i2, y32⟩
  rename_i hx
  rw [if_neg hx, if_neg hx]
  split at y32
  · rename_i he
    rw [if_pos he, if_pos he]
    refine ⟨Int.le_refl _, Int.le_refl _, ?_, Int.le_refl _, Int.le_refl _, y32⟩
    show (0 : Int) ≤ wrap64 (w - 1)
    rw [w64 (by omega) (by omega)]; omega
  rename_i he
  rw [if_neg he, if_neg he]
  exact ⟨i1, i2, i3, i1, i2, y32⟩
end Go.Proofs.YtgijboakaodcgaaDoor.Aw
