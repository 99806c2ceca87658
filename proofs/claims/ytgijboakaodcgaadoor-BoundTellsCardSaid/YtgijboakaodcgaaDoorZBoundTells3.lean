/- The abstract walk, and contracts of Go functions: each call returns what the Lean function named tells. Conditions: those that each theorem names, none else. -/
import Derived.Test.YtgijboakaodcgaaDoorZBoundTells2
set_option linter.unusedVariables false
set_option linter.unusedSimpArgs false
set_option maxRecDepth 100000
set_option linter.unusedSectionVars false
set_option maxHeartbeats 4000000
namespace Go.Proofs.YtgijboakaodcgaaDoor.Aw
open Go.RowKit
attribute [local go_sem_proc] Nat.reduceAdd Nat.reduceMul Nat.reduceSub Nat.reduceEqDiff Nat.reduceLeDiff Nat.reduceBEq Nat.reduceBNe Int.reduceToNat reduceIte reduceCtorEq
attribute [local go_sem] initT SQ so pe he ev lk constS stp stc gdS nth pickS pickD loadS cellsAt okAt fieldAddrS fieldS partS indexAddrS indexS extractS binS binD binI isShift unS convS lenS sliceS bndI bndC mmS mm2 mmD builtS fillS okCells cellsS splS solid aliveL alive okS boxS allocS makeS bsliceS elemsOf dcells stF storeS frzA frz frzT frzS frzL frzO frzH appS srcS appVC killS killT killC killH killO k1 k2 S.has S.hasL St.add St.upd dropH lh cond_or cond_and rw_intC rw_intC0 rw_set rw_app rw_apps rw_rep rw_slice wr64 cond_true cond_false true_and and_true List.map_cons List.map_nil List.length_cons List.length_nil List.drop_succ_cons List.drop_zero List.take_succ_cons List.take_zero List.nil_append List.cons_append List.getD_cons_zero List.getD_cons_succ List.headD_cons List.length_map ite_true ite_false if_true if_false Bool.false_eq_true and_self forall_const List.drop_nil List.take_nil List.append_nil Option.map_some Option.map_none List.mapM_cons List.mapM_nil Option.bind_eq_bind Option.bind_some Option.pure_def knows resL resV oneS freshS freshL cv cvL stpL stcL or_true true_or or_false false_or List.all_cons List.all_nil Bool.and_self Bool.or_self Bool.true_and Bool.and_true Bool.or_false Bool.false_or implies_true flatD allm_nil allm_cons List.getElem?_cons_zero List.getElem?_cons_succ Nd.cs Nd.ds ml mln Option.isSome_some Option.isSome_none eq_self Int.toNat_natCast AP ldOk isLd inL subL crt chg chgS chgP idxs aliveW Option.toList_some Option.toList_none Option.toList RetG Nd.win frzA offK keepH aliveK nkH closedH closedO keysK inH St.upd rowO List.contains_cons List.contains_nil Bool.or_self Option.isNone_none Option.isNone_some Bool.not_true Bool.not_false gcs rowN e0N frzC
attribute [local go_sem] sz2 ag2 ok2 kk2 iu2 zc2 zd2 by2 sz3 ag3 ok3 kk3 iu3 zc3 zd3 by3 sz4 ag4 ok4 bo4 zc4 zd4 by4 sz5 ag5 ok5 kk5 iu5 zc5 zd5 by5 sz9 ag9 ok9 st9 zc9 zd9 by9 sz12 ag12 ok12 kk12 iu12 zc12 zd12 by12 sz15 ag15 ok15 zc15 by15 sz16 ag16 ok16 zc16 by16 sz21 ag21 ok21 kk21 iu21 zc21 zd21 by21 sz22 ag22 ok22 sl22 zc22 zd22 by22 sz23 ag23 ok23 zc23 zd23 pl23 by23 fl23_0 fl23_1 fl23_2 fl23_3 fl23_4 fl23_5 sz24 ag24 ok24 zc24 zd24 pl24 by24 fl24_0 fl24_1 fl24_2 fl24_3 fl24_4 fl24_5 sz26 ag26 ok26 zc26 zd26 pl26 by26 fl26_0 fl26_1 fl26_2 fl26_3 fl26_4 fl26_5 fl26_6 fl26_7 fl26_8 fl26_9 fl26_10 fl26_11 fl26_12 fl26_13 fl26_14 sz27 ag27 ok27 zc27 zd27 pl27 by27 fl27_0 fl27_1 fl27_2 fl27_3 fl27_4 fl27_5 fl27_6 fl27_7 fl27_8 fl27_9 fl27_10 fl27_11 fl27_12 fl27_13 fl27_14 sz28 ag28 ok28 sl28 zc28 zd28 by28 sz38 ag38 ok38 sl38 ar38 zc38 zd38 pl38 by38 sz44 ag44 ok44 sl44 ar44 zc44 zd44 pl44 by44 sz45 ag45 ok45 sl45 zc45 zd45 by45 sz46 ag46 ok46 zc46 zd46 pl46 by46 fl46_0 fl46_1 fl46_2 fl46_3 fl46_4 sz47 ag47 ok47 zc47 zd47 pl47 by47 fl47_0 fl47_1 fl47_2 fl47_3 fl47_4 sz49 ag49 ok49 kk49 iu49 zc49 zd49 by49 sz53 ag53 ok53 sl53 ar53 zc53 zd53 pl53 by53 sz54 ag54 ok54 kk54 iu54 zc54 zd54 by54 sz55 ag55 ok55 kk55 iu55 zc55 zd55 by55 sz56 ag56 ok56 sl56 zc56 zd56 by56 sz57 ag57 ok57 kk57 iu57 zc57 zd57 by57 sz60 ag60 ok60 zc60 zd60 pl60 by60 fl60_0 fl60_1 fl60_2 fl60_3 sz61 ag61 ok61 zc61 zd61 pl61 by61 fl61_0 fl61_1 fl61_2 fl61_3 sz64 ag64 ok64 zc64 by64 sz65 ag65 ok65 zc65 zd65 pl65 by65 fl65_0 fl65_1 sz66 ag66 ok66 zc66 zd66 pl66 by66 fl66_0 fl66_1 sz78 ag78 ok78 sl78 ar78 zc78 zd78 pl78 by78 sz79 ag79 ok79 sl79 ar79 zc79 zd79 pl79 by79 sz81 ag81 ok81 zc81 zd81 pl81 by81 fl81_0 fl81_1 sz82 ag82 ok82 zc82 zd82 pl82 by82 fl82_0 fl82_1 sz84 ag84 ok84 zc84 zd84 pl84 by84 fl84_0 fl84_1 fl84_2 fl84_3 sz85 ag85 ok85 zc85 zd85 pl85 by85 fl85_0 fl85_1 fl85_2 fl85_3 sz92 ag92 ok92 sl92 ar92 zc92 zd92 pl92 by92 sz101 ag101 ok101 zc101 zd101 pl101 by101 fl101_0 fl101_1 sz102 ag102 ok102 zc102 zd102 pl102 by102 fl102_0 fl102_1 sz109 ag109 ok109 zc109 zd109 pl109 by109 fl109_0 fl109_1 fl109_2 sz110 ag110 ok110 zc110 zd110 pl110 by110 fl110_0 fl110_1 fl110_2 sz120 ag120 ok120 sl120 ar120 zc120 zd120 pl120 by120 sz121 ag121 ok121 zc121 zd121 pl121 by121 fl121_0 fl121_1 sz122 ag122 ok122 sl122 ar122 zc122 zd122 pl122 by122 sz130 ag130 ok130 zc130 by130 sz140 ag140 ok140 kk140 iu140 zc140 zd140 by140 sz144 ag144 ok144 zc144 by144
/-! sat and round, over words -/
theorem newK_two {k j : Nat} {a a' b b' : Obj'} : newK [(k, a), (j, b)] [(k, a'), (j, b')] = fun _ => false := by
  funext i
  simp only [newK, lh]
  by_cases e : k = i <;> by_cases e2 : j = i <;> simp [e, e2]
theorem ends_c {T : World → Prop} (Tm : TP T) : Ct Go.Proofs.Tryd.prog T 102 [.d (.i .i64 32)] true (fun r => r = .tup [.d (.i .i64 (-2147483648)), .d (.i .i64 2147483647), .d (.b true)]) := by
  refine Ct_of Tm Go.Proofs.Tryd.func102 rfl rfl Go.Proofs.Tryd.ntmps102 (by simp) (rs := [.tmp 2, .tmp 3, .tmp 4]) rfl fun E hP hn hT => ?_
  (repeat (first | (refine TR.imp ?_; intro K hK; simp only [go_sem, hP, hn]; (repeat refine vc ?_); refine hK _ ?_; clear K hK) | refine TS.imp ?_ | refine n9 (by decide) ?_))
  refine Tr.cond rfl (fun hb => ?_) (fun hb => ?_)
  · exact absurd hb (by decide)
  have e1 : wrap64 (64 - 32) = 32 := w64 (by decide) (by decide)
  (repeat (first | refine TS.imp ?_ | refine n9 (by decide) ?_))
  refine TR.imp ?_; intro K hK; simp only [e1, go_sem, hP, hn]; (repeat refine vc ?_); refine hK _ ?_; clear K hK
  (repeat (first | (refine TR.imp ?_; intro K hK; simp only [go_sem, hP, hn]; (repeat refine vc ?_); refine hK _ ?_; clear K hK) | refine TS.imp ?_ | refine n9 (by decide) ?_))
  simp only [RetQ, go_sem]
  rw [show (-9223372036854775808 : Int).fdiv (2 ^ min 32 64) = -2147483648 by decide, show xorV .i64 (-2147483648) = 2147483647 from xor_neg _ (by decide) (by decide)]
theorem Clamp_c {T : World → Prop} (Tm : TP T) (x l h : Int) : Ct Go.Proofs.Tryd.prog T 39 [.d (.i .i64 x), .d (.i .i64 l), .d (.i .i64 h)] true (fun r => r = .d (.i .i64 (clampV x l h))) := by
  refine Ct_of Tm Go.Proofs.Tryd.func39 rfl rfl Go.Proofs.Tryd.ntmps39 (by simp) (rs := [.tmp 6]) rfl fun E hP hn hT => ?_
  (repeat (first | (refine TR.imp ?_; intro K hK; simp only [go_sem, hP, hn]; (repeat refine vc ?_); refine hK _ ?_; clear K hK) | refine TS.imp ?_ | refine n9 (by decide) ?_))
  unfold clampV
  refine Tr.cond rfl (fun hb => ?_) (fun hb => ?_)
  · have h1 : x < l := by simpa using hb
    (repeat (first | (refine TR.imp ?_; intro K hK; simp only [go_sem, hP, hn]; (repeat refine vc ?_); refine hK _ ?_; clear K hK) | refine TS.imp ?_ | refine n9 (by decide) ?_))
    simp only [RetQ, go_sem]
    simp [h1]
  · have h1 : ¬ x < l := by simpa using hb
    (repeat (first | (refine TR.imp ?_; intro K hK; simp only [go_sem, hP, hn]; (repeat refine vc ?_); refine hK _ ?_; clear K hK) | refine TS.imp ?_ | refine n9 (by decide) ?_))
    refine Tr.cond rfl (fun hc => ?_) (fun hc => ?_)
    · have h2 : h < x := by simpa using hc
      (repeat (first | (refine TR.imp ?_; intro K hK; simp only [go_sem, hP, hn]; (repeat refine vc ?_); refine hK _ ?_; clear K hK) | refine TS.imp ?_ | refine n9 (by decide) ?_))
      simp only [RetQ, go_sem]
      simp [h1, h2]
    · have h2 : ¬ h < x := by simpa using hc
      (repeat (first | (refine TR.imp ?_; intro K hK; simp only [go_sem, hP, hn]; (repeat refine vc ?_); refine hK _ ?_; clear K hK) | refine TS.imp ?_ | refine n9 (by decide) ?_))
      simp only [RetQ, go_sem]
      simp [h1, h2]
theorem Sat_c {T : World → Prop} (Tm : TP T) (x : Int) : Ct Go.Proofs.Tryd.prog T 69 [.d (.i .i64 x), .d (.i .i64 32)] true (fun r => r = .d (.i .i64 (clampV x (-2147483648) 2147483647))) := by
  refine Ct_of Tm Go.Proofs.Tryd.func69 rfl rfl Go.Proofs.Tryd.ntmps69 (by simp) (rs := [.tmp 4]) rfl fun E hP hn hT => ?_
  (repeat (first | refine TS.imp ?_ | refine n9 (by decide) ?_))
  refine TR.imp ?_; intro K hK; simp only [go_sem, hP, hn]; (repeat refine vc ?_); refine hK _ ?_; clear K hK
  (repeat (first | refine TS.imp ?_ | refine n9 (by decide) ?_))
  refine TR.imp ?_; intro K hK; simp only [go_sem, hP, hn]; (repeat refine vc ?_); refine c1 (by rw [hP, hT]; exact ends_c Tm) rfl rfl rfl trivial (by simp only [go_sem, hP, hn]; try trivial) (by simp only [go_sem, hP, hn]; try rfl) (by rw [hn]; decide) (by rfl) ?_; simp only [go_sem, hP, hn]; (repeat refine vc ?_); refine hK _ ?_; clear K hK
  (repeat (first | refine TS.imp ?_ | refine n9 (by decide) ?_))
  refine TR.imp ?_; intro K hK; simp only [go_sem, hP, hn]; (repeat refine vc ?_); refine hK _ ?_; clear K hK
  refine Tr.cond rfl (fun hb => ?_) (fun hb => ?_)
  · exact absurd hb (by decide)
  (repeat (first | refine TS.imp ?_ | refine n9 (by decide) ?_))
  refine TR.imp ?_; intro K hK; simp only [go_sem, hP, hn]; (repeat refine vc ?_); refine c1 (by rw [hP, hT]; exact Clamp_c Tm x (-2147483648) 2147483647) rfl rfl rfl trivial (by simp only [go_sem, hP, hn]; try trivial) (by simp only [go_sem, hP, hn]; try rfl) (by rw [hn]; decide) (by rfl) ?_; simp only [go_sem, hP, hn]; (repeat refine vc ?_); refine hK _ ?_; clear K hK
  (repeat (first | refine TS.imp ?_ | refine n9 (by decide) ?_))
  simp only [RetQ, go_sem]
theorem Parts_c {T : World → Prop} (Tm : TP T) (x n : Int) (h0 : -4611686018427387904 ≤ x) (h1 : x ≤ 4611686018427387904) (n0 : 1 ≤ n) (n1 : n ≤ 4611686018427387904) : Ct Go.Proofs.Tryd.prog T 103 [.d (.i .i64 x), .d (.i .i64 n)] true (fun r => r = .tup [.d (.i .i64 (x / n)), .d (.i .i64 (x % n))]) := by
  refine Ct_of Tm Go.Proofs.Tryd.func103 rfl rfl Go.Proofs.Tryd.ntmps103 (by simp) (rs := [.tmp 4, .tmp 5]) rfl fun E hP hn hT => ?_
  (repeat (first | (refine TR.imp ?_; intro K hK; simp only [go_sem, hP, hn]; (repeat refine vc ?_); refine hK _ ?_; clear K hK) | refine TS.imp ?_ | refine n9 (by decide) ?_))
  refine Tr.cond rfl (fun hb => ?_) (fun hb => ?_)
  · exact absurd (by simpa using hb) (show ¬ n < 1 by omega)
  have hb2 := ediv_bounds (x := x) n0
  have e := Int.tmod_add_mul_tdiv x n
  have t1 := Int.tmod_lt_of_pos x (show 0 < n by omega)
  have t2 := Int.lt_tmod_of_pos x (show 0 < n by omega)
  have hp := parts_t (x := x) n0
  have hnz : n ≠ 0 := by omega
  (repeat (first | (refine TR.imp ?_; intro K hK; simp only [go_sem, hP, hn]; (repeat refine vc ?_); refine hK _ ?_; clear K hK) | refine TS.imp ?_ | refine n9 (by decide) ?_))
  (first | refine d1 (.p true 0 (.p true 1 (.p true 2 (.p true 3 (.p true 4 (.p true 5 (.p true 6 (.p true 7 .nil)))))))) [] (by rw [hP]; kernel_rfl) (by kernel_rfl) (by simp only [go_sem, hP, hn]; try simp) (fun _ _ h => h) fun K hK => ?_ | refine d2 (.p true 0 (.p true 1 (.p true 2 (.p true 3 (.p true 4 (.p true 5 (.p true 6 (.p true 7 .nil)))))))) [] (by rw [hP]; kernel_rfl) (by kernel_rfl) (by simp only [go_sem, hP, hn]; try simp) (fun _ _ h => h) fun K hK => ?_ | refine d4 (.p true 0 (.p true 1 (.p true 2 (.p true 3 (.p true 4 (.p true 5 (.p true 6 (.p true 7 .nil)))))))) [] (by rw [hP]; kernel_rfl) (by kernel_rfl) (by simp only [go_sem, hP, hn]; try simp) (fun _ _ h => h) fun K hK => ?_); simp only [go_sem, hP, hn]; (repeat refine vc ?_); refine hK _ ?_; clear K hK
  have hq : wrap64 (x.tdiv n) = x.tdiv n := by
    by_cases h : x.tmod n < 0
    · have := hp.1 h; rw [w64] <;> omega
    · have := hp.2 h; rw [w64] <;> omega
  rw [hq]
  (repeat (first | (refine TR.imp ?_; intro K hK; simp only [go_sem, hP, hn]; (repeat refine vc ?_); refine hK _ ?_; clear K hK) | refine TS.imp ?_ | refine n9 (by decide) ?_))
  refine Tr.cond rfl (fun hr => ?_) (fun hr => ?_)
  · have hr1 : x.tmod n < 0 := by simpa using hr
    have hu := hp.1 hr1
    (repeat (first | (refine TR.imp ?_; intro K hK; simp only [go_sem, hP, hn]; (repeat refine vc ?_); refine hK _ ?_; clear K hK) | refine TS.imp ?_ | refine n9 (by decide) ?_))
    rw [w64 (x := x.tdiv n - 1) (by omega) (by omega), w64 (x := x.tmod n + n) (by omega) (by omega)]
    simp only [RetQ, go_sem]
    rw [hu.1, hu.2]
  · have hr1 : ¬ x.tmod n < 0 := by simpa using hr
    have hu := hp.2 hr1
    (repeat (first | (refine TR.imp ?_; intro K hK; simp only [go_sem, hP, hn]; (repeat refine vc ?_); refine hK _ ?_; clear K hK) | refine TS.imp ?_ | refine n9 (by decide) ?_))
    simp only [RetQ, go_sem]
    rw [hu.1, hu.2]
theorem Up_c {T : World → Prop} (Tm : TP T) (n r : Int) (n0 : 1 ≤ n) (n1 : n ≤ 4611686018427387904) (r0 : 0 ≤ r) (r1 : r < n) : Cg Go.Proofs.Tryd.prog T 104 [(1000, .box 3 [.d (.i .i64 n)]), (1001, .box 3 [.d (.i .i64 r)])] [.ptr 1000 0, .ptr 1001 0] (fun v H => H = [(1000, .box 3 [.d (.i .i64 n)]), (1001, .box 3 [.d (.i .i64 r)])] ∧ v = .d (.b (decide (n ≤ 2 * r)))) := by
  refine Cg_of [1000, 1001] Tm Go.Proofs.Tryd.func104 rfl rfl Go.Proofs.Tryd.ntmps104 (by simp) rfl (rs := [.tmp 2]) rfl fun E hP hn hT hpn => ?_
  (repeat (first | (refine TR.imp ?_; intro K hK; simp only [go_sem, hP, hn]; (repeat refine vc ?_); refine hK _ ?_; clear K hK) | refine TS.imp ?_ | refine n9 (by decide) ?_))
  simp only [RetG, go_sem]; (repeat with_reducible refine vc ?_)
  rw [w64 (x := n - r) (by omega) (by omega), show (decide (0 < n) && decide (n - r ≤ r)) = decide (n ≤ 2 * r) by rw [Bool.eq_iff_iff]; simp only [Bool.and_eq_true, decide_eq_true_eq]; omega]
theorem Div_c {T : World → Prop} (Tm : TP T) (x n : Int) (h0 : -4611686018427387904 ≤ x) (h1 : x ≤ 4611686018427387904) (n0 : 1 ≤ n) (n1 : n ≤ 4611686018427387904) : Cg Go.Proofs.Tryd.prog T 67 [] [.d (.i .i64 x), .d (.i .i64 n)] (fun r H => H = [] ∧ r = .d (.i .i64 (divV x n))) := by
  have hb2 := ediv_bounds (x := x) n0
  have m1 := Int.emod_nonneg x (show n ≠ 0 by omega)
  have m2 := Int.emod_lt_of_pos x (show 0 < n by omega)
  refine Cg_of [] Tm Go.Proofs.Tryd.func67 rfl rfl Go.Proofs.Tryd.ntmps67 (by simp) rfl (rs := [.tmp 4]) rfl fun E hP hn hT hpn => ?_
  (repeat (first | refine TS.imp ?_ | refine n9 (by decide) ?_))
  refine TR.imp ?_; intro K hK; simp only [go_sem, hP, hn]; (repeat refine vc ?_); refine hK _ ?_; clear K hK
  (repeat (first | refine TS.imp ?_ | refine n9 (by decide) ?_))
  refine TR.imp ?_; intro K hK; simp only [go_sem, hP, hn]; (repeat refine vc ?_); refine c1 (by rw [hP, hT]; exact Parts_c Tm x n h0 h1 n0 n1) rfl rfl rfl trivial (by simp only [go_sem, hP, hn]; try trivial) (by simp only [go_sem, hP, hn]; try rfl) (by rw [hn]; decide) (by rfl) ?_; simp only [go_sem, hP, hn]; (repeat refine vc ?_); refine hK _ ?_; clear K hK
  (repeat (first | refine TS.imp ?_ | refine n9 (by decide) ?_))
  refine TR.imp ?_; intro K hK; simp only [go_sem, hP, hn]; (repeat refine vc ?_); refine hK _ ?_; clear K hK
  refine Tr.le (Le.keep [4, 5, 7]) ?_; simp only [List.map_cons, List.map_nil, lk, Nat.reduceEqDiff, reduceIte]
  refine Tr.le (Le.ren 3 1000 (by rw [hpn] <;> rfl) rfl rfl) ?_; simp only [renT, renH, renO, renS, renL, rn, go_sem, hP, hn]
  refine Tr.le (Le.ren 6 1001 (by rw [hpn] <;> rfl) rfl rfl) ?_; simp only [renT, renH, renO, renS, renL, rn, go_sem, hP, hn]
  (repeat (first | refine TS.imp ?_ | refine n9 (by decide) ?_))
  refine TR.imp ?_; intro K hK; simp only [go_sem, hP, hn]
  (repeat refine vc ?_)
  refine CallN_cs (Hi := [(1000, .box 3 [.d (.i .i64 n)]), (1001, .box 3 [.d (.i .i64 (x % n))])] ) (by rw [hP, hT]; exact  Up_c Tm n (x % n) n0 n1 m1 m2) rfl rfl rfl trivial (by simp only [go_sem, hP, hn]; try trivial) (by simp only [go_sem, hP, hn]; try rfl) (by simp only [inH, go_sem, hP, hn]; try simp) (by rw [hn]; decide) ?_; simp only [go_sem, hP, hn]; (repeat refine vc ?_)
  refine hK _ ?_; clear K hK
  unfold divV
  rw [if_neg (show ¬ n < 1 by omega), div_split n0]
  refine Tr.cond rfl (fun hb => ?_) (fun hb => ?_)
  · have hc : n ≤ 2 * (x % n) := by simpa using hb
    (repeat (first | (refine TR.imp ?_; intro K hK; simp only [go_sem, hP, hn]; (repeat refine vc ?_); refine hK _ ?_; clear K hK) | refine TS.imp ?_ | refine n9 (by decide) ?_))
    rw [w64 (x := x / n + 1) (by omega) (by omega)]
    simp only [RetG, go_sem]; (repeat with_reducible refine vc ?_)
    rw [if_pos hc]
  · have hc : ¬ n ≤ 2 * (x % n) := by simpa using hb
    (repeat (first | (refine TR.imp ?_; intro K hK; simp only [go_sem, hP, hn]; (repeat refine vc ?_); refine hK _ ?_; clear K hK) | refine TS.imp ?_ | refine n9 (by decide) ?_))
    simp only [RetG, go_sem]; (repeat with_reducible refine vc ?_)
    rw [if_neg hc, Int.add_zero]
theorem Half_c {T : World → Prop} (Tm : TP T) (p k : Int) (h0 : -4611686018427387904 ≤ p) (h1 : p ≤ 4611686018427387904) (k0 : 0 ≤ k) (k1 : k ≤ 30) : Cg Go.Proofs.Tryd.prog T 71 [] [.d (.i .i64 p), .d (.i .i64 k)] (fun r H => H = [] ∧ r = .d (.i .i64 (halfV p k))) := by
  have hp := pow_two_le k0 k1
  have hs : wrap64 (1 * 2 ^ min k.toNat 64) = 2 ^ k.toNat := by
    have := shl_one ⟨k.toNat, by omega⟩
    rwa [Int.toNat_natCast] at this
  refine Cg_of [] Tm Go.Proofs.Tryd.func71 rfl rfl Go.Proofs.Tryd.ntmps71 (by simp) rfl (rs := [.tmp 4]) rfl fun E hP hn hT hpn => ?_
  (repeat (first | (refine TR.imp ?_; intro K hK; simp only [go_sem, hP, hn]; (repeat refine vc ?_); refine hK _ ?_; clear K hK) | refine TS.imp ?_ | refine n9 (by decide) ?_))
  refine Tr.cond rfl (fun hb => ?_) (fun hb => ?_)
  · exfalso; simp at hb; omega
  (repeat (first | refine TS.imp ?_ | refine n9 (by decide) ?_))
  refine TR.imp ?_; intro K hK; simp only [hs, go_sem, hP, hn]
  (repeat refine vc ?_)
  refine CallN_cs (Hi := [] ) (by rw [hP, hT]; exact  Div_c Tm p (2 ^ k.toNat) h0 h1 hp.1 (by omega)) rfl rfl rfl trivial (by simp only [go_sem, hP, hn]; try trivial) (by simp only [go_sem, hP, hn]; try rfl) (by simp only [inH, go_sem, hP, hn]; try simp) (by rw [hn]; decide) ?_; simp only [go_sem, hP, hn]; (repeat refine vc ?_)
  refine hK _ ?_; clear K hK
  (repeat (first | (refine TR.imp ?_; intro K hK; simp only [go_sem, hP, hn]; (repeat refine vc ?_); refine hK _ ?_; clear K hK) | refine TS.imp ?_ | refine n9 (by decide) ?_))
  simp only [RetG, go_sem]; (repeat with_reducible refine vc ?_)
  unfold halfV
  rw [if_pos (by omega)]
theorem Mul_c {T : World → Prop} (Tm : TP T) (x m : Int) (hx : in32 x) (m0 : 0 ≤ m) (m1 : m ≤ 32767) : Ct Go.Proofs.Tryd.prog T 70 [.d (.i .i64 x), .d (.i .i64 m)] true (fun r => r = .tup [.d (.i .i64 (x * m)), .d (.b true)]) := by
  obtain ⟨hx0, hx1⟩ := hx
  have hm : -2147483648 * 32767 ≤ x * m ∧ x * m ≤ 2147483647 * 32767 := by
    constructor
    · have a1 : -2147483648 * m ≤ x * m := Int.mul_le_mul_of_nonneg_right hx0 m0
      omega
    · have a1 : x * m ≤ 2147483647 * m := Int.mul_le_mul_of_nonneg_right hx1 m0
      omega
  refine Ct_of Tm Go.Proofs.Tryd.func70 rfl rfl Go.Proofs.Tryd.ntmps70 (by simp) (rs := [.tmp 4, .tmp 5]) rfl fun E hP hn hT => ?_
  (repeat (first | (refine TR.imp ?_; intro K hK; simp only [go_sem, hP, hn]; (repeat refine vc ?_); refine hK _ ?_; clear K hK) | refine TS.imp ?_ | refine n9 (by decide) ?_))
  refine Tr.cond rfl (fun hb => ?_) (fun hb => ?_)
  · have hz : x * m = 0 := by
      simp at hb
      rcases hb with h | h <;> simp [h]
    (repeat (first | (refine TR.imp ?_; intro K hK; simp only [go_sem, hP, hn]; (repeat refine vc ?_); refine hK _ ?_; clear K hK) | refine TS.imp ?_ | refine n9 (by decide) ?_))
    simp only [RetQ, go_sem]
    rw [hz]
  · have hz : x ≠ 0 ∧ m ≠ 0 := by
      simp at hb; exact hb
    obtain ⟨hz1, hz2⟩ := hz
    have hw : wrap64 (x * m) = x * m := w64 (by omega) (by omega)
    have hq : Int.tdiv (x * m) m = x := Int.mul_tdiv_cancel x hz2
    (repeat (first | refine TS.imp ?_ | refine n9 (by decide) ?_))
    refine TR.imp ?_; intro K hK; simp only [hw, go_sem, hP, hn]; (repeat refine vc ?_); refine hK _ ?_; clear K hK
    (repeat (first | refine TS.imp ?_ | refine n9 (by decide) ?_))
    refine TR.imp ?_; intro K hK; simp only [hw, hq, go_sem, hP, hn]; (repeat refine vc ?_); refine hK _ ?_; clear K hK
    rw [w64 (x := x) (by omega) (by omega)]
    refine Tr.cond rfl (fun hc => ?_) (fun hc => ?_)
    · exfalso; simp at hc; omega
    (repeat (first | (refine TR.imp ?_; intro K hK; simp only [go_sem, hP, hn]; (repeat refine vc ?_); refine hK _ ?_; clear K hK) | refine TS.imp ?_ | refine n9 (by decide) ?_))
    simp only [RetQ, go_sem]
theorem Scale_c {T : World → Prop} (Tm : TP T) (x m s : Int) (hx : in32 x) : Cg Go.Proofs.Tryd.prog T 41 [] [.d (.i .i64 x), .d (.i .i64 m), .d (.i .i64 s)] (fun r H => H = [] ∧ r = .d (.i .i64 (scaleV x m s))) := by
  refine Cg_of [] Tm Go.Proofs.Tryd.func41 rfl rfl Go.Proofs.Tryd.ntmps41 (by simp) rfl (rs := [.tmp 6]) rfl fun E hP hn hT hpn => ?_
  (repeat (first | (refine TR.imp ?_; intro K hK; simp only [go_sem, hP, hn]; (repeat refine vc ?_); refine hK _ ?_; clear K hK) | refine TS.imp ?_ | refine n9 (by decide) ?_))
  unfold scaleV
  refine Tr.cond rfl (fun hb => ?_) (fun hb => ?_)
  · have h : ¬ (0 ≤ m ∧ m ≤ 32767 ∧ 0 ≤ s ∧ s ≤ 30) := by
      intro h; simp [h] at hb
    (repeat (first | (refine TR.imp ?_; intro K hK; simp only [go_sem, hP, hn]; (repeat refine vc ?_); refine hK _ ?_; clear K hK) | refine TS.imp ?_ | refine n9 (by decide) ?_))
    simp only [RetG, go_sem]; (repeat with_reducible refine vc ?_)
    rw [if_neg h]
  · have h : 0 ≤ m ∧ m ≤ 32767 ∧ 0 ≤ s ∧ s ≤ 30 := by
      simp at hb; omega
    clear hb
    have hm : -2147483648 * 32767 ≤ x * m ∧ x * m ≤ 2147483647 * 32767 := by
      constructor
      · have a1 : -2147483648 * m ≤ x * m := Int.mul_le_mul_of_nonneg_right hx.1 h.1
        omega
      · have a1 : x * m ≤ 2147483647 * m := Int.mul_le_mul_of_nonneg_right hx.2 h.1
        omega
    rw [if_pos h]
    (repeat (first | refine TS.imp ?_ | refine n9 (by decide) ?_))
    refine TR.imp ?_; intro K hK; simp only [go_sem, hP, hn]; (repeat refine vc ?_); refine c1 (by rw [hP, hT]; exact Mul_c Tm x m hx h.1 h.2.1) rfl rfl rfl trivial (by simp only [go_sem, hP, hn]; try trivial) (by simp only [go_sem, hP, hn]; try rfl) (by rw [hn]; decide) (by rfl) ?_; simp only [go_sem, hP, hn]; (repeat refine vc ?_); refine hK _ ?_; clear K hK
    generalize x * m = p at hm ⊢
    (repeat (first | refine TS.imp ?_ | refine n9 (by decide) ?_))
    refine TR.imp ?_; intro K hK; simp only [go_sem, hP, hn]; (repeat refine vc ?_); refine hK _ ?_; clear K hK
    refine Tr.cond rfl (fun hb => ?_) (fun hb => ?_)
    · exact absurd hb (by simp)
    (repeat (first | refine TS.imp ?_ | refine n9 (by decide) ?_))
    refine TR.imp ?_; intro K hK; simp only [go_sem, hP, hn]; (repeat refine vc ?_); refine hK _ ?_; clear K hK
    refine Tr.cond rfl (fun hc => ?_) (fun hc => ?_)
    · exact absurd hc (by simp)
    (repeat (first | refine TS.imp ?_ | refine n9 (by decide) ?_))
    refine TR.imp ?_; intro K hK; simp only [go_sem, hP, hn]
    (repeat refine vc ?_)
    refine CallN_cs (Hi := [] ) (by rw [hP, hT]; exact  Half_c Tm p s (by omega) (by omega) h.2.2.1 h.2.2.2) rfl rfl rfl trivial (by simp only [go_sem, hP, hn]; try trivial) (by simp only [go_sem, hP, hn]; try rfl) (by simp only [inH, go_sem, hP, hn]; try simp) (by rw [hn]; decide) ?_; simp only [go_sem, hP, hn]; (repeat refine vc ?_)
    refine c1 (by rw [hP, hT]; exact Sat_c Tm (halfV p s)) rfl rfl rfl trivial (by simp only [go_sem, hP, hn]; try trivial) (by simp only [go_sem, hP, hn]; try rfl) (by rw [hn]; decide) (by rfl) ?_; simp only [go_sem, hP, hn]; (repeat refine vc ?_)
    refine hK _ ?_; clear K hK
    (repeat (first | (refine TR.imp ?_; intro K hK; simp only [go_sem, hP, hn]; (repeat refine vc ?_); refine hK _ ?_; clear K hK) | refine TS.imp ?_ | refine n9 (by decide) ?_))
    simp only [RetG, go_sem]; (repeat with_reducible refine vc ?_)
theorem fd32 (y : Int) : y.fdiv (2 ^ min 32 64) = y / 4294967296 := by
  rw [show (2 : Int) ^ min 32 64 = 4294967296 by decide]
  exact Int.fdiv_eq_ediv_of_nonneg _ (by decide)
theorem am32 (y : Int) : Go.bits .and .i64 y 4294967295 = y % 4294967296 := and_mask y 32 (by decide)
theorem AddF_c {T : World → Prop} (Tm : TP T) (x n : Int) (hx : in32 x) (hn' : in32 n) : Cg Go.Proofs.Tryd.prog T 68 [(1000, .box 3 [.d (.i .i64 n)]), (1001, .box 3 [.d (.i .i64 32)])] [.d (.i .i64 x), .ptr 1000 0, .ptr 1001 0] (fun r H => H = [(1000, .box 3 [.d (.i .i64 (clampV (n + x) (-2147483648) 2147483647))]), (1001, .box 3 [.d (.i .i64 32)])] ∧ r = .tup []) := by
  obtain ⟨hx0, hx1⟩ := hx
  obtain ⟨hn0, hn1⟩ := hn'
  refine Cg_of [1000, 1001] Tm Go.Proofs.Tryd.func68 rfl rfl Go.Proofs.Tryd.ntmps68 (by simp) rfl (rs := []) rfl fun E hP hn hT hpn => ?_
  have e1 : wrap64 (9223372036854775807 - x) = if 0 ≤ x then 9223372036854775807 - x else wrap64 (9223372036854775807 - x) := by
    split
    · exact w64 (by omega) (by omega)
    · rfl
  have e2 : wrap64 (-9223372036854775808 - x) = if x ≤ 0 then -9223372036854775808 - x else wrap64 (-9223372036854775808 - x) := by
    split
    · exact w64 (by omega) (by omega)
    · rfl
  (repeat (first | refine TS.imp ?_ | refine n9 (by decide) ?_))
  refine TR.imp ?_; intro K hK; simp only [go_sem, hP, hn]; (repeat refine vc ?_); refine hK _ ?_; clear K hK
  refine Tr.cond rfl (fun hb => ?_) (fun hb => ?_)
  · exfalso
    simp only [Bool.and_eq_true, decide_eq_true_eq] at hb
    rw [e1, if_pos (by omega)] at hb
    omega
  (repeat (first | refine TS.imp ?_ | refine n9 (by decide) ?_))
  refine TR.imp ?_; intro K hK; simp only [go_sem, hP, hn]; (repeat refine vc ?_); refine hK _ ?_; clear K hK
  refine Tr.cond rfl (fun hc => ?_) (fun hc => ?_)
  · exfalso
    simp only [Bool.and_eq_true, decide_eq_true_eq] at hc
    rw [e2, if_pos (by omega)] at hc
    omega
  (repeat (first | refine TS.imp ?_ | refine n9 (by decide) ?_))
  refine TR.imp ?_; intro K hK; simp only [go_sem, hP, hn]; (repeat refine vc ?_); refine hK _ ?_; clear K hK
  rw [w64 (x := n + x) (by omega) (by omega)]
  (repeat (first | refine TS.imp ?_ | refine n9 (by decide) ?_))
  refine TR.imp ?_; intro K hK; simp only [go_sem, hP, hn]; (repeat refine vc ?_); refine c1 (by rw [hP, hT]; exact Sat_c Tm (n + x)) rfl rfl rfl trivial (by simp only [go_sem, hP, hn]; try trivial) (by simp only [go_sem, hP, hn]; try rfl) (by rw [hn]; decide) (by rfl) ?_; simp only [go_sem, hP, hn]; (repeat refine vc ?_); refine hK _ ?_; clear K hK
  (repeat (first | refine TS.imp ?_ | refine n9 (by decide) ?_))
  simp only [RetG, go_sem]; (repeat with_reducible refine vc ?_)
theorem add_take (xs : List Int) (i : Nat) (h : i < xs.length) : addV (xs.take (i + 1)) = clampV (addV (xs.take i) + xs[i]) (-2147483648) 2147483647 := by
  unfold addV
  rw [List.take_succ_eq_append_getElem h, List.foldl_append]
  rfl
theorem Add_c {T : World → Prop} (Tm : TP T) (xs : List Int) (hl : xs.length ≤ 65536) (hx : ∀ x ∈ xs, in32 x) : Cg Go.Proofs.Tryd.prog T 37 [] [.d (.i .i64 32), .d (.row [.i .i64 0] (xs.map intC))] (fun r H => H = [] ∧ r = .d (.i .i64 (addV xs))) := by
  refine Cg_of [] Tm Go.Proofs.Tryd.func37 rfl rfl Go.Proofs.Tryd.ntmps37 (by simp) rfl (rs := [.tmp 4]) rfl fun E hP hn hT hpn => ?_
  (repeat (first | (refine TR.imp ?_; intro K hK; simp only [go_sem, hP, hn]; (repeat refine vc ?_); refine hK _ ?_; clear K hK) | refine TS.imp ?_ | refine n9 (by decide) ?_))
  refine Tr.le (Le.keep [1, 4, 5, 6, 10, 11, 12]) ?_; simp only [List.map_cons, List.map_nil, lk, Nat.reduceEqDiff, reduceIte]
  refine Tr.le (Le.ren 5 1000 (by rw [hpn] <;> rfl) rfl rfl) ?_; simp only [renT, renH, renO, renS, renL, rn, go_sem, hP, hn]
  refine Tr.le (Le.ren 2 1001 (by rw [hpn] <;> rfl) rfl rfl) ?_; simp only [renT, renH, renO, renS, renL, rn, go_sem, hP, hn]
  refine Tr.loop (fun m s => ∃ (i : Int), s = ⟨[(5, .ptr 1000 0), (6, .fn 68 [.ptr 1000 0, .ptr 1001 0]), (10, .d (.row [.i .i64 0] (xs.map intC))), (11, .d (.i .i64 xs.length)), (12, .d (.i .i64 i))], [(1000, .box 3 [.d (.i .i64 (addV (xs.take i.toNat)))]), (1001, .box 3 [.d (.i .i64 32)])]⟩ ∧ 0 ≤ i ∧ i + m = xs.length) xs.length ⟨_, (Le.mv (by simp only [go_sem, hP, hn]; first | done | (simp; done) | (simp [intC]; done) | (repeat (first | rfl | constructor))) (by simp only [go_sem, hP, hn]; first | done | (simp; done) | (simp [intC]; done) | (repeat (first | rfl | constructor)))), 0, rfl, by omega, by omega⟩ ?_
  rintro m s ⟨i, rfl, hi, him⟩
  (repeat (first | (refine TR.imp ?_; intro K hK; simp only [go_sem, hP, hn]; (repeat refine vc ?_); refine hK _ ?_; clear K hK) | refine TS.imp ?_ | refine n9 (by decide) ?_))
  refine Tr.cond rfl (fun hb => ?_) (fun hb => ?_)
  · have hi1 : i < xs.length := by simpa using hb
    have hk : i.toNat < xs.length := by omega
    have hrd : rd xs i = xs[i.toNat] := by unfold rd; simp [hk]
    have hxi := hx xs[i.toNat] (List.getElem_mem hk)
    (repeat (first | refine TS.imp ?_ | refine n9 (by decide) ?_))
    refine TR.imp ?_; intro K hK; simp only [go_sem, hP, hn]; (repeat refine vc ?_); refine hK _ ?_; clear K hK
    rw [hrd]
    (repeat (first | refine TS.imp ?_ | refine n9 (by decide) ?_))
    refine TR.imp ?_; intro K hK; simp only [go_sem, hP, hn]
    (repeat refine vc ?_)
    refine CallN_cx (Hi := [(1000, .box 3 [.d (.i .i64 (addV (xs.take i.toNat)))]), (1001, .box 3 [.d (.i .i64 32)])] ) (by rw [hP, hT]; exact  AddF_c Tm xs[i.toNat] (addV (xs.take i.toNat)) hxi (add_in _) ) rfl rfl rfl trivial (by simp only [go_sem, hP, hn]; try trivial) (by simp only [go_sem, hP, hn]; try rfl) (by simp only [inH, go_sem, hP, hn]; try simp) (by rw [hn]; decide) (fun r Ho hr => ?_); obtain  ⟨rfl, rfl⟩ := hr; refine ⟨fun k hk => (by rw [newK_two] at hk; cases hk), ?_⟩; simp only [cgS, newK, touK, go_sem, hP, hn]; (repeat refine vc ?_)
    refine hK _ ?_; clear K hK
    rw [← add_take xs i.toNat hk]
    (repeat (first | (refine TR.imp ?_; intro K hK; simp only [go_sem, hP, hn]; (repeat refine vc ?_); refine hK _ ?_; clear K hK) | refine TS.imp ?_ | refine n9 (by decide) ?_))
    rw [w64 (x := i + 1) (by omega) (by omega)]
    refine ⟨m - 1, _, by omega, ?_, i + 1, rfl, by omega, by omega⟩
    rw [show (i + 1).toNat = i.toNat + 1 by omega]
    exact (Le.mv (by simp only [go_sem, hP, hn]; first | done | (simp; done) | (simp [intC]; done) | (repeat (first | rfl | constructor))) (by simp only [go_sem, hP, hn]; first | done | (simp; done) | (simp [intC]; done) | (repeat (first | rfl | constructor))))
  · have hie : i = xs.length := by have := of_decide_eq_false hb; omega
    subst hie
    rw [Int.toNat_natCast, List.take_length]
    (repeat (first | (refine TR.imp ?_; intro K hK; simp only [go_sem, hP, hn]; (repeat refine vc ?_); refine hK _ ?_; clear K hK) | refine TS.imp ?_ | refine n9 (by decide) ?_))
    simp only [RetG, go_sem]; (repeat with_reducible refine vc ?_)
/-! kernel: the greatest, what is done behind a sum, frames -/
def frE (f : List Int) : List D := [.row [.i .i64 0] (f.map intC)]
def frD (fs : List (List Int)) : D := .row [.nil] (fs.map frE)
def fr (fs : List (List Int)) (i : Int) : List Int := fs.getD i.toNat []
def mostN (xs : List Int) : Nat → Int
  | 0 => 0
  | i + 1 => if rd xs (mostN xs i) < rd xs i then i else mostN xs i
def mostV (xs : List Int) : Int := mostN xs xs.length
/-- what is done behind a sum -/
def Nd.pst (n : Nd) (x : Int) : Int :=
  if (Go.bits .and .i64 n.post 2 != 0) = true then clampV (if (Go.bits .and .i64 n.post 1 != 0) = true then scaleV (clampV x (-2147483648) 2147483647) n.mult n.shift else clampV x (-2147483648) 2147483647) n.low n.high
  else if (Go.bits .and .i64 n.post 1 != 0) = true then scaleV (clampV x (-2147483648) 2147483647) n.mult n.shift else clampV x (-2147483648) 2147483647
section
/-! bound: ends of what weighs -/
structure Rg where
  lo : Int
  hi : Int
  al : Int
  ah : Int
def Rg.ds (r : Rg) : List D := [.i .i64 r.lo, .i .i64 r.hi, .i .i64 r.al, .i .i64 r.ah]
def Rg.cs (r : Rg) : List S := [.d (.i .i64 r.lo), .d (.i .i64 r.hi), .d (.i .i64 r.al), .d (.i .i64 r.ah)]
def e0R : List D := [.i .i64 0, .i .i64 0, .i .i64 0, .i .i64 0]
def rgS (l h : Int) : Rg := ⟨l, h, l, h⟩
attribute [local go_sem] Rg.cs Rg.ds e0R rgS
theorem same20_c {T : World → Prop} (Tm : TP T) (l h : Int) : Ct Go.Proofs.Tryd.prog T 58 [.d (.i .i64 l), .d (.i .i64 h)] true (fun r => r = .agg (rgS l h).cs) := by
  refine Ct_of Tm Go.Proofs.Tryd.func58 rfl rfl Go.Proofs.Tryd.ntmps58 (by simp) (rs := [.cell 4 61]) rfl fun E hP hn hT => ?_
  (repeat (first | (refine TR.imp ?_; intro K hK; simp only [go_sem, hP, hn]; (repeat refine vc ?_); refine hK _ ?_; clear K hK) | refine TS.imp ?_ | refine n9 (by decide) ?_))
  simp only [RetQ, go_sem]
  decide
theorem bpost_c {T : World → Prop} (Tm : TP T) (n : Nd) (x : Int) : Cg Go.Proofs.Tryd.prog T 124 [] [.agg n.cs, .d (.i .i64 x)] (fun r H => H = [] ∧ r = .d (.i .i64 (n.pst x))) := by
  refine Cg_of [] Tm Go.Proofs.Tryd.func124 rfl rfl Go.Proofs.Tryd.ntmps124 (by simp) rfl (rs := [.tmp 4]) rfl fun E hP hn hT hpn => ?_
  (repeat (first | refine TS.imp ?_ | refine n9 (by decide) ?_))
  refine TR.imp ?_; intro K hK; simp only [go_sem, hP, hn]; (repeat refine vc ?_); refine hK _ ?_; clear K hK
  (repeat (first | refine TS.imp ?_ | refine n9 (by decide) ?_))
  refine TR.imp ?_; intro K hK; simp only [go_sem, hP, hn]; (repeat refine vc ?_); refine c1 (by rw [hP, hT]; exact Sat_c Tm x) rfl rfl rfl trivial (by simp only [go_sem, hP, hn]; try trivial) (by simp only [go_sem, hP, hn]; try rfl) (by rw [hn]; decide) (by rfl) ?_; simp only [go_sem, hP, hn]; (repeat refine vc ?_); refine hK _ ?_; clear K hK
  (repeat (first | refine TS.imp ?_ | refine n9 (by decide) ?_))
  refine TR.imp ?_; intro K hK; simp only [go_sem, hP, hn]; (repeat refine vc ?_); refine hK _ ?_; clear K hK
  unfold Nd.pst
  refine Tr.meet (fun s => s = ⟨[(1, .d (.i .i64 (if (Go.bits .and .i64 n.post 1 != 0) = true then scaleV (clampV x (-2147483648) 2147483647) n.mult n.shift else clampV x (-2147483648) 2147483647))), (2, .ptr 2 0)], [(2, .box 27 n.cs)]⟩) ?_ ?_
  rotate_left
  · refine Tr.cond rfl (fun hb => ?_) (fun hb => ?_)
    · (repeat (first | refine TS.imp ?_ | refine n9 (by decide) ?_))
      refine TR.imp ?_; intro K hK; simp only [go_sem, hP, hn]
      (repeat refine vc ?_)
      refine CallN_cs (Hi := [] ) (by rw [hP, hT]; exact  Scale_c Tm (clampV x (-2147483648) 2147483647) n.mult n.shift (clamp32 x)) rfl rfl rfl trivial (by simp only [go_sem, hP, hn]; try trivial) (by simp only [go_sem, hP, hn]; try rfl) (by simp only [inH, go_sem, hP, hn]; try simp) (by rw [hn]; decide) ?_; simp only [go_sem, hP, hn]; (repeat refine vc ?_)
      refine hK _ ?_; clear K hK
      rw [if_pos hb]
      (repeat (first | refine TS.imp ?_ | refine n9 (by decide) ?_))
      exact ⟨_, (Le.mv (by simp only [go_sem, hP, hn]; first | done | (simp; done) | (simp [intC]; done) | (repeat (first | rfl | constructor))) (by simp only [go_sem, hP, hn]; first | done | (simp; done) | (simp [intC]; done) | (repeat (first | rfl | constructor)))), rfl⟩
    · rw [if_neg (by rw [hb]; decide)]
      (repeat (first | refine TS.imp ?_ | refine n9 (by decide) ?_))
      exact ⟨_, (Le.mv (by simp only [go_sem, hP, hn]; first | done | (simp; done) | (simp [intC]; done) | (repeat (first | rfl | constructor))) (by simp only [go_sem, hP, hn]; first | done | (simp; done) | (simp [intC]; done) | (repeat (first | rfl | constructor)))), rfl⟩
  rintro s rfl
  generalize (if (Go.bits .and .i64 n.post 1 != 0) = true then scaleV (clampV x (-2147483648) 2147483647) n.mult n.shift else clampV x (-2147483648) 2147483647) = y
  (repeat (first | refine TS.imp ?_ | refine n9 (by decide) ?_))
  refine TR.imp ?_; intro K hK; simp only [go_sem, hP, hn]; (repeat refine vc ?_); refine hK _ ?_; clear K hK
  refine Tr.cond rfl (fun hb => ?_) (fun hb => ?_)
  · rw [if_pos hb]
    (repeat (first | refine TS.imp ?_ | refine n9 (by decide) ?_))
    refine TR.imp ?_; intro K hK; simp only [go_sem, hP, hn]; (repeat refine vc ?_); refine c1 (by rw [hP, hT]; exact Clamp_c Tm y n.low n.high) rfl rfl rfl trivial (by simp only [go_sem, hP, hn]; try trivial) (by simp only [go_sem, hP, hn]; try rfl) (by rw [hn]; decide) (by rfl) ?_; simp only [go_sem, hP, hn]; (repeat refine vc ?_); refine hK _ ?_; clear K hK
    (repeat (first | (refine TR.imp ?_; intro K hK; simp only [go_sem, hP, hn]; (repeat refine vc ?_); refine hK _ ?_; clear K hK) | refine TS.imp ?_ | refine n9 (by decide) ?_))
    simp only [RetG, go_sem]; (repeat with_reducible refine vc ?_)
  · rw [if_neg (by rw [hb]; decide)]
    (repeat (first | (refine TR.imp ?_; intro K hK; simp only [go_sem, hP, hn]; (repeat refine vc ?_); refine hK _ ?_; clear K hK) | refine TS.imp ?_ | refine n9 (by decide) ?_))
    simp only [RetG, go_sem]; (repeat with_reducible refine vc ?_)
/-- ends of one number, over the first weights -/
def eN (l h : Int) (ws : List Int) (b : Int) : Nat → Int × Int
  | 0 => (b, b)
  | k + 1 => if rd ws k < 0 then (wrap64 ((eN l h ws b k).1 + wrap64 (rd ws k * h)), wrap64 ((eN l h ws b k).2 + wrap64 (rd ws k * l)))
    else (wrap64 ((eN l h ws b k).1 + wrap64 (rd ws k * l)), wrap64 ((eN l h ws b k).2 + wrap64 (rd ws k * h)))
def wsC (n : Nd) (each : Nat) (c : Int) : List Int := (n.ws.take ((c + 1) * each).toNat).drop (c * each).toNat
def endV (n : Nd) (l h : Int) (each : Nat) (c : Int) : Int × Int := eN l h (wsC n each c) (rd n.bs c) each
structure BW (n : Nd) (each : Nat) : Prop where
  b0 : 1 ≤ n.bs.length ∧ n.bs.length ≤ 16
  ws : n.ws.length = n.bs.length * each
  e0 : each ≤ 4096
theorem BW.off {n : Nd} {each : Nat} (h : BW n each) {c : Int} (c0 : 0 ≤ c) (c1 : c < n.bs.length) : 0 ≤ c * each ∧ (c + 1) * (each : Int) = c * each + each ∧ c * each + each ≤ n.ws.length ∧ c * each ≤ 65536 ∧ (wsC n each c).length = each := by
  have h1 := h.b0
  have h2 := h.e0
  have a0 : 0 ≤ c * (each : Int) := Int.mul_nonneg c0 (by omega)
  have a1 : (c + 1) * (each : Int) ≤ n.bs.length * each := Int.mul_le_mul_of_nonneg_right (by omega) (by omega)
  have a2 : (n.ws.length : Int) = n.bs.length * each := by rw [h.ws]; simp
  have a3 := (mul_le c 16 each 4096 c0 (by omega) (by omega) (by omega)).2
  have a4 : (c + 1) * (each : Int) = c * each + each := by rw [Int.add_mul]; omega
  refine ⟨a0, a4, by omega, by omega, ?_⟩
  unfold wsC
  rw [List.length_drop, List.length_take]
  omega
def OB4 (n : Nd) (l h : Int) (each : Nat) : Hp := [(1000, .box 27 n.cs), (1001, .box 3 [.d (.i .i64 each)]), (1002, .box 3 [.d (.i .i64 h)]), (1003, .box 3 [.d (.i .i64 l)])]
attribute [local go_sem] OB4
theorem ends20_c {T : World → Prop} (Tm : TP T) (n : Nd) (l h : Int) (each : Nat) (c : Int) (hB : BW n each) (c0 : 0 ≤ c) (c1 : c < n.bs.length) : Cg Go.Proofs.Tryd.prog T 123 (OB4 n l h each) [.d (.i .i64 c), .ptr 1000 0, .ptr 1001 0, .ptr 1002 0, .ptr 1003 0] (fun r H => H = OB4 n l h each ∧ r = .tup [.d (.i .i64 (endV n l h each c).1), .d (.i .i64 (endV n l h each c).2)]) := by
  obtain ⟨o0, o1, o2, o3, o4⟩ := hB.off c0 c1
  have hb0 := hB.b0
  have he0 := hB.e0
  have g1 : wrap64 (c + 1) = c + 1 := w64 (by omega) (by omega)
  have g2 : wrap64 (c * each) = c * each := w64 (by omega) (by omega)
  have g3 : wrap64 ((c + 1) * each) = (c + 1) * each := w64 (by omega) (by omega)
  refine Cg_of [1000, 1001, 1002, 1003] Tm Go.Proofs.Tryd.func123 rfl rfl Go.Proofs.Tryd.ntmps123 (by simp) rfl (rs := [.tmp 6, .tmp 7]) rfl fun E hP hn hT hpn => ?_
  (repeat (first | refine TS.imp ?_ | refine n9 (by decide) ?_))
  refine TR.imp ?_; intro K hK; simp only [go_sem, hP, hn]; (repeat refine vc ?_); refine hK _ ?_; clear K hK
  (repeat (first | refine TS.imp ?_ | refine n9 (by decide) ?_))
  (first | refine d1 (.p true 0 (.p true 1 (.p true 2 (.p true 3 (.p true 4 (.p true 5 (.p true 6 (.p true 7 (.p true 8 (.p true 9 (.p true 10 (.p true 11 .nil)))))))))))) [] (by rw [hP]; kernel_rfl) (by kernel_rfl) (by simp only [go_sem, hP, hn]; try simp) (fun _ _ h => h) fun K hK => ?_ | refine d2 (.p true 0 (.p true 1 (.p true 2 (.p true 3 (.p true 4 (.p true 5 (.p true 6 (.p true 7 (.p true 8 (.p true 9 (.p true 10 (.p true 11 .nil)))))))))))) [] (by rw [hP]; kernel_rfl) (by kernel_rfl) (by simp only [go_sem, hP, hn]; try simp) (fun _ _ h => h) fun K hK => ?_ | refine d4 (.p true 0 (.p true 1 (.p true 2 (.p true 3 (.p true 4 (.p true 5 (.p true 6 (.p true 7 (.p true 8 (.p true 9 (.p true 10 (.p true 11 .nil)))))))))))) [] (by rw [hP]; kernel_rfl) (by kernel_rfl) (by simp only [go_sem, hP, hn]; try simp) (fun _ _ h => h) fun K hK => ?_); simp only [go_sem, hP, hn]; (repeat refine vc ?_); refine hK _ ?_; clear K hK
  (repeat (first | refine TS.imp ?_ | refine n9 (by decide) ?_))
  refine TR.imp ?_; intro K hK; simp only [g1, g2, g3, rw_slice, go_sem, hP, hn]
  rw [show (n.ws.take ((c + 1) * each).toNat).drop (c * each).toNat = wsC n each c from rfl, o4]
  generalize hW : wsC n each c = W at *
  (repeat refine vc ?_)
  refine hK _ ?_; clear K hK
  (repeat (first | refine TS.imp ?_ | refine n9 (by decide) ?_))
  refine Tr.le (Le.keep [1, 2, 3, 4, 6, 7, 29, 30, 31]) ?_; simp only [List.map_cons, List.map_nil, lk, Nat.reduceEqDiff, reduceIte]
  refine Tr.loop (fun q s => ∃ (k : Int), s = ⟨[(1, .ptr 1000 0), (2, .ptr 1001 0), (3, .ptr 1002 0), (4, .ptr 1003 0), (6, .d (.i .i64 (eN l h W (rd n.bs c) k.toNat).1)), (7, .d (.i .i64 (eN l h W (rd n.bs c) k.toNat).2)), (29, .d (.row [.i .i64 0] (W.map intC))), (30, .d (.i .i64 each)), (31, .d (.i .i64 k))], OB4 n l h each⟩ ∧ 0 ≤ k ∧ k + q = each) each ⟨_, (Le.mv (by simp only [go_sem, hP, hn]; first | done | (simp; done) | (simp [intC]; done) | (repeat (first | rfl | constructor))) (by simp only [go_sem, hP, hn]; first | done | (simp; done) | (simp [intC]; done) | (repeat (first | rfl | constructor)))), 0, rfl, by omega, by omega⟩ ?_
  rintro q s ⟨k, rfl, k0, kq⟩
  have hst : eN l h W (rd n.bs c) (k + 1).toNat = if rd W k < 0 then (wrap64 ((eN l h W (rd n.bs c) k.toNat).1 + wrap64 (rd W k * h)), wrap64 ((eN l h W (rd n.bs c) k.toNat).2 + wrap64 (rd W k * l))) else (wrap64 ((eN l h W (rd n.bs c) k.toNat).1 + wrap64 (rd W k * l)), wrap64 ((eN l h W (rd n.bs c) k.toNat).2 + wrap64 (rd W k * h))) := by
    rw [show (k + 1).toNat = k.toNat + 1 by omega]
    simp only [eN]
    rw [Int.toNat_of_nonneg k0]
  generalize hen : eN l h W (rd n.bs c) k.toNat = en at *
  (repeat (first | refine TS.imp ?_ | refine n9 (by decide) ?_))
  refine TR.imp ?_; intro K hK; simp only [go_sem, hP, hn]; (repeat refine vc ?_); refine hK _ ?_; clear K hK
  (repeat (first | refine TS.imp ?_ | refine n9 (by decide) ?_))
  refine Tr.cond rfl (fun hb => ?_) (fun hb => ?_)
  · have hk : k < each := by simpa using hb
    have hw : wrap64 (k + 1) = k + 1 := w64 (by omega) (by omega)
    clear hb
    (repeat (first | refine TS.imp ?_ | refine n9 (by decide) ?_))
    refine TR.imp ?_; intro K hK; simp only [go_sem, hP, hn]; (repeat refine vc ?_); refine hK _ ?_; clear K hK
    (repeat (first | refine TS.imp ?_ | refine n9 (by decide) ?_))
    refine TR.imp ?_; intro K hK; simp only [go_sem, hP, hn]; (repeat refine vc ?_); refine hK _ ?_; clear K hK
    (repeat (first | refine TS.imp ?_ | refine n9 (by decide) ?_))
    refine Tr.cond rfl (fun hc => ?_) (fun hc => ?_)
    · have hc1 : rd W k < 0 := by simpa using hc
      rw [if_pos hc1] at hst
      (first | refine d1 (.p true 0 (.p true 1 (.p true 2 (.p true 3 (.p true 4 (.p true 5 (.p true 6 (.p true 7 (.p true 8 (.p true 9 (.p true 10 (.p true 11 .nil)))))))))))) [] (by rw [hP]; kernel_rfl) (by kernel_rfl) (by simp only [go_sem, hP, hn]; try simp) (fun _ _ h => h) fun K hK => ?_ | refine d2 (.p true 0 (.p true 1 (.p true 2 (.p true 3 (.p true 4 (.p true 5 (.p true 6 (.p true 7 (.p true 8 (.p true 9 (.p true 10 (.p true 11 .nil)))))))))))) [] (by rw [hP]; kernel_rfl) (by kernel_rfl) (by simp only [go_sem, hP, hn]; try simp) (fun _ _ h => h) fun K hK => ?_ | refine d4 (.p true 0 (.p true 1 (.p true 2 (.p true 3 (.p true 4 (.p true 5 (.p true 6 (.p true 7 (.p true 8 (.p true 9 (.p true 10 (.p true 11 .nil)))))))))))) [] (by rw [hP]; kernel_rfl) (by kernel_rfl) (by simp only [go_sem, hP, hn]; try simp) (fun _ _ h => h) fun K hK => ?_); simp only [go_sem, hP, hn]
      (repeat refine vc ?_)
      refine hK _ ?_; clear K hK
      (repeat (first | refine TS.imp ?_ | refine n9 (by decide) ?_))
      refine TR.imp ?_; intro K hK; simp only [go_sem, hP, hn]; (repeat refine vc ?_); refine hK _ ?_; clear K hK
      (repeat (first | refine TS.imp ?_ | refine n9 (by decide) ?_))
      rw [hw]
      refine ⟨q - 1, _, by omega, ?_, k + 1, rfl, by omega, by omega⟩
      rw [hst]
      exact (Le.mv (by simp only [go_sem, hP, hn]; first | done | (simp; done) | (simp [intC]; done) | (repeat (first | rfl | constructor))) (by simp only [go_sem, hP, hn]; first | done | (simp; done) | (simp [intC]; done) | (repeat (first | rfl | constructor))))
    · have hc1 : ¬ rd W k < 0 := by simpa using hc
      rw [if_neg hc1] at hst
      (first | refine d1 (.p true 0 (.p true 1 (.p true 2 (.p true 3 (.p true 4 (.p true 5 (.p true 6 (.p true 7 (.p true 8 (.p true 9 (.p true 10 (.p true 11 .nil)))))))))))) [] (by rw [hP]; kernel_rfl) (by kernel_rfl) (by simp only [go_sem, hP, hn]; try simp) (fun _ _ h => h) fun K hK => ?_ | refine d2 (.p true 0 (.p true 1 (.p true 2 (.p true 3 (.p true 4 (.p true 5 (.p true 6 (.p true 7 (.p true 8 (.p true 9 (.p true 10 (.p true 11 .nil)))))))))))) [] (by rw [hP]; kernel_rfl) (by kernel_rfl) (by simp only [go_sem, hP, hn]; try simp) (fun _ _ h => h) fun K hK => ?_ | refine d4 (.p true 0 (.p true 1 (.p true 2 (.p true 3 (.p true 4 (.p true 5 (.p true 6 (.p true 7 (.p true 8 (.p true 9 (.p true 10 (.p true 11 .nil)))))))))))) [] (by rw [hP]; kernel_rfl) (by kernel_rfl) (by simp only [go_sem, hP, hn]; try simp) (fun _ _ h => h) fun K hK => ?_); simp only [go_sem, hP, hn]
      (repeat refine vc ?_)
      refine hK _ ?_; clear K hK
      (repeat (first | refine TS.imp ?_ | refine n9 (by decide) ?_))
      refine TR.imp ?_; intro K hK; simp only [go_sem, hP, hn]; (repeat refine vc ?_); refine hK _ ?_; clear K hK
      (repeat (first | refine TS.imp ?_ | refine n9 (by decide) ?_))
      rw [hw]
      refine ⟨q - 1, _, by omega, ?_, k + 1, rfl, by omega, by omega⟩
      rw [hst]
      exact (Le.mv (by simp only [go_sem, hP, hn]; first | done | (simp; done) | (simp [intC]; done) | (repeat (first | rfl | constructor))) (by simp only [go_sem, hP, hn]; first | done | (simp; done) | (simp [intC]; done) | (repeat (first | rfl | constructor))))
  · have hk : k = each := by have := of_decide_eq_false hb; omega
    subst hk
    rw [Int.toNat_natCast] at hen
    subst hen
    (repeat (first | refine TS.imp ?_ | refine n9 (by decide) ?_))
    refine TR.imp ?_; intro K hK; simp only [go_sem, hP, hn]; (repeat refine vc ?_); refine hK _ ?_; clear K hK
    (repeat (first | refine TS.imp ?_ | refine n9 (by decide) ?_))
    simp only [RetG, go_sem]; (repeat with_reducible refine vc ?_)
    unfold endV
    rw [hW]
def aN (n : Nd) (l h : Int) (each : Nat) : Nat → Int × Int
  | 0 => endV n l h each 0
  | c + 1 => (mn (aN n l h each c).1 (endV n l h each (c : Nat)).1, mx (aN n l h each c).2 (endV n l h each (c : Nat)).2)
def weighedR (n : Nd) (l h : Int) (each : Nat) : Rg := ⟨n.pst (aN n l h each n.bs.length).1, n.pst (aN n l h each n.bs.length).2, (aN n l h each n.bs.length).1, (aN n l h each n.bs.length).2⟩
theorem weighed20_c {T : World → Prop} (Tm : TP T) (n : Nd) (l h : Int) (each : Nat) (hB : BW n each) : Cg Go.Proofs.Tryd.prog T 100 [] [.agg n.cs, .d (.i .i64 l), .d (.i .i64 h)] (fun r H => H = [] ∧ r = .agg (weighedR n l h each).cs) := by
  have hb0 := hB.b0
  have hd : Int.tdiv (n.ws.length : Int) n.bs.length = each := by
    rw [hB.ws]
    rw [Int.natCast_mul]
    exact Int.mul_tdiv_cancel_left _ (by omega)
  have he0 := hB.e0
  have hd2 : wrap64 (each : Int) = each := w64 (by omega) (by omega)
  refine Cg_of [] Tm Go.Proofs.Tryd.func100 rfl rfl Go.Proofs.Tryd.ntmps100 (by simp) rfl (rs := [.cell 6 61]) rfl fun E hP hn hT hpn => ?_
  (repeat (first | refine TS.imp ?_ | refine n9 (by decide) ?_))
  refine TR.imp ?_; intro K hK; simp only [go_sem, hP, hn]; (repeat refine vc ?_); refine hK _ ?_; clear K hK
  (repeat (first | refine TS.imp ?_ | refine n9 (by decide) ?_))
  refine TR.imp ?_; intro K hK; simp only [hd, hd2, go_sem, hP, hn]
  (repeat refine vc ?_)
  refine hK _ ?_; clear K hK
  (repeat (first | refine TS.imp ?_ | refine n9 (by decide) ?_))
  refine Tr.le (Le.keep [3, 4, 5, 6, 7]) ?_; simp only [List.map_cons, List.map_nil, lk, Nat.reduceEqDiff, reduceIte]
  refine Tr.le (Le.ren 3 1000 (by rw [hpn] <;> rfl) rfl rfl) ?_; simp only [renT, renH, renO, renS, renL, rn, go_sem, hP, hn]
  refine Tr.le (Le.ren 7 1001 (by rw [hpn] <;> rfl) rfl rfl) ?_; simp only [renT, renH, renO, renS, renL, rn, go_sem, hP, hn]
  refine Tr.le (Le.ren 5 1002 (by rw [hpn] <;> rfl) rfl rfl) ?_; simp only [renT, renH, renO, renS, renL, rn, go_sem, hP, hn]
  refine Tr.le (Le.ren 4 1003 (by rw [hpn] <;> rfl) rfl rfl) ?_; simp only [renT, renH, renO, renS, renL, rn, go_sem, hP, hn]
  (repeat (first | refine TS.imp ?_ | refine n9 (by decide) ?_))
  refine TR.imp ?_; intro K hK; simp only [go_sem, hP, hn]; (repeat refine vc ?_); refine hK _ ?_; clear K hK
  (repeat (first | refine TS.imp ?_ | refine n9 (by decide) ?_))
  refine TR.imp ?_; intro K hK; simp only [go_sem, hP, hn]; (repeat refine vc ?_); refine hK _ ?_; clear K hK
  (repeat (first | refine TS.imp ?_ | refine n9 (by decide) ?_))
  refine TR.imp ?_; intro K hK; simp only [go_sem, hP, hn]
  (repeat refine vc ?_)
  refine CallN_cs (Hi := OB4 n l h each ) (by rw [hP, hT]; exact  ends20_c Tm n l h each 0 hB (by omega) (by omega)) rfl rfl rfl trivial (by simp only [go_sem, hP, hn]; try trivial) (by simp only [go_sem, hP, hn]; try rfl) (by simp only [inH, go_sem, hP, hn]; try simp) (by rw [hn]; decide) ?_; simp only [go_sem, hP, hn]; (repeat refine vc ?_)
  refine hK _ ?_; clear K hK
  (repeat (first | refine TS.imp ?_ | refine n9 (by decide) ?_))
  refine TR.imp ?_; intro K hK; simp only [go_sem, hP, hn]; (repeat refine vc ?_); refine hK _ ?_; clear K hK
  (repeat (first | refine TS.imp ?_ | refine n9 (by decide) ?_))
  refine Tr.le (Le.keep [3, 6, 8, 9, 30, 31]) ?_; simp only [List.map_cons, List.map_nil, lk, Nat.reduceEqDiff, reduceIte]
  refine Tr.loop (fun q s => ∃ (c : Int), s = ⟨[(3, .ptr 1000 0), (6, .ptr 6 0), (8, .fn 123 [.ptr 1000 0, .ptr 1001 0, .ptr 1002 0, .ptr 1003 0]), (9, .ptr 9 0), (30, .d (.i .i64 n.bs.length)), (31, .d (.i .i64 c))], OB4 n l h each ++ [(6, .box 61 [.d (.i .i64 0), .d (.i .i64 0), .d (.i .i64 0), .d (.i .i64 0)]), (9, .box 61 [.d (.i .i64 0), .d (.i .i64 0), .d (.i .i64 (aN n l h each c.toNat).1), .d (.i .i64 (aN n l h each c.toNat).2)])]⟩ ∧ 0 ≤ c ∧ c + q = n.bs.length) n.bs.length ⟨_, (Le.mv (by simp only [go_sem, hP, hn]; first | done | (simp; done) | (simp [intC]; done) | (repeat (first | rfl | constructor))) (by simp only [go_sem, hP, hn]; first | done | (simp; done) | (simp [intC]; done) | (repeat (first | rfl | constructor)))), 0, rfl, by omega, by omega⟩ ?_
  rintro q s ⟨c, rfl, c0, cq⟩
  have hst : aN n l h each (c + 1).toNat = (mn (aN n l h each c.toNat).1 (endV n l h each c).1, mx (aN n l h each c.toNat).2 (endV n l h each c).2) := by
    rw [show (c + 1).toNat = c.toNat + 1 by omega]
    simp only [aN]
    rw [Int.toNat_of_nonneg c0]
  generalize hen : aN n l h each c.toNat = en at *
  (repeat (first | refine TS.imp ?_ | refine n9 (by decide) ?_))
  refine TR.imp ?_; intro K hK; simp only [go_sem, hP, hn]; (repeat refine vc ?_); refine hK _ ?_; clear K hK
  (repeat (first | refine TS.imp ?_ | refine n9 (by decide) ?_))
  refine Tr.cond rfl (fun hb => ?_) (fun hb => ?_)
  · have hc : c < n.bs.length := by simpa using hb
    have hw : wrap64 (c + 1) = c + 1 := w64 (by omega) (by omega)
    clear hb
    (repeat (first | refine TS.imp ?_ | refine n9 (by decide) ?_))
    refine TR.imp ?_; intro K hK; simp only [go_sem, hP, hn]; (repeat refine vc ?_); refine hK _ ?_; clear K hK
    (repeat (first | refine TS.imp ?_ | refine n9 (by decide) ?_))
    refine TR.imp ?_; intro K hK; simp only [go_sem, hP, hn]
    (repeat refine vc ?_)
    refine CallN_cs (Hi := OB4 n l h each ) (by rw [hP, hT]; exact  ends20_c Tm n l h each c hB c0 hc) rfl rfl rfl trivial (by simp only [go_sem, hP, hn]; try trivial) (by simp only [go_sem, hP, hn]; try rfl) (by simp only [inH, go_sem, hP, hn]; try simp) (by rw [hn]; decide) ?_; simp only [go_sem, hP, hn]; (repeat refine vc ?_)
    refine hK _ ?_; clear K hK
    refine Tr.le (Le.keep [3, 6, 8, 9, 11, 12, 30, 31]) ?_; simp only [List.map_cons, List.map_nil, lk, Nat.reduceEqDiff, reduceIte]
    (repeat (first | refine TS.imp ?_ | refine n9 (by decide) ?_))
    refine TR.imp ?_; intro K hK; simp only [go_sem, hP, hn]; (repeat refine vc ?_); refine hK _ ?_; clear K hK
    (repeat (first | refine TS.imp ?_ | refine n9 (by decide) ?_))
    refine TR.imp ?_; intro K hK; simp only [go_sem, hP, hn]; (repeat refine vc ?_); refine hK _ ?_; clear K hK
    (repeat (first | refine TS.imp ?_ | refine n9 (by decide) ?_))
    rw [hw]
    refine ⟨q - 1, _, by omega, ?_, c + 1, rfl, by omega, by omega⟩
    rw [hst]
    exact (Le.mv (by simp only [go_sem, hP, hn]; first | done | (simp; done) | (simp [intC]; done) | (repeat (first | rfl | constructor))) (by simp only [go_sem, hP, hn]; first | done | (simp; done) | (simp [intC]; done) | (repeat (first | rfl | constructor))))
  · have hc : c = n.bs.length := by have := of_decide_eq_false hb; omega
    subst hc
    rw [Int.toNat_natCast] at hen
    subst hen
    refine Tr.le (Le.keep [3, 6, 9]) ?_; simp only [List.map_cons, List.map_nil, lk, Nat.reduceEqDiff, reduceIte]
    (repeat (first | refine TS.imp ?_ | refine n9 (by decide) ?_))
    (first | refine d1 (.p true 0 (.p true 1 (.p true 4 (.p true 5 (.alt 2 (.alt 3 (.alt 6 (.p true 8 (.alt 7 (.alt 9 (.p true 10 (.alt 11 .nil .nil)) .nil) .nil)) .nil) (.alt 6 (.alt 3 (.p true 8 (.alt 7 (.alt 9 (.p true 10 (.alt 11 .nil .nil)) .nil) .nil)) .nil) .nil)) (.alt 6 (.alt 2 (.alt 3 (.p true 8 (.alt 7 (.alt 9 (.p true 10 (.alt 11 .nil .nil)) .nil) .nil)) .nil) .nil) .nil)))))) [9] (by rw [hP]; kernel_rfl) (by kernel_rfl) (by simp only [go_sem, hP, hn]; try simp) (fun _ _ h => h) fun K hK => ?_ | refine d2 (.p true 0 (.p true 1 (.p true 4 (.p true 5 (.alt 2 (.alt 3 (.alt 6 (.p true 8 (.alt 7 (.alt 9 (.p true 10 (.alt 11 .nil .nil)) .nil) .nil)) .nil) (.alt 6 (.alt 3 (.p true 8 (.alt 7 (.alt 9 (.p true 10 (.alt 11 .nil .nil)) .nil) .nil)) .nil) .nil)) (.alt 6 (.alt 2 (.alt 3 (.p true 8 (.alt 7 (.alt 9 (.p true 10 (.alt 11 .nil .nil)) .nil) .nil)) .nil) .nil) .nil)))))) [9] (by rw [hP]; kernel_rfl) (by kernel_rfl) (by simp only [go_sem, hP, hn]; try simp) (fun _ _ h => h) fun K hK => ?_ | refine d4 (.p true 0 (.p true 1 (.p true 4 (.p true 5 (.alt 2 (.alt 3 (.alt 6 (.p true 8 (.alt 7 (.alt 9 (.p true 10 (.alt 11 .nil .nil)) .nil) .nil)) .nil) (.alt 6 (.alt 3 (.p true 8 (.alt 7 (.alt 9 (.p true 10 (.alt 11 .nil .nil)) .nil) .nil)) .nil) .nil)) (.alt 6 (.alt 2 (.alt 3 (.p true 8 (.alt 7 (.alt 9 (.p true 10 (.alt 11 .nil .nil)) .nil) .nil)) .nil) .nil) .nil)))))) [9] (by rw [hP]; kernel_rfl) (by kernel_rfl) (by simp only [go_sem, hP, hn]; try simp) (fun _ _ h => h) fun K hK => ?_); simp only [go_sem, hP, hn]
    (repeat' (first | (refine ⟨by first | trivial | omega | (simp <;> omega) | (simp +contextual; done) | (clear hK; grind), ?_⟩) | (refine And.intro ?_ ?_))); (all_goals (first | (first | trivial | omega | (simp <;> omega) | (simp +contextual; done)) | (refine CallP_cs (by rw [hP, hT]; exact bpost_c Tm n (aN n l h each n.bs.length).1) rfl rfl rfl trivial (by simp only [go_sem, hP, hn]; try trivial) (by simp only [go_sem, hP, hn]; try rfl) (by rw [hn]; decide) ?_; simp only [go_sem, hP, hn]; (repeat refine vc ?_)))); (repeat' (first | (refine ⟨by first | trivial | omega | (simp <;> omega) | (simp +contextual; done) | (clear hK; grind), ?_⟩) | (refine And.intro ?_ ?_))); (all_goals (first | (first | trivial | omega | (simp <;> omega) | (simp +contextual; done)) | (refine CallP_cs (by rw [hP, hT]; exact bpost_c Tm n (aN n l h each n.bs.length).2) rfl rfl rfl trivial (by simp only [go_sem, hP, hn]; try trivial) (by simp only [go_sem, hP, hn]; try rfl) (by rw [hn]; decide) ?_; simp only [go_sem, hP, hn]; (repeat refine vc ?_)))); (repeat' (first | (refine ⟨by first | trivial | omega | (simp <;> omega) | (simp +contextual; done) | (clear hK; grind), ?_⟩) | (refine And.intro ?_ ?_))); (all_goals (first | (first | trivial | omega | (simp <;> omega) | (simp +contextual; done)) | (refine hK _ ?_; clear K hK;  (repeat (first | refine TS.imp ?_ | refine n9 (by decide) ?_)); refine TR.imp ?_; intro K hK; simp only [go_sem, hP, hn]; (repeat refine vc ?_); refine hK _ ?_; clear K hK; (repeat (first | refine TS.imp ?_ | refine n9 (by decide) ?_)); simp only [RetG, go_sem]; (repeat with_reducible refine vc ?_); rfl)))
end
theorem has_k {T : World → Prop} (Tk : KT T) (n : Nd) (x : Int) : Ct Go.Proofs.Tryd.prog T 88 [.agg n.cs, .d (.i .i64 x)] true (fun r => r = .d (.b (n.has x))) := by
  refine Ct_ofG Tk.m Go.Proofs.Tryd.func88 rfl rfl Go.Proofs.Tryd.ntmps88 (by simp) (rs := [.tmp 4]) rfl (g0 := 0) fun E hP hn hT hF => ?_
  (repeat (first | (refine TR.imp ?_; intro K hK; simp only [go_sem, hP, hn]; (repeat refine vc ?_); refine hK _ ?_; clear K hK) | refine TS.imp ?_ | refine n9 (by decide) ?_))
  refine Tr.cond rfl (fun hb => ?_) (fun hb => ?_)
  · (repeat (first | (refine TR.imp ?_; intro K hK; simp only [go_sem, hP, hn]; (repeat refine vc ?_); refine hK _ ?_; clear K hK) | refine TS.imp ?_ | refine n9 (by decide) ?_))
    simp only [RetQ, go_sem]
    unfold Nd.has
    simp only [Bool.or_eq_true, decide_eq_true_eq] at hb
    by_cases h1 : n.k < 1
    · rw [if_pos h1]
    · rw [if_neg h1, if_pos (by omega)]
  · simp only [Bool.or_eq_false_iff, decide_eq_false_iff_not] at hb
    (repeat (first | (refine TR.imp ?_; intro K hK; simp only [go_sem, hP, hn]; (repeat refine vc ?_); refine hK _ ?_; clear K hK) | refine TS.imp ?_ | refine n9 (by decide) ?_))
    refine TR.imp ?_; intro K hK; simp only [go_sem, hP, hn]
    (repeat refine vc ?_)
    refine CallN_glob (x := .i .i64 (hasT n.k)) rfl rfl rfl (by rw [hP]; exact ar120) (by rw [hP]; exact ok3) (by rw [hP]; exact sz3) (by omega) (by omega) (fun w h => tab_at Tk n.k (by omega) (by omega) w (hT ▸ h)) hF (by decide) (by rw [hn]; decide) ?_
    simp only [go_sem, hP, hn]
    (repeat refine vc ?_)
    refine hK _ ?_; clear K hK
    (repeat (first | (refine TR.imp ?_; intro K hK; simp only [go_sem, hP, hn]; (repeat refine vc ?_); refine hK _ ?_; clear K hK) | refine TS.imp ?_ | refine n9 (by decide) ?_))
    have e : n.has x = (Go.bits .and .i64 (has2 (has1 (hasT n.k) n.post) n.post) x != 0) := by
      unfold Nd.has
      rw [if_neg (by omega), if_neg (by omega)]
    refine Tr.cond rfl (fun hb => ?_) (fun hb => ?_)
    · (repeat (first | (refine TR.imp ?_; intro K hK; simp only [go_sem, hP, hn]; (repeat refine vc ?_); refine hK _ ?_; clear K hK) | refine TS.imp ?_ | refine n9 (by decide) ?_))
      refine Tr.cond rfl (fun hb => ?_) (fun hb => ?_)
      · (repeat (first | (refine TR.imp ?_; intro K hK; simp only [go_sem, hP, hn]; (repeat refine vc ?_); refine hK _ ?_; clear K hK) | refine TS.imp ?_ | refine n9 (by decide) ?_))
        simp only [RetQ, go_sem]
        rw [e]; unfold has1 has2; simp_all
      · (repeat (first | (refine TR.imp ?_; intro K hK; simp only [go_sem, hP, hn]; (repeat refine vc ?_); refine hK _ ?_; clear K hK) | refine TS.imp ?_ | refine n9 (by decide) ?_))
        simp only [RetQ, go_sem]
        rw [e]; unfold has1 has2; simp_all
    · (repeat (first | (refine TR.imp ?_; intro K hK; simp only [go_sem, hP, hn]; (repeat refine vc ?_); refine hK _ ?_; clear K hK) | refine TS.imp ?_ | refine n9 (by decide) ?_))
      refine Tr.cond rfl (fun hb => ?_) (fun hb => ?_)
      · (repeat (first | (refine TR.imp ?_; intro K hK; simp only [go_sem, hP, hn]; (repeat refine vc ?_); refine hK _ ?_; clear K hK) | refine TS.imp ?_ | refine n9 (by decide) ?_))
        simp only [RetQ, go_sem]
        rw [e]; unfold has1 has2; simp_all
      · (repeat (first | (refine TR.imp ?_; intro K hK; simp only [go_sem, hP, hn]; (repeat refine vc ?_); refine hK _ ?_; clear K hK) | refine TS.imp ?_ | refine n9 (by decide) ?_))
        simp only [RetQ, go_sem]
        rw [e]; unfold has1 has2; simp_all
theorem Span_k {T : World → Prop} (Tk : KT T) (n : Nd) : Ct Go.Proofs.Tryd.prog T 112 [.agg n.cs] true (fun r => r = .d (.i .i64 n.span)) := by
  refine Ct_of Tk.m Go.Proofs.Tryd.func112 rfl rfl Go.Proofs.Tryd.ntmps112 (by simp) (rs := [.tmp 2]) rfl fun E hP hn hT => ?_
  (repeat (first | (refine TR.imp ?_; intro K hK; simp only [go_sem, hP, hn]; (repeat refine vc ?_); refine hK _ ?_; clear K hK) | refine TS.imp ?_ | refine n9 (by decide) ?_))
  refine TR.imp ?_; intro K hK; simp only [go_sem, hP, hn]; (repeat refine vc ?_); refine c1 (by rw [hP, hT]; exact has_k Tk n 1) rfl rfl rfl trivial (by simp only [go_sem, hP, hn]; try trivial) (by simp only [go_sem, hP, hn]; try rfl) (by rw [hn]; decide) (by rfl) ?_; simp only [go_sem, hP, hn]; (repeat refine vc ?_); refine hK _ ?_; clear K hK
  refine Tr.cond rfl (fun h1 => ?_) (fun h1 => ?_)
  · (repeat (first | (refine TR.imp ?_; intro K hK; simp only [go_sem, hP, hn]; (repeat refine vc ?_); refine hK _ ?_; clear K hK) | refine TS.imp ?_ | refine n9 (by decide) ?_))
    simp only [RetQ, go_sem]
    unfold Nd.span; rw [h1, if_pos rfl]
  · (repeat (first | (refine TR.imp ?_; intro K hK; simp only [go_sem, hP, hn]; (repeat refine vc ?_); refine hK _ ?_; clear K hK) | refine TS.imp ?_ | refine n9 (by decide) ?_))
    refine TR.imp ?_; intro K hK; simp only [go_sem, hP, hn]; (repeat refine vc ?_); refine c1 (by rw [hP, hT]; exact has_k Tk n 16) rfl rfl rfl trivial (by simp only [go_sem, hP, hn]; try trivial) (by simp only [go_sem, hP, hn]; try rfl) (by rw [hn]; decide) (by rfl) ?_; simp only [go_sem, hP, hn]; (repeat refine vc ?_); refine hK _ ?_; clear K hK
    refine Tr.cond rfl (fun h2 => ?_) (fun h2 => ?_)
    · (repeat (first | (refine TR.imp ?_; intro K hK; simp only [go_sem, hP, hn]; (repeat refine vc ?_); refine hK _ ?_; clear K hK) | refine TS.imp ?_ | refine n9 (by decide) ?_))
      simp only [RetQ, go_sem]
      unfold Nd.span; rw [h1, h2]; rfl
    · (repeat (first | (refine TR.imp ?_; intro K hK; simp only [go_sem, hP, hn]; (repeat refine vc ?_); refine hK _ ?_; clear K hK) | refine TS.imp ?_ | refine n9 (by decide) ?_))
      simp only [RetQ, go_sem]
      unfold Nd.span; rw [h1, h2]; rfl
theorem Step_k {T : World → Prop} (Tk : KT T) (n : Nd) : Ct Go.Proofs.Tryd.prog T 129 [.agg n.cs] true (fun r => r = .d (.i .i64 n.stp)) := by
  refine Ct_of Tk.m Go.Proofs.Tryd.func129 rfl rfl Go.Proofs.Tryd.ntmps129 (by simp) (rs := [.tmp 2]) rfl fun E hP hn hT => ?_
  (repeat (first | (refine TR.imp ?_; intro K hK; simp only [go_sem, hP, hn]; (repeat refine vc ?_); refine hK _ ?_; clear K hK) | refine TS.imp ?_ | refine n9 (by decide) ?_))
  refine TR.imp ?_; intro K hK; simp only [go_sem, hP, hn]; (repeat refine vc ?_); refine c1 (by rw [hP, hT]; exact has_k Tk n 1) rfl rfl rfl trivial (by simp only [go_sem, hP, hn]; try trivial) (by simp only [go_sem, hP, hn]; try rfl) (by rw [hn]; decide) (by rfl) ?_; simp only [go_sem, hP, hn]; (repeat refine vc ?_); refine hK _ ?_; clear K hK
  refine Tr.cond rfl (fun h1 => ?_) (fun h1 => ?_)
  · (repeat (first | (refine TR.imp ?_; intro K hK; simp only [go_sem, hP, hn]; (repeat refine vc ?_); refine hK _ ?_; clear K hK) | refine TS.imp ?_ | refine n9 (by decide) ?_))
    simp only [RetQ, go_sem]
    unfold Nd.stp; rw [h1]; rfl
  · (repeat (first | (refine TR.imp ?_; intro K hK; simp only [go_sem, hP, hn]; (repeat refine vc ?_); refine hK _ ?_; clear K hK) | refine TS.imp ?_ | refine n9 (by decide) ?_))
    simp only [RetQ, go_sem]
    unfold Nd.stp; rw [h1]; rfl
theorem in_k {T : World → Prop} (Tm : TP T) (x lo hi : Int) : Ct Go.Proofs.Tryd.prog T 87 [.d (.i .i64 x), .d (.i .i64 lo), .d (.i .i64 hi)] true (fun r => r = .d (.b (inB x lo hi))) := by
  refine Ct_of Tm Go.Proofs.Tryd.func87 rfl rfl Go.Proofs.Tryd.ntmps87 (by simp) (rs := [.tmp 6]) rfl fun E hP hn hT => ?_
  (repeat (first | (refine TR.imp ?_; intro K hK; simp only [go_sem, hP, hn]; (repeat refine vc ?_); refine hK _ ?_; clear K hK) | refine TS.imp ?_ | refine n9 (by decide) ?_))
  simp only [RetQ, go_sem]
  unfold inB
  cases decide (lo ≤ x) <;> rfl
theorem every_k {T : World → Prop} (Tm : TP T) (l : List Int) (lo hi : Int) (hl : l.length ≤ 65536) : Ct Go.Proofs.Tryd.prog T 86 [.d (.row [.i .i64 0] (l.map intC)), .d (.i .i64 lo), .d (.i .i64 hi)] true (fun r => r = .d (.b (l.all (inB · lo hi)))) := by
  refine Ct_of Tm Go.Proofs.Tryd.func86 rfl rfl Go.Proofs.Tryd.ntmps86 (by simp) (rs := [.tmp 6]) rfl fun E hP hn hT => ?_
  (repeat (first | (refine TR.imp ?_; intro K hK; simp only [go_sem, hP, hn]; (repeat refine vc ?_); refine hK _ ?_; clear K hK) | refine TS.imp ?_ | refine n9 (by decide) ?_))
  refine Tr.loop (fun n s => ∃ j : Int, s = ⟨[(1, .d (.i .i64 lo)), (2, .d (.i .i64 hi)), (9, .d (.row [.i .i64 0] (l.map intC))), (10, .d (.i .i64 l.length)), (11, .d (.i .i64 j))], []⟩ ∧ 0 ≤ j ∧ j + n = l.length ∧ l.all (inB · lo hi) = (l.drop j.toNat).all (inB · lo hi)) l.length ⟨_, (Le.mv (by simp only [go_sem, hP, hn]; first | done | (simp; done) | (simp [intC]; done) | (repeat (first | rfl | constructor))) (by simp only [go_sem, hP, hn]; first | done | (simp; done) | (simp [intC]; done) | (repeat (first | rfl | constructor)))), 0, rfl, by omega, by omega, by simp⟩ ?_
  rintro n s ⟨j, rfl, h0, h1, h2⟩
  (repeat (first | (refine TR.imp ?_; intro K hK; simp only [go_sem, hP, hn]; (repeat refine vc ?_); refine hK _ ?_; clear K hK) | refine TS.imp ?_ | refine n9 (by decide) ?_))
  refine Tr.cond rfl (fun hb => ?_) (fun hb => ?_)
  · have hj : j < l.length := by simpa using hb
    (repeat (first | (refine TR.imp ?_; intro K hK; simp only [go_sem, hP, hn]; (repeat refine vc ?_); refine hK _ ?_; clear K hK) | refine TS.imp ?_ | refine n9 (by decide) ?_))
    refine TR.imp ?_; intro K hK; simp only [go_sem, hP, hn]; (repeat refine vc ?_); refine c1 (by rw [hP, hT]; exact in_k Tm (rd l j) lo hi) rfl rfl rfl trivial (by simp only [go_sem, hP, hn]; try trivial) (by simp only [go_sem, hP, hn]; try rfl) (by rw [hn]; decide) (by rfl) ?_; simp only [go_sem, hP, hn]; (repeat refine vc ?_); refine hK _ ?_; clear K hK
    refine Tr.cond rfl (fun hc => ?_) (fun hc => ?_)
    · (repeat (first | (refine TR.imp ?_; intro K hK; simp only [go_sem, hP, hn]; (repeat refine vc ?_); refine hK _ ?_; clear K hK) | refine TS.imp ?_ | refine n9 (by decide) ?_))
      simp only [RetQ, go_sem]
      rw [h2, drop_rd h0 hj]
      simp_all
    · (repeat (first | (refine TR.imp ?_; intro K hK; simp only [go_sem, hP, hn]; (repeat refine vc ?_); refine hK _ ?_; clear K hK) | refine TS.imp ?_ | refine n9 (by decide) ?_))
      rw [w64 (by omega) (by omega)]
      refine ⟨n - 1, _, by omega, ?_, j + 1, rfl, by omega, by omega, ?_⟩
      · exact (Le.mv (by simp only [go_sem, hP, hn]; first | done | (simp; done) | (simp [intC]; done) | (repeat (first | rfl | constructor))) (by simp only [go_sem, hP, hn]; first | done | (simp; done) | (simp [intC]; done) | (repeat (first | rfl | constructor))))
      rw [h2, drop_rd h0 hj, List.all_cons]
      simp_all
  · (repeat (first | (refine TR.imp ?_; intro K hK; simp only [go_sem, hP, hn]; (repeat refine vc ?_); refine hK _ ?_; clear K hK) | refine TS.imp ?_ | refine n9 (by decide) ?_))
    simp only [RetQ, go_sem]
    rw [h2, drop_end (by simpa using hb)]
    rfl
section
attribute [local go_sem] Rg.cs Rg.ds e0R rgS
theorem Pads_k {T : World → Prop} (Tk : KT T) (n : Nd) : Ct Go.Proofs.Tryd.prog T 99 [.agg n.cs] true (fun r => r = .tup [.d (.i .i64 n.padL), .d (.i .i64 n.padR)]) := by
  refine Ct_of Tk.m Go.Proofs.Tryd.func99 rfl rfl Go.Proofs.Tryd.ntmps99 (by simp) (rs := [.tmp 2, .tmp 3]) rfl fun E hP hn hT => ?_
  (repeat (first | refine TS.imp ?_ | refine n9 (by decide) ?_))
  refine TR.imp ?_; intro K hK; simp only [go_sem, hP, hn]; (repeat refine vc ?_); refine hK _ ?_; clear K hK
  (repeat (first | refine TS.imp ?_ | refine n9 (by decide) ?_))
  refine TR.imp ?_; intro K hK; simp only [go_sem, hP, hn]; (repeat refine vc ?_); refine c1 (by rw [hP, hT]; exact has_k Tk n 1) rfl rfl rfl trivial (by simp only [go_sem, hP, hn]; try trivial) (by simp only [go_sem, hP, hn]; try rfl) (by rw [hn]; decide) (by rfl) ?_; simp only [go_sem, hP, hn]; (repeat refine vc ?_); refine hK _ ?_; clear K hK
  (repeat (first | refine TS.imp ?_ | refine n9 (by decide) ?_))
  refine Tr.cond rfl (fun h1 => ?_) (fun h1 => ?_)
  · (repeat (first | refine TS.imp ?_ | refine n9 (by decide) ?_))
    (first | refine d1 (.p true 0 (.p true 1 (.p true 2 (.p true 3 (.p true 4 (.p true 5 .nil)))))) [] (by rw [hP]; kernel_rfl) (by kernel_rfl) (by simp only [go_sem, hP, hn]; try simp) (fun _ _ h => h) fun K hK => ?_ | refine d2 (.p true 0 (.p true 1 (.p true 2 (.p true 3 (.p true 4 (.p true 5 .nil)))))) [] (by rw [hP]; kernel_rfl) (by kernel_rfl) (by simp only [go_sem, hP, hn]; try simp) (fun _ _ h => h) fun K hK => ?_ | refine d4 (.p true 0 (.p true 1 (.p true 2 (.p true 3 (.p true 4 (.p true 5 .nil)))))) [] (by rw [hP]; kernel_rfl) (by kernel_rfl) (by simp only [go_sem, hP, hn]; try simp) (fun _ _ h => h) fun K hK => ?_); simp only [go_sem, hP, hn]; (repeat refine vc ?_); refine hK _ ?_; clear K hK
    (repeat (first | (refine TR.imp ?_; intro K hK; simp only [go_sem, hP, hn]; (repeat refine vc ?_); refine hK _ ?_; clear K hK) | refine TS.imp ?_ | refine n9 (by decide) ?_))
    simp only [RetQ, go_sem]
    unfold Nd.padL Nd.padR; rw [h1]; simp
  · (repeat (first | refine TS.imp ?_ | refine n9 (by decide) ?_))
    refine TR.imp ?_; intro K hK; simp only [go_sem, hP, hn]; (repeat refine vc ?_); refine c1 (by rw [hP, hT]; exact has_k Tk n 16) rfl rfl rfl trivial (by simp only [go_sem, hP, hn]; try trivial) (by simp only [go_sem, hP, hn]; try rfl) (by rw [hn]; decide) (by rfl) ?_; simp only [go_sem, hP, hn]; (repeat refine vc ?_); refine hK _ ?_; clear K hK
    (repeat (first | refine TS.imp ?_ | refine n9 (by decide) ?_))
    refine Tr.cond rfl (fun h2 => ?_) (fun h2 => ?_)
    · (repeat (first | (refine TR.imp ?_; intro K hK; simp only [go_sem, hP, hn]; (repeat refine vc ?_); refine hK _ ?_; clear K hK) | refine TS.imp ?_ | refine n9 (by decide) ?_))
      simp only [RetQ, go_sem]
      unfold Nd.padL Nd.padR; rw [h1, h2]; simp
    · (repeat (first | (refine TR.imp ?_; intro K hK; simp only [go_sem, hP, hn]; (repeat refine vc ?_); refine hK _ ?_; clear K hK) | refine TS.imp ?_ | refine n9 (by decide) ?_))
      simp only [RetQ, go_sem]
      unfold Nd.padL Nd.padR; rw [h1, h2]; simp
def rg (ins : List Rg) (j : Int) : Rg := ins.getD j.toNat ⟨0, 0, 0, 0⟩
theorem rw_rg (ins : List Rg) (j : Int) (h0 : 0 ≤ j) (h1 : j < ins.length) : (ins.map Rg.ds).getD j.toNat [.i .i64 0, .i .i64 0, .i .i64 0, .i .i64 0] = [.i .i64 (rg ins j).lo, .i .i64 (rg ins j).hi, .i .i64 (rg ins j).al, .i .i64 (rg ins j).ah] := by
  have hk : j.toNat < ins.length := by omega
  unfold rg
  simp [List.getD, hk, Rg.ds]
theorem rg_mem {ins : List Rg} {j : Int} (h0 : 0 ≤ j) (h1 : j < ins.length) : rg ins j ∈ ins := by
  have hk : j.toNat < ins.length := by omega
  unfold rg
  rw [List.getD_eq_getElem?_getD, List.getElem?_eq_getElem hk]
  exact List.getElem_mem hk
/-- the least, and the greatest end, over the first inputs; what they add up to -/
def mnA (ins : List Rg) : Nat → Int
  | 0 => (rg ins 0).lo
  | j + 1 => mn (mnA ins j) (rg ins j).lo
def mxA (ins : List Rg) : Nat → Int
  | 0 => (rg ins 0).hi
  | j + 1 => mx (mxA ins j) (rg ins j).hi
def slA (ins : List Rg) : Nat → Int
  | 0 => 0
  | j + 1 => wrap64 (slA ins j + (rg ins j).lo)
def shA (ins : List Rg) : Nat → Int
  | 0 => 0
  | j + 1 => wrap64 (shA ins j + (rg ins j).hi)
def nodeL (n : Nd) (ins : List Rg) : Int := if 0 < wrap64 (n.padL + n.padR) then mn (mnA ins ins.length) 0 else mnA ins ins.length
def nodeH (n : Nd) (ins : List Rg) : Int := if 0 < wrap64 (n.padL + n.padR) then mx (mxA ins ins.length) 0 else mxA ins ins.length
def nodeR (n : Nd) (width : Int) (ins : List Rg) (each : Nat) : Rg :=
  if rWeighs n.k = true then weighedR n (nodeL n ins) (nodeH n ins) each
  else if n.k = 4 ∨ n.k = 12 then ⟨nodeL n ins, nodeH n ins, wrap64 (n.size * nodeL n ins), wrap64 (n.size * nodeH n ins)⟩
  else if n.k = 7 then ⟨addV (ins.map Rg.lo), addV (ins.map Rg.hi), slA ins ins.length, shA ins ins.length⟩
  else if n.k = 9 then rgS (clampV (nodeL n ins) n.low n.high) (clampV (nodeH n ins) n.low n.high)
  else if n.k = 10 then rgS (scaleV (nodeL n ins) n.mult n.shift) (scaleV (nodeH n ins) n.mult n.shift)
  else if n.k = 11 then rgS 0 (wrap64 (width - 1))
  else rgS (nodeL n ins) (nodeH n ins)
structure NOk (n : Nd) (ins : List Rg) (each : Nat) : Prop where
  i0 : 1 ≤ ins.length ∧ ins.length ≤ 16
  i32 : ∀ r ∈ ins, in32 r.lo ∧ in32 r.hi
  bw : rWeighs n.k = true → BW n each
theorem mnmx32 {ins : List Rg} (h : ∀ r ∈ ins, in32 r.lo ∧ in32 r.hi) (h0 : 1 ≤ ins.length) : ∀ j, j ≤ ins.length → in32 (mnA ins j) ∧ in32 (mxA ins j)
  | 0, _ => by
    have := h _ (rg_mem (j := 0) (by omega) (by omega))
    simpa only [mnA, mxA] using this
  | j + 1, hj => by
    have ih := mnmx32 h h0 j (by omega)
    have := h _ (rg_mem (j := j) (by omega) (by omega))
    simp only [mnA, mxA, mn, mx]
    refine ⟨?_, ?_⟩
    · split
      · exact this.1
      · exact ih.1
    · split
      · exact this.2
      · exact ih.2
theorem nodeLH32 {n : Nd} {ins : List Rg} {each : Nat} (h : NOk n ins each) : in32 (nodeL n ins) ∧ in32 (nodeH n ins) := by
  have := mnmx32 h.i32 h.i0.1 ins.length (Nat.le_refl _)
  unfold nodeL nodeH mn mx
  unfold in32 at *
  refine ⟨?_, ?_⟩ <;> (split <;> try split) <;> omega
theorem node20_c {T : World → Prop} (Tk : KT T) (n : Nd) (width : Int) (ins : List Rg) (each : Nat) (h : NOk n ins each) : Cg Go.Proofs.Tryd.prog T 60 [] [.agg n.cs, .d (.i .i64 width), .d (.row e0R (ins.map Rg.ds))] (fun r H => H = [] ∧ r = .agg (nodeR n width ins each).cs) := by
  have hi0 := h.i0
  have hr0 : (ins.map Rg.ds).getD 0 [.i .i64 0, .i .i64 0, .i .i64 0, .i .i64 0] = [.i .i64 (rg ins 0).lo, .i .i64 (rg ins 0).hi, .i .i64 (rg ins 0).al, .i .i64 (rg ins 0).ah] := rw_rg ins 0 (by decide) (by omega)
  refine Cg_of [] Tk.m Go.Proofs.Tryd.func60 rfl rfl Go.Proofs.Tryd.ntmps60 (by simp) rfl (rs := [.cell 6 61]) rfl fun E hP hn hT hpn => ?_
  (repeat (first | refine TS.imp ?_ | refine n9 (by decide) ?_))
  refine TR.imp ?_; intro K hK; simp only [go_sem, hP, hn]; (repeat refine vc ?_); refine hK _ ?_; clear K hK
  (repeat (first | refine TS.imp ?_ | refine n9 (by decide) ?_))
  (first | refine d1 (.p true 0 (.p true 1 (.p true 2 (.p true 3 (.p true 4 (.p true 5 (.p true 6 (.p true 7 (.p true 8 (.p true 9 .nil)))))))))) [] (by rw [hP]; kernel_rfl) (by kernel_rfl) (by simp only [go_sem, hP, hn]; try simp) (fun _ _ h => h) fun K hK => ?_ | refine d2 (.p true 0 (.p true 1 (.p true 2 (.p true 3 (.p true 4 (.p true 5 (.p true 6 (.p true 7 (.p true 8 (.p true 9 .nil)))))))))) [] (by rw [hP]; kernel_rfl) (by kernel_rfl) (by simp only [go_sem, hP, hn]; try simp) (fun _ _ h => h) fun K hK => ?_ | refine d4 (.p true 0 (.p true 1 (.p true 2 (.p true 3 (.p true 4 (.p true 5 (.p true 6 (.p true 7 (.p true 8 (.p true 9 .nil)))))))))) [] (by rw [hP]; kernel_rfl) (by kernel_rfl) (by simp only [go_sem, hP, hn]; try simp) (fun _ _ h => h) fun K hK => ?_); simp only [go_sem, hP, hn]
  rw [hr0]
  simp only [go_sem, hP, hn]
  (repeat refine vc ?_)
  refine hK _ ?_; clear K hK
  refine Tr.le (Le.keep [1, 2, 3, 6, 7, 8]) ?_; simp only [List.map_cons, List.map_nil, lk, Nat.reduceEqDiff, reduceIte]
  (repeat (first | refine TS.imp ?_ | refine n9 (by decide) ?_))
  refine TR.imp ?_; intro K hK; simp only [go_sem, hP, hn]; (repeat refine vc ?_); refine hK _ ?_; clear K hK
  refine Tr.le (Le.nilslot 3001 9 3 [.i .i64 0] rfl (by rw [hpn] <;> rfl) rfl rfl) ?_
  refine Tr.le (Le.nilslot 3002 10 3 [.i .i64 0] rfl (by rw [hpn] <;> rfl) rfl rfl) ?_
  (repeat (first | refine TS.imp ?_ | refine n9 (by decide) ?_))
  refine TR.imp ?_; intro K hK; simp only [go_sem, hP, hn]; (repeat refine vc ?_); refine hK _ ?_; clear K hK
  (repeat (first | refine TS.imp ?_ | refine n9 (by decide) ?_))
  refine TR.imp ?_; intro K hK; simp only [go_sem, hP, hn]; (repeat refine vc ?_); refine hK _ ?_; clear K hK
  (repeat (first | refine TS.imp ?_ | refine n9 (by decide) ?_))
  refine Tr.le (Le.keep [1, 3, 6, 7, 8, 9, 10, 11, 25, 26, 27]) ?_; simp only [List.map_cons, List.map_nil, lk, Nat.reduceEqDiff, reduceIte]
  refine Tr.loop (fun q s => ∃ (j : Int), s = ⟨[(1, .d (.i .i64 width)), (3, .ptr 3 0), (6, .ptr 6 0), (7, .d (.i .i64 (mnA ins j.toNat))), (8, .d (.i .i64 (mxA ins j.toNat))), (9, .own 3001), (10, .own 3002), (11, .ptr 11 0), (25, .d (.row e0R (ins.map Rg.ds))), (26, .d (.i .i64 ins.length)), (27, .d (.i .i64 j))], [(3, .box 27 n.cs), (6, .box 61 [.d (.i .i64 0), .d (.i .i64 0), .d (.i .i64 0), .d (.i .i64 0)]), (11, .box 61 [.d (.i .i64 0), .d (.i .i64 0), .d (.i .i64 (slA ins j.toNat)), .d (.i .i64 (shA ins j.toNat))]), (3001, .row 3 [.i .i64 0] (((ins.map Rg.lo).take j.toNat).map intC)), (3002, .row 3 [.i .i64 0] (((ins.map Rg.hi).take j.toNat).map intC))]⟩ ∧ 0 ≤ j ∧ j + q = ins.length) ins.length ⟨_, (Le.mv (by simp only [go_sem, hP, hn]; first | done | (simp; done) | (simp [intC]; done) | (repeat (first | rfl | constructor))) (by simp only [go_sem, hP, hn]; first | done | (simp; done) | (simp [intC]; done) | (repeat (first | rfl | constructor)))), 0, rfl, by omega, by omega⟩ ?_
  rintro q s ⟨j, rfl, j0, jq⟩
  have hst : mnA ins (j + 1).toNat = mn (mnA ins j.toNat) (rg ins j).lo ∧ mxA ins (j + 1).toNat = mx (mxA ins j.toNat) (rg ins j).hi ∧ slA ins (j + 1).toNat = wrap64 (slA ins j.toNat + (rg ins j).lo) ∧ shA ins (j + 1).toNat = wrap64 (shA ins j.toNat + (rg ins j).hi) := by
    rw [show (j + 1).toNat = j.toNat + 1 by omega]
    simp only [mnA, mxA, slA, shA]
    rw [Int.toNat_of_nonneg j0]
    exact ⟨rfl, rfl, rfl, rfl⟩
  (repeat (first | refine TS.imp ?_ | refine n9 (by decide) ?_))
  refine TR.imp ?_; intro K hK; simp only [go_sem, hP, hn]; (repeat refine vc ?_); refine hK _ ?_; clear K hK
  (repeat (first | refine TS.imp ?_ | refine n9 (by decide) ?_))
  refine Tr.cond rfl (fun hb => ?_) (fun hb => ?_)
  · have hj : j < ins.length := by simpa using hb
    have hrj := rw_rg ins j j0 hj
    have htl : ((ins.map Rg.lo).take (j + 1).toNat) = (ins.map Rg.lo).take j.toNat ++ [(rg ins j).lo] ∧ ((ins.map Rg.hi).take (j + 1).toNat) = (ins.map Rg.hi).take j.toNat ++ [(rg ins j).hi] := by
      have e1 : rd (ins.map Rg.lo) j = (rg ins j).lo := by
        have hk : j.toNat < ins.length := by omega
        simp [rd, rg, List.getD, hk]
      have e2 : rd (ins.map Rg.hi) j = (rg ins j).hi := by
        have hk : j.toNat < ins.length := by omega
        simp [rd, rg, List.getD, hk]
      exact ⟨by rw [take_rd j0 (by simpa using hj), e1], by rw [take_rd j0 (by simpa using hj), e2]⟩
    have hll : ((ins.map Rg.lo).take j.toNat).length ≤ 16 ∧ ((ins.map Rg.hi).take j.toNat).length ≤ 16 := by simp; omega
    generalize mnA ins j.toNat = a at *
    generalize mxA ins j.toNat = b at *
    generalize slA ins j.toNat = c at *
    generalize shA ins j.toNat = d at *
    generalize (ins.map Rg.lo).take j.toNat = L at *
    generalize (ins.map Rg.hi).take j.toNat = M at *
    generalize rg ins j = x at *
    clear hb
    (repeat (first | refine TS.imp ?_ | refine n9 (by decide) ?_))
    refine TR.imp ?_; intro K hK; simp only [go_sem, hP, hn]
    rw [hrj]
    simp only [go_sem, hP, hn]
    (repeat refine vc ?_)
    refine hK _ ?_; clear K hK
    (repeat (first | refine TS.imp ?_ | refine n9 (by decide) ?_))
    (first | refine d1 (.p true 0 (.p true 1 (.p true 2 (.p true 3 (.p true 4 (.p true 5 (.p true 6 (.p true 7 (.p true 8 (.p true 9 .nil)))))))))) [] (by rw [hP]; kernel_rfl) (by kernel_rfl) (by simp only [go_sem, hP, hn]; try simp) (fun _ _ h => h) fun K hK => ?_ | refine d2 (.p true 0 (.p true 1 (.p true 2 (.p true 3 (.p true 4 (.p true 5 (.p true 6 (.p true 7 (.p true 8 (.p true 9 .nil)))))))))) [] (by rw [hP]; kernel_rfl) (by kernel_rfl) (by simp only [go_sem, hP, hn]; try simp) (fun _ _ h => h) fun K hK => ?_ | refine d4 (.p true 0 (.p true 1 (.p true 2 (.p true 3 (.p true 4 (.p true 5 (.p true 6 (.p true 7 (.p true 8 (.p true 9 .nil)))))))))) [] (by rw [hP]; kernel_rfl) (by kernel_rfl) (by simp only [go_sem, hP, hn]; try simp) (fun _ _ h => h) fun K hK => ?_); simp only [go_sem, hP, hn]; (repeat refine vc ?_); refine hK _ ?_; clear K hK
    refine Tr.le (Le.keep [1, 3, 6, 7, 8, 9, 10, 11, 13, 25, 26, 27]) ?_; simp only [List.map_cons, List.map_nil, lk, Nat.reduceEqDiff, reduceIte]
    refine Tr.seq ?_
    refine Tr.meet (fun s => s = ⟨[(1, .d (.i .i64 width)), (3, .ptr 3 0), (6, .ptr 6 0), (7, .d (.i .i64 (mn a x.lo))), (8, .d (.i .i64 (mx b x.hi))), (9, .own 43), (10, .own 48), (11, .ptr 11 0), (13, .ptr 13 0), (25, .d (.row e0R (ins.map Rg.ds))), (26, .d (.i .i64 ins.length)), (27, .d (.i .i64 j))], [(3, .box 27 n.cs), (6, .box 61 [.d (.i .i64 0), .d (.i .i64 0), .d (.i .i64 0), .d (.i .i64 0)]), (11, .box 61 [.d (.i .i64 0), .d (.i .i64 0), .d (.i .i64 c), .d (.i .i64 d)]), (13, .box 61 x.cs), (43, .row 3 [.i .i64 0] ((L ++ [x.lo]).map intC)), (48, .row 3 [.i .i64 0] ((M ++ [x.hi]).map intC))]⟩) ?_ ?_
    rotate_left
    · (first | refine d1 (.p true 0 (.p true 1 (.p true 2 (.p true 5 (.p true 6 (.p true 7 (.alt 3 (.alt 4 (.alt 8 (.alt 9 (.p false 10 (.p false 11 .nil)) .nil) .nil) (.alt 8 (.alt 4 (.alt 9 (.p false 10 (.p false 11 .nil)) .nil) .nil) .nil)) (.alt 8 (.alt 3 (.alt 4 (.alt 9 (.p false 10 (.p false 11 .nil)) .nil) .nil) .nil) .nil)))))))) [3001, 3002] (by rw [hP]; kernel_rfl) (by kernel_rfl) (by simp only [go_sem, hP, hn]; try simp) (fun _ _ h => h) fun K hK => ?_ | refine d2 (.p true 0 (.p true 1 (.p true 2 (.p true 5 (.p true 6 (.p true 7 (.alt 3 (.alt 4 (.alt 8 (.alt 9 (.p false 10 (.p false 11 .nil)) .nil) .nil) (.alt 8 (.alt 4 (.alt 9 (.p false 10 (.p false 11 .nil)) .nil) .nil) .nil)) (.alt 8 (.alt 3 (.alt 4 (.alt 9 (.p false 10 (.p false 11 .nil)) .nil) .nil) .nil) .nil)))))))) [3001, 3002] (by rw [hP]; kernel_rfl) (by kernel_rfl) (by simp only [go_sem, hP, hn]; try simp) (fun _ _ h => h) fun K hK => ?_ | refine d4 (.p true 0 (.p true 1 (.p true 2 (.p true 5 (.p true 6 (.p true 7 (.alt 3 (.alt 4 (.alt 8 (.alt 9 (.p false 10 (.p false 11 .nil)) .nil) .nil) (.alt 8 (.alt 4 (.alt 9 (.p false 10 (.p false 11 .nil)) .nil) .nil) .nil)) (.alt 8 (.alt 3 (.alt 4 (.alt 9 (.p false 10 (.p false 11 .nil)) .nil) .nil) .nil) .nil)))))))) [3001, 3002] (by rw [hP]; kernel_rfl) (by kernel_rfl) (by simp only [go_sem, hP, hn]; try simp) (fun _ _ h => h) fun K hK => ?_); simp only [go_sem, hP, hn]
      (repeat' (first | (refine ⟨by first | trivial | omega | (simp <;> omega) | fail, ?_⟩) | (refine And.intro ?_ ?_)))
      all_goals (first | trivial | omega | (simp <;> omega) | (refine hK _ ?_; (repeat (first | refine TS.imp ?_ | refine n9 (by decide) ?_)); exact ⟨_, (Le.mv (by simp only [go_sem, hP, hn]; first | done | (simp; done) | (simp [intC]; done) | (repeat (first | rfl | constructor))) (by simp only [go_sem, hP, hn]; first | done | (simp; done) | (simp [intC]; done) | (repeat (first | rfl | constructor)))), rfl⟩))
    rintro s rfl
    have hw : wrap64 (j + 1) = j + 1 := w64 (by omega) (by omega)
    (first | refine d1 (.p true 0 (.p true 2 (.p true 3 (.p true 5 (.p true 7 (.p true 8 (.alt 1 (.p false 4 (.alt 6 (.p false 9 (.p true 10 (.alt 11 (.p true 12 (.alt 13 .nil .nil)) .nil))) .nil)) (.alt 6 (.p false 9 (.alt 1 (.p false 4 (.p true 10 (.alt 11 (.p true 12 (.alt 13 .nil .nil)) .nil))) .nil)) .nil)))))))) [11] (by rw [hP]; kernel_rfl) (by kernel_rfl) (by simp only [go_sem, hP, hn]; try simp) (fun _ _ h => h) fun K hK => ?_ | refine d2 (.p true 0 (.p true 2 (.p true 3 (.p true 5 (.p true 7 (.p true 8 (.alt 1 (.p false 4 (.alt 6 (.p false 9 (.p true 10 (.alt 11 (.p true 12 (.alt 13 .nil .nil)) .nil))) .nil)) (.alt 6 (.p false 9 (.alt 1 (.p false 4 (.p true 10 (.alt 11 (.p true 12 (.alt 13 .nil .nil)) .nil))) .nil)) .nil)))))))) [11] (by rw [hP]; kernel_rfl) (by kernel_rfl) (by simp only [go_sem, hP, hn]; try simp) (fun _ _ h => h) fun K hK => ?_ | refine d4 (.p true 0 (.p true 2 (.p true 3 (.p true 5 (.p true 7 (.p true 8 (.alt 1 (.p false 4 (.alt 6 (.p false 9 (.p true 10 (.alt 11 (.p true 12 (.alt 13 .nil .nil)) .nil))) .nil)) (.alt 6 (.p false 9 (.alt 1 (.p false 4 (.p true 10 (.alt 11 (.p true 12 (.alt 13 .nil .nil)) .nil))) .nil)) .nil)))))))) [11] (by rw [hP]; kernel_rfl) (by kernel_rfl) (by simp only [go_sem, hP, hn]; try simp) (fun _ _ h => h) fun K hK => ?_); simp only [go_sem, hP, hn]
    (repeat' (first | (refine ⟨by first | trivial | omega | (simp <;> omega) | fail, ?_⟩) | (refine And.intro ?_ ?_)))
    all_goals (first | trivial | omega | (simp <;> omega) | (refine hK _ ?_; clear K hK; (repeat (first | refine TS.imp ?_ | refine n9 (by decide) ?_)); refine TR.imp ?_; intro K hK; simp only [go_sem, hP, hn]; (repeat refine vc ?_); refine hK _ ?_; clear K hK; (repeat (first | refine TS.imp ?_ | refine n9 (by decide) ?_)); rw [hw]; refine ⟨q - 1, _, by omega, ?_, j + 1, rfl, by omega, by omega⟩; rw [hst.1, hst.2.1, hst.2.2.1, hst.2.2.2, htl.1, htl.2]; refine Le.trans (b := ⟨[(1, .d (.i .i64 width)), (3, .ptr 3 0), (6, .ptr 6 0), (7, .d (.i .i64 (mn a x.lo))), (8, .d (.i .i64 (mx b x.hi))), (9, .own 43), (10, .own 48), (11, .ptr 11 0), (25, .d (.row e0R (ins.map Rg.ds))), (26, .d (.i .i64 ins.length)), (27, .d (.i .i64 (j + 1)))], [(3, .box 27 n.cs), (6, .box 61 [.d (.i .i64 0), .d (.i .i64 0), .d (.i .i64 0), .d (.i .i64 0)]), (11, .box 61 [.d (.i .i64 0), .d (.i .i64 0), .d (.i .i64 (wrap64 (c + x.lo))), .d (.i .i64 (wrap64 (d + x.hi)))]), (43, .row 3 [.i .i64 0] ((L ++ [x.lo]).map intC)), (48, .row 3 [.i .i64 0] ((M ++ [x.hi]).map intC))]⟩) (Le.mv (by simp only [go_sem, hP, hn]; first | done | (simp; done) | (simp [intC]; done) | (repeat (first | rfl | constructor))) (by simp only [go_sem, hP, hn]; first | done | (simp; done) | (simp [intC]; done) | (repeat (first | rfl | constructor)))) ?_; refine Le.trans (Le.ren 43 3001 (by rw [hpn] <;> rfl) rfl rfl) ?_; simp only [renT, renH, renO, renS, renL, rn, go_sem, hP, hn]; refine Le.trans (Le.ren 48 3002 (by rw [hpn] <;> rfl) rfl rfl) ?_; simp only [renT, renH, renO, renS, renL, rn, go_sem, hP, hn]; exact (Le.mv (by simp only [go_sem, hP, hn]; first | done | (simp; done) | (simp [intC]; done) | (repeat (first | rfl | constructor))) (by simp only [go_sem, hP, hn]; first | done | (simp; done) | (simp [intC]; done) | (repeat (first | rfl | constructor))))))
  · have hj : j = ins.length := by have := of_decide_eq_false hb; omega
    subst hj
    clear hb hst
    rw [Int.toNat_natCast, List.take_of_length_le (by simp), List.take_of_length_le (by simp)]
    have hLH := nodeLH32 h
    have hlo : ∀ x ∈ ins.map Rg.lo, in32 x := fun x hx => by obtain ⟨r, hr, rfl⟩ := List.mem_map.1 hx; exact (h.i32 r hr).1
    have hhi : ∀ x ∈ ins.map Rg.hi, in32 x := fun x hx => by obtain ⟨r, hr, rfl⟩ := List.mem_map.1 hx; exact (h.i32 r hr).2
    have hll : (ins.map Rg.lo).length ≤ 65536 ∧ (ins.map Rg.hi).length ≤ 65536 := by simp; omega
    refine Tr.le (Le.keep [1, 3, 6, 7, 8, 9, 10, 11]) ?_; simp only [List.map_cons, List.map_nil, lk, Nat.reduceEqDiff, reduceIte]
    refine Tr.le (Le.freeze 3001) ?_
    simp only [go_sem, hP, hn]
    refine Tr.le (Le.freeze 3002) ?_
    simp only [go_sem, hP, hn]
    (repeat (first | refine TS.imp ?_ | refine n9 (by decide) ?_))
    refine TR.imp ?_; intro K hK; simp only [go_sem, hP, hn]; (repeat refine vc ?_); refine c1 (by rw [hP, hT]; exact Pads_k Tk n) rfl rfl rfl trivial (by simp only [go_sem, hP, hn]; try trivial) (by simp only [go_sem, hP, hn]; try rfl) (by rw [hn]; decide) (by rfl) ?_; simp only [go_sem, hP, hn]; (repeat refine vc ?_); refine hK _ ?_; clear K hK
    refine Tr.le (Le.keep [1, 3, 6, 7, 8, 9, 10, 11, 14, 15]) ?_; simp only [List.map_cons, List.map_nil, lk, Nat.reduceEqDiff, reduceIte]
    refine Tr.seq ?_
    refine Tr.meet (fun s => s = ⟨[(1, .d (.i .i64 width)), (3, .ptr 3 0), (6, .ptr 6 0), (7, .d (.i .i64 (nodeL n ins))), (8, .d (.i .i64 (nodeH n ins))), (9, .d (.row [.i .i64 0] ((ins.map Rg.lo).map intC))), (10, .d (.row [.i .i64 0] ((ins.map Rg.hi).map intC))), (11, .ptr 11 0)], [(3, .box 27 n.cs), (6, .box 61 [.d (.i .i64 0), .d (.i .i64 0), .d (.i .i64 0), .d (.i .i64 0)]), (11, .box 61 [.d (.i .i64 0), .d (.i .i64 0), .d (.i .i64 (slA ins ins.length)), .d (.i .i64 (shA ins ins.length))])]⟩) ?_ ?_
    rotate_left
    · unfold nodeL nodeH
      (repeat (first | refine TS.imp ?_ | refine n9 (by decide) ?_))
      refine TR.imp ?_; intro K hK; simp only [go_sem, hP, hn]; (repeat refine vc ?_); refine hK _ ?_; clear K hK
      (repeat (first | refine TS.imp ?_ | refine n9 (by decide) ?_))
      refine Tr.cond rfl (fun hb => ?_) (fun hb => ?_)
      · have hp : 0 < wrap64 (n.padL + n.padR) := by simpa using hb
        rw [if_pos hp, if_pos hp]
        (repeat (first | refine TS.imp ?_ | refine n9 (by decide) ?_))
        refine TR.imp ?_; intro K hK; simp only [go_sem, hP, hn]; (repeat refine vc ?_); refine hK _ ?_; clear K hK
        (repeat (first | refine TS.imp ?_ | refine n9 (by decide) ?_))
        exact ⟨_, (Le.mv (by simp only [go_sem, hP, hn]; first | done | (simp; done) | (simp [intC]; done) | (repeat (first | rfl | constructor))) (by simp only [go_sem, hP, hn]; first | done | (simp; done) | (simp [intC]; done) | (repeat (first | rfl | constructor)))), rfl⟩
      · have hp : ¬ 0 < wrap64 (n.padL + n.padR) := by simpa using hb
        rw [if_neg hp, if_neg hp]
        (repeat (first | refine TS.imp ?_ | refine n9 (by decide) ?_))
        exact ⟨_, (Le.mv (by simp only [go_sem, hP, hn]; first | done | (simp; done) | (simp [intC]; done) | (repeat (first | rfl | constructor))) (by simp only [go_sem, hP, hn]; first | done | (simp; done) | (simp [intC]; done) | (repeat (first | rfl | constructor)))), rfl⟩
    rintro s rfl
    unfold nodeR
    generalize nodeL n ins = l at *
    generalize nodeH n ins = hh at *
    generalize slA ins ins.length = sl at *
    generalize shA ins ins.length = sh at *
    generalize ins.map Rg.lo = los at *
    generalize ins.map Rg.hi = his at *
    (repeat (first | refine TS.imp ?_ | refine n9 (by decide) ?_))
    refine TR.imp ?_; intro K hK; simp only [go_sem, hP, hn]; (repeat refine vc ?_); refine hK _ ?_; clear K hK
    refine Tr.le (Le.keep [1, 3, 6, 7, 8, 9, 10, 11, 76]) ?_; simp only [List.map_cons, List.map_nil, lk, Nat.reduceEqDiff, reduceIte]
    (repeat (first | refine TS.imp ?_ | refine n9 (by decide) ?_))
    refine TR.imp ?_; intro K hK; simp only [go_sem, hP, hn]; (repeat refine vc ?_); refine hK _ ?_; clear K hK
    (repeat (first | refine TS.imp ?_ | refine n9 (by decide) ?_))
    refine Tr.cond rfl (fun h1 => ?_) (fun h1 => ?_)
    · have hwq : rWeighs n.k = true := by unfold rWeighs; rw [h1]; rfl
      (repeat (first | refine TS.imp ?_ | refine n9 (by decide) ?_))
      refine TR.imp ?_; intro K hK; simp only [go_sem, hP, hn]
      (repeat refine vc ?_)
      refine CallN_cs (Hi := [] ) (by rw [hP, hT]; exact  weighed20_c Tk.m n l hh each (h.bw hwq)) rfl rfl rfl trivial (by simp only [go_sem, hP, hn]; try trivial) (by simp only [go_sem, hP, hn]; try rfl) (by simp only [inH, go_sem, hP, hn]; try simp) (by rw [hn]; decide) ?_; simp only [go_sem, hP, hn]; (repeat refine vc ?_)
      refine hK _ ?_; clear K hK
      (repeat (first | (refine TR.imp ?_; intro K hK; simp only [go_sem, hP, hn]; (repeat refine vc ?_); refine hK _ ?_; clear K hK) | refine TS.imp ?_ | refine n9 (by decide) ?_))
      simp only [RetG, go_sem]; (repeat with_reducible refine vc ?_)
      rw [if_pos hwq]
    (repeat (first | refine TS.imp ?_ | refine n9 (by decide) ?_))
    refine TR.imp ?_; intro K hK; simp only [go_sem, hP, hn]; (repeat refine vc ?_); refine hK _ ?_; clear K hK
    (repeat (first | refine TS.imp ?_ | refine n9 (by decide) ?_))
    refine Tr.cond rfl (fun h2 => ?_) (fun h2 => ?_)
    · have hwq : rWeighs n.k = true := by unfold rWeighs; rw [h2, Bool.or_true]; rfl
      (repeat (first | refine TS.imp ?_ | refine n9 (by decide) ?_))
      refine TR.imp ?_; intro K hK; simp only [go_sem, hP, hn]
      (repeat refine vc ?_)
      refine CallN_cs (Hi := [] ) (by rw [hP, hT]; exact  weighed20_c Tk.m n l hh each (h.bw hwq)) rfl rfl rfl trivial (by simp only [go_sem, hP, hn]; try trivial) (by simp only [go_sem, hP, hn]; try rfl) (by simp only [inH, go_sem, hP, hn]; try simp) (by rw [hn]; decide) ?_; simp only [go_sem, hP, hn]; (repeat refine vc ?_)
      refine hK _ ?_; clear K hK
      (repeat (first | (refine TR.imp ?_; intro K hK; simp only [go_sem, hP, hn]; (repeat refine vc ?_); refine hK _ ?_; clear K hK) | refine TS.imp ?_ | refine n9 (by decide) ?_))
      simp only [RetG, go_sem]; (repeat with_reducible refine vc ?_)
      rw [if_pos hwq]
    (repeat (first | refine TS.imp ?_ | refine n9 (by decide) ?_))
    refine TR.imp ?_; intro K hK; simp only [go_sem, hP, hn]; (repeat refine vc ?_); refine hK _ ?_; clear K hK
    (repeat (first | refine TS.imp ?_ | refine n9 (by decide) ?_))
    refine Tr.cond rfl (fun h6 => ?_) (fun h6 => ?_)
    · have hwq : rWeighs n.k = true := by unfold rWeighs; rw [h6, Bool.or_true]
      (repeat (first | refine TS.imp ?_ | refine n9 (by decide) ?_))
      refine TR.imp ?_; intro K hK; simp only [go_sem, hP, hn]
      (repeat refine vc ?_)
      refine CallN_cs (Hi := [] ) (by rw [hP, hT]; exact  weighed20_c Tk.m n l hh each (h.bw hwq)) rfl rfl rfl trivial (by simp only [go_sem, hP, hn]; try trivial) (by simp only [go_sem, hP, hn]; try rfl) (by simp only [inH, go_sem, hP, hn]; try simp) (by rw [hn]; decide) ?_; simp only [go_sem, hP, hn]; (repeat refine vc ?_)
      refine hK _ ?_; clear K hK
      (repeat (first | (refine TR.imp ?_; intro K hK; simp only [go_sem, hP, hn]; (repeat refine vc ?_); refine hK _ ?_; clear K hK) | refine TS.imp ?_ | refine n9 (by decide) ?_))
      simp only [RetG, go_sem]; (repeat with_reducible refine vc ?_)
      rw [if_pos hwq]
    have hwn : ¬ rWeighs n.k = true := by unfold rWeighs; rw [h1, h2, h6]; decide
    clear h1 h2 h6
    rw [if_neg hwn]
    refine Tr.skip ?_
    refine n1 ?_
    refine Tr.seq ?_
    refine Tr.seq ?_
    refine Tr.meet (fun s => s = ⟨[(1, .d (.i .i64 width)), (3, .ptr 3 0), (6, .ptr 6 0), (7, .d (.i .i64 l)), (8, .d (.i .i64 hh)), (9, .d (.row [.i .i64 0] (los.map intC))), (10, .d (.row [.i .i64 0] (his.map intC))), (11, .ptr 11 0), (76, .d (.i .i64 n.k)), (83, .d (.b (n.k == 4 || n.k == 12)))], [(3, .box 27 n.cs), (6, .box 61 [.d (.i .i64 0), .d (.i .i64 0), .d (.i .i64 0), .d (.i .i64 0)]), (11, .box 61 [.d (.i .i64 0), .d (.i .i64 0), .d (.i .i64 sl), .d (.i .i64 sh)])]⟩) ?_ ?_
    rotate_left
    · (repeat (first | refine TS.imp ?_ | refine n9 (by decide) ?_))
      refine TR.imp ?_; intro K hK; simp only [go_sem, hP, hn]; (repeat refine vc ?_); refine hK _ ?_; clear K hK
      (repeat (first | refine TS.imp ?_ | refine n9 (by decide) ?_))
      refine Tr.cond rfl (fun h4 => ?_) (fun h4 => ?_)
      · rw [h4, Bool.true_or]
        (repeat (first | refine TS.imp ?_ | refine n9 (by decide) ?_))
        exact ⟨_, (Le.mv (by simp only [go_sem, hP, hn]; first | done | (simp; done) | (simp [intC]; done) | (repeat (first | rfl | constructor))) (by simp only [go_sem, hP, hn]; first | done | (simp; done) | (simp [intC]; done) | (repeat (first | rfl | constructor)))), rfl⟩
      (repeat (first | refine TS.imp ?_ | refine n9 (by decide) ?_))
      refine TR.imp ?_; intro K hK; simp only [go_sem, hP, hn]; (repeat refine vc ?_); refine hK _ ?_; clear K hK
      (repeat (first | refine TS.imp ?_ | refine n9 (by decide) ?_))
      rw [h4, Bool.false_or]
      exact ⟨_, (Le.mv (by simp only [go_sem, hP, hn]; first | done | (simp; done) | (simp [intC]; done) | (repeat (first | rfl | constructor))) (by simp only [go_sem, hP, hn]; first | done | (simp; done) | (simp [intC]; done) | (repeat (first | rfl | constructor)))), rfl⟩
    rintro s rfl
    (repeat (first | refine TS.imp ?_ | refine n9 (by decide) ?_))
    refine Tr.cond rfl (fun h4 => ?_) (fun h4 => ?_)
    · rw [if_pos (by simpa using h4)]
      (repeat (first | (refine TR.imp ?_; intro K hK; simp only [go_sem, hP, hn]; (repeat refine vc ?_); refine hK _ ?_; clear K hK) | refine TS.imp ?_ | refine n9 (by decide) ?_))
      simp only [RetG, go_sem]; (repeat with_reducible refine vc ?_)
      decide
    rw [if_neg (by simpa using h4)]
    clear h4
    (repeat (first | refine TS.imp ?_ | refine n9 (by decide) ?_))
    refine TR.imp ?_; intro K hK; simp only [go_sem, hP, hn]; (repeat refine vc ?_); refine hK _ ?_; clear K hK
    (repeat (first | refine TS.imp ?_ | refine n9 (by decide) ?_))
    refine Tr.cond rfl (fun h7 => ?_) (fun h7 => ?_)
    · rw [if_pos (by simpa using h7)]
      (repeat (first | refine TS.imp ?_ | refine n9 (by decide) ?_))
      refine TR.imp ?_; intro K hK; simp only [go_sem, hP, hn]
      (repeat refine vc ?_)
      refine CallN_cs (Hi := [] ) (by rw [hP, hT]; exact  Add_c Tk.m los hll.1 hlo) rfl rfl rfl trivial (by simp only [go_sem, hP, hn]; try trivial) (by simp only [go_sem, hP, hn]; try rfl) (by simp only [inH, go_sem, hP, hn]; try simp) (by rw [hn]; decide) ?_; simp only [go_sem, hP, hn]; (repeat refine vc ?_)
      refine CallN_cs (Hi := [] ) (by rw [hP, hT]; exact  Add_c Tk.m his hll.2 hhi) rfl rfl rfl trivial (by simp only [go_sem, hP, hn]; try trivial) (by simp only [go_sem, hP, hn]; try rfl) (by simp only [inH, go_sem, hP, hn]; try simp) (by rw [hn]; decide) ?_; simp only [go_sem, hP, hn]; (repeat refine vc ?_)
      refine hK _ ?_; clear K hK
      (repeat (first | (refine TR.imp ?_; intro K hK; simp only [go_sem, hP, hn]; (repeat refine vc ?_); refine hK _ ?_; clear K hK) | refine TS.imp ?_ | refine n9 (by decide) ?_))
      simp only [RetG, go_sem]; (repeat with_reducible refine vc ?_)
      decide
    rw [if_neg (by simpa using h7)]
    clear h7
    (repeat (first | refine TS.imp ?_ | refine n9 (by decide) ?_))
    refine TR.imp ?_; intro K hK; simp only [go_sem, hP, hn]; (repeat refine vc ?_); refine hK _ ?_; clear K hK
    (repeat (first | refine TS.imp ?_ | refine n9 (by decide) ?_))
    refine Tr.cond rfl (fun h9 => ?_) (fun h9 => ?_)
    · rw [if_pos (by simpa using h9)]
      refine Tr.le (Le.keep [3, 6, 7, 8]) ?_; simp only [List.map_cons, List.map_nil, lk, Nat.reduceEqDiff, reduceIte]
      (repeat (first | refine TS.imp ?_ | refine n9 (by decide) ?_))
      (first | refine d1 (.p true 0 (.p true 1 (.p true 2 (.p true 3 (.p true 4 (.p true 6 (.p true 7 (.p true 8 (.p true 9 (.p true 10 (.alt 5 (.alt 11 (.alt 12 (.alt 13 .nil .nil) .nil) .nil) .nil))))))))))) [6] (by rw [hP]; kernel_rfl) (by kernel_rfl) (by simp only [go_sem, hP, hn]; try simp) (fun _ _ h => h) fun K hK => ?_ | refine d2 (.p true 0 (.p true 1 (.p true 2 (.p true 3 (.p true 4 (.p true 6 (.p true 7 (.p true 8 (.p true 9 (.p true 10 (.alt 5 (.alt 11 (.alt 12 (.alt 13 .nil .nil) .nil) .nil) .nil))))))))))) [6] (by rw [hP]; kernel_rfl) (by kernel_rfl) (by simp only [go_sem, hP, hn]; try simp) (fun _ _ h => h) fun K hK => ?_ | refine d4 (.p true 0 (.p true 1 (.p true 2 (.p true 3 (.p true 4 (.p true 6 (.p true 7 (.p true 8 (.p true 9 (.p true 10 (.alt 5 (.alt 11 (.alt 12 (.alt 13 .nil .nil) .nil) .nil) .nil))))))))))) [6] (by rw [hP]; kernel_rfl) (by kernel_rfl) (by simp only [go_sem, hP, hn]; try simp) (fun _ _ h => h) fun K hK => ?_); simp only [go_sem, hP, hn]
      (repeat refine vc ?_)
      refine p1 (by rw [hP, hT]; exact Clamp_c Tk.m l n.low n.high) rfl rfl rfl trivial (by simp only [go_sem, hP, hn]; try trivial) (by simp only [go_sem, hP, hn]; try rfl) (by rw [hn]; decide) (by rfl) ?_; simp only [go_sem, hP, hn]; (repeat refine vc ?_)
      refine p1 (by rw [hP, hT]; exact Clamp_c Tk.m hh n.low n.high) rfl rfl rfl trivial (by simp only [go_sem, hP, hn]; try trivial) (by simp only [go_sem, hP, hn]; try rfl) (by rw [hn]; decide) (by rfl) ?_; simp only [go_sem, hP, hn]; (repeat refine vc ?_)
      refine p1 (by rw [hP, hT]; exact same20_c Tk.m (clampV l n.low n.high) (clampV hh n.low n.high)) rfl rfl rfl trivial (by simp only [go_sem, hP, hn]; try trivial) (by simp only [go_sem, hP, hn]; try rfl) (by rw [hn]; decide) (by rfl) ?_; simp only [go_sem, hP, hn]; (repeat refine vc ?_)
      refine hK _ ?_; clear K hK
      (repeat (first | (refine TR.imp ?_; intro K hK; simp only [go_sem, hP, hn]; (repeat refine vc ?_); refine hK _ ?_; clear K hK) | refine TS.imp ?_ | refine n9 (by decide) ?_))
      simp only [RetG, go_sem]; (repeat with_reducible refine vc ?_)
      decide
    rw [if_neg (by simpa using h9)]
    clear h9
    (repeat (first | refine TS.imp ?_ | refine n9 (by decide) ?_))
    refine TR.imp ?_; intro K hK; simp only [go_sem, hP, hn]; (repeat refine vc ?_); refine hK _ ?_; clear K hK
    (repeat (first | refine TS.imp ?_ | refine n9 (by decide) ?_))
    refine Tr.cond rfl (fun hx => ?_) (fun hx => ?_)
    · rw [if_pos (by simpa using hx)]
      refine Tr.le (Le.keep [3, 6, 7, 8]) ?_; simp only [List.map_cons, List.map_nil, lk, Nat.reduceEqDiff, reduceIte]
      (repeat (first | refine TS.imp ?_ | refine n9 (by decide) ?_))
      (first | refine d1 (.p true 0 (.p true 1 (.p true 2 (.p true 3 (.p true 4 (.p true 6 (.p true 7 (.p true 8 (.p true 9 (.p true 10 (.alt 5 (.alt 11 (.alt 12 (.alt 13 .nil .nil) .nil) .nil) .nil))))))))))) [6] (by rw [hP]; kernel_rfl) (by kernel_rfl) (by simp only [go_sem, hP, hn]; try simp) (fun _ _ h => h) fun K hK => ?_ | refine d2 (.p true 0 (.p true 1 (.p true 2 (.p true 3 (.p true 4 (.p true 6 (.p true 7 (.p true 8 (.p true 9 (.p true 10 (.alt 5 (.alt 11 (.alt 12 (.alt 13 .nil .nil) .nil) .nil) .nil))))))))))) [6] (by rw [hP]; kernel_rfl) (by kernel_rfl) (by simp only [go_sem, hP, hn]; try simp) (fun _ _ h => h) fun K hK => ?_ | refine d4 (.p true 0 (.p true 1 (.p true 2 (.p true 3 (.p true 4 (.p true 6 (.p true 7 (.p true 8 (.p true 9 (.p true 10 (.alt 5 (.alt 11 (.alt 12 (.alt 13 .nil .nil) .nil) .nil) .nil))))))))))) [6] (by rw [hP]; kernel_rfl) (by kernel_rfl) (by simp only [go_sem, hP, hn]; try simp) (fun _ _ h => h) fun K hK => ?_); simp only [go_sem, hP, hn]
      (repeat refine vc ?_)
      refine CallP_cs (by rw [hP, hT]; exact Scale_c Tk.m l n.mult n.shift hLH.1) rfl rfl rfl trivial (by simp only [go_sem, hP, hn]; try trivial) (by simp only [go_sem, hP, hn]; try rfl) (by rw [hn]; decide) ?_; simp only [go_sem, hP, hn]; (repeat refine vc ?_)
      refine CallP_cs (by rw [hP, hT]; exact Scale_c Tk.m hh n.mult n.shift hLH.2) rfl rfl rfl trivial (by simp only [go_sem, hP, hn]; try trivial) (by simp only [go_sem, hP, hn]; try rfl) (by rw [hn]; decide) ?_; simp only [go_sem, hP, hn]; (repeat refine vc ?_)
      refine p1 (by rw [hP, hT]; exact same20_c Tk.m (scaleV l n.mult n.shift) (scaleV hh n.mult n.shift)) rfl rfl rfl trivial (by simp only [go_sem, hP, hn]; try trivial) (by simp only [go_sem, hP, hn]; try rfl) (by rw [hn]; decide) (by rfl) ?_; simp only [go_sem, hP, hn]; (repeat refine vc ?_)
      refine hK _ ?_; clear K hK
      (repeat (first | (refine TR.imp ?_; intro K hK; simp only [go_sem, hP, hn]; (repeat refine vc ?_); refine hK _ ?_; clear K hK) | refine TS.imp ?_ | refine n9 (by decide) ?_))
      simp only [RetG, go_sem]; (repeat with_reducible refine vc ?_)
      decide
    rw [if_neg (by simpa using hx)]
    clear hx
    (repeat (first | refine TS.imp ?_ | refine n9 (by decide) ?_))
    refine TR.imp ?_; intro K hK; simp only [go_sem, hP, hn]; (repeat refine vc ?_); refine hK _ ?_; clear K hK
    (repeat (first | refine TS.imp ?_ | refine n9 (by decide) ?_))
    refine Tr.cond rfl (fun hb => ?_) (fun hb => ?_)
    · rw [if_pos (by simpa using hb)]
      (repeat (first | refine TS.imp ?_ | refine n9 (by decide) ?_))
      refine TR.imp ?_; intro K hK; simp only [go_sem, hP, hn]; (repeat refine vc ?_); refine c1 (by rw [hP, hT]; exact same20_c Tk.m 0 (wrap64 (width - 1))) rfl rfl rfl trivial (by simp only [go_sem, hP, hn]; try trivial) (by simp only [go_sem, hP, hn]; try rfl) (by rw [hn]; decide) (by rfl) ?_; simp only [go_sem, hP, hn]; (repeat refine vc ?_); refine hK _ ?_; clear K hK
      (repeat (first | (refine TR.imp ?_; intro K hK; simp only [go_sem, hP, hn]; (repeat refine vc ?_); refine hK _ ?_; clear K hK) | refine TS.imp ?_ | refine n9 (by decide) ?_))
      simp only [RetG, go_sem]; (repeat with_reducible refine vc ?_)
      decide
    rw [if_neg (by simpa using hb)]
    clear hb
    (repeat (first | refine TS.imp ?_ | refine n9 (by decide) ?_))
    refine TR.imp ?_; intro K hK; simp only [go_sem, hP, hn]; (repeat refine vc ?_); refine c1 (by rw [hP, hT]; exact same20_c Tk.m l hh) rfl rfl rfl trivial (by simp only [go_sem, hP, hn]; try trivial) (by simp only [go_sem, hP, hn]; try rfl) (by rw [hn]; decide) (by rfl) ?_; simp only [go_sem, hP, hn]; (repeat refine vc ?_); refine hK _ ?_; clear K hK
    (repeat (first | (refine TR.imp ?_; intro K hK; simp only [go_sem, hP, hn]; (repeat refine vc ?_); refine hK _ ?_; clear K hK) | refine TS.imp ?_ | refine n9 (by decide) ?_))
    simp only [RetG, go_sem]; (repeat with_reducible refine vc ?_)
    decide
end
end Go.Proofs.YtgijboakaodcgaaDoor.Aw
namespace Go.Proofs.YtgijboakaodcgaaDoor.Aw
open Go.RowKit
/-! the plain law of graphs: what graph's functions compute -/
def mayN (N : Int) (n : Nd) : Bool := n.inn.all (inB · 0 N)
def mayQ (wd lo hi out N : Int) : Bool := decide (wd < 1) || decide (16 < wd) || decide (hi < lo) || decide (lo < -32768) || decide (32767 < hi) || decide (out < 1) || decide (N < out)
def mayG (wd lo hi out : Int) (ns : List Nd) : Int := if (decide ((ns.length : Int) < 1) || decide (12 < (ns.length : Int))) = true then 22 else if mayQ wd lo hi out ns.length = true then 1 else if ns.all (mayN ns.length) = true then 0 else 1
/-- may number i come next, behind o? -/
def mayO (ns : List Nd) (o : List Int) (i : Int) : Bool := !o.contains i && (nd ns (i - 1)).inn.all fun j => j == 0 || o.contains j
/-- the first that may, of m numbers from i on -/
def nextO (ns : List Nd) (o : List Int) : Nat → Int → Option Int
  | 0, _ => none
  | m + 1, i => if mayO ns o i = true then some i else nextO ns o m (i + 1)
/-- the order, as far as it goes, in k more rounds -/
def ordR (ns : List Nd) : Nat → List Int → List Int
  | 0, o => o
  | k + 1, o => match nextO ns o ns.length 1 with
    | none => ordR ns k o
    | some i => ordR ns k (o ++ [i])
/-- a node's rate, as graph.rate tells it -/
def Nd.gwin (n : Nd) : Bool := decide (1 < n.span) || decide (n.k ≤ 4) || n.k == 12
def Nd.grate (n : Nd) (l : List Int) : Int × Bool := if (l.any (· != rd l 0) || (rd l 0 == 0 && (n.gwin || n.k == 5))) = true then (0, false) else if (n.k == 5) = true then (0, true) else (wrap64 (rd l 0 * n.stp), true)
/-- what graph.look tells, walking along an order -/
def lookL (ns : List Nd) : List Int → List Int → List Int → Int × List Int × List Int
  | [], W, R => (0, W, R)
  | i :: r, W, R =>
    let n := nd ns (i - 1)
    if (n.chk (n.inn.map (rd W)) != 0) = true then (n.chk (n.inn.map (rd W)), [], [])
    else if (!(n.grate (n.inn.map (rd R))).2) = true then (15, [], [])
    else lookL ns r (W.set i.toNat (n.wide (n.inn.map (rd W)))) (R.set i.toNat (n.grate (n.inn.map (rd R))).1)
def order (ns : List Nd) : List Int := ordR ns ns.length []
/-- the error, the order, the widths, the rates -/
def lookG (wd lo hi out : Int) (ns : List Nd) : Int × List Int × List Int × List Int :=
  if (mayG wd lo hi out ns != 0) = true then (mayG wd lo hi out ns, [], [], [])
  else if (!((order ns).length == ns.length)) = true then (13, [], [], [])
  else match lookL ns (order ns) (wd :: List.replicate ns.length 0) (1 :: List.replicate ns.length 0) with
    | (e, W, R) => if (e != 0) = true then (e, [], [], []) else (0, order ns, W, R)
theorem nextO_range {ns : List Nd} {o : List Int} : ∀ {m : Nat} {i x : Int}, nextO ns o m i = some x → i ≤ x ∧ x < i + m ∧ mayO ns o x = true
  | 0, i, x, h => by cases h
  | m + 1, i, x, h => by
    unfold nextO at h
    split at h
    · rename_i hm
      cases h
      exact ⟨by omega, by omega, hm⟩
    · have := nextO_range h
      exact ⟨by omega, by omega, this.2.2⟩
theorem ordR_range {ns : List Nd} : ∀ {k : Nat} {o : List Int}, (∀ x ∈ o, 1 ≤ x ∧ x ≤ ns.length) → ∀ x ∈ ordR ns k o, 1 ≤ x ∧ x ≤ ns.length
  | 0, o, h => h
  | k + 1, o, h => by
    unfold ordR
    split
    · exact ordR_range h
    · rename_i i hi
      have := nextO_range hi
      refine ordR_range fun x hx => ?_
      rcases List.mem_append.1 hx with hx | hx
      · exact h x hx
      · simp at hx; subst hx; omega
theorem ordR_length {ns : List Nd} : ∀ (k : Nat) (o : List Int), o.length ≤ (ordR ns k o).length ∧ (ordR ns k o).length ≤ o.length + k
  | 0, o => ⟨Nat.le_refl _, Nat.le_refl _⟩
  | k + 1, o => by
    unfold ordR
    split
    · have := ordR_length (ns := ns) k o; omega
    · rename_i i hi
      have := ordR_length (ns := ns) k (o ++ [i])
      simp at this
      omega
theorem mayG_ok {wd lo hi out : Int} {ns : List Nd} (h : mayG wd lo hi out ns = 0) : 1 ≤ ns.length ∧ ns.length ≤ 12 ∧ ∀ n ∈ ns, ∀ j ∈ n.inn, 0 ≤ j ∧ j ≤ ns.length := by
  unfold mayG at h
  split at h
  · cases h
  · rename_i h1
    split at h
    · cases h
    · split at h
      · rename_i h3
        simp only [Bool.or_eq_true, decide_eq_true_eq] at h1
        refine ⟨by omega, by omega, fun n hn j hj => ?_⟩
        have := List.all_eq_true.1 h3 n hn
        unfold mayN at this
        exact inB_iff.1 (List.all_eq_true.1 this j hj)
      · cases h
end Go.Proofs.YtgijboakaodcgaaDoor.Aw
namespace Go.Proofs.YtgijboakaodcgaaDoor.Aw
open Go.RowKit
attribute [local go_sem_proc] Nat.reduceAdd Nat.reduceMul Nat.reduceSub Nat.reduceEqDiff Nat.reduceLeDiff Nat.reduceBEq Nat.reduceBNe Int.reduceToNat reduceIte reduceCtorEq
attribute [local go_sem] initT SQ so pe he ev lk constS stp stc gdS nth pickS pickD loadS cellsAt okAt fieldAddrS fieldS partS indexAddrS indexS extractS binS binD binI isShift unS convS lenS sliceS bndI bndC mmS mm2 mmD builtS fillS okCells cellsS splS solid aliveL alive okS boxS allocS makeS bsliceS elemsOf dcells stF storeS frzA frz frzT frzS frzL frzO frzH appS srcS appVC killS killT killC killH killO k1 k2 S.has S.hasL St.add St.upd dropH lh cond_or cond_and rw_intC rw_intC0 rw_set rw_app rw_apps rw_rep rw_slice wr64 cond_true cond_false true_and and_true List.map_cons List.map_nil List.length_cons List.length_nil List.drop_succ_cons List.drop_zero List.take_succ_cons List.take_zero List.nil_append List.cons_append List.getD_cons_zero List.getD_cons_succ List.headD_cons List.length_map ite_true ite_false if_true if_false Bool.false_eq_true and_self forall_const List.drop_nil List.take_nil List.append_nil Option.map_some Option.map_none List.mapM_cons List.mapM_nil Option.bind_eq_bind Option.bind_some Option.pure_def knows resL resV oneS freshS freshL cv cvL stpL stcL or_true true_or or_false false_or List.all_cons List.all_nil Bool.and_self Bool.or_self Bool.true_and Bool.and_true Bool.or_false Bool.false_or implies_true flatD allm_nil allm_cons List.getElem?_cons_zero List.getElem?_cons_succ Nd.cs Nd.ds ml mln Option.isSome_some Option.isSome_none eq_self Int.toNat_natCast AP ldOk isLd inL subL crt chg chgS chgP idxs aliveW Option.toList_some Option.toList_none Option.toList RetG Nd.win frzA offK keepH aliveK nkH closedH closedO keysK inH St.upd rowO List.contains_cons List.contains_nil Bool.or_self Option.isNone_none Option.isNone_some Bool.not_true Bool.not_false gcs rowN e0N frzC
attribute [local go_sem] sz2 ag2 ok2 kk2 iu2 zc2 zd2 by2 sz3 ag3 ok3 kk3 iu3 zc3 zd3 by3 sz4 ag4 ok4 bo4 zc4 zd4 by4 sz5 ag5 ok5 kk5 iu5 zc5 zd5 by5 sz9 ag9 ok9 st9 zc9 zd9 by9 sz12 ag12 ok12 kk12 iu12 zc12 zd12 by12 sz15 ag15 ok15 zc15 by15 sz16 ag16 ok16 zc16 by16 sz21 ag21 ok21 kk21 iu21 zc21 zd21 by21 sz22 ag22 ok22 sl22 zc22 zd22 by22 sz23 ag23 ok23 zc23 zd23 pl23 by23 fl23_0 fl23_1 fl23_2 fl23_3 fl23_4 fl23_5 sz24 ag24 ok24 zc24 zd24 pl24 by24 fl24_0 fl24_1 fl24_2 fl24_3 fl24_4 fl24_5 sz26 ag26 ok26 zc26 zd26 pl26 by26 fl26_0 fl26_1 fl26_2 fl26_3 fl26_4 fl26_5 fl26_6 fl26_7 fl26_8 fl26_9 fl26_10 fl26_11 fl26_12 fl26_13 fl26_14 sz27 ag27 ok27 zc27 zd27 pl27 by27 fl27_0 fl27_1 fl27_2 fl27_3 fl27_4 fl27_5 fl27_6 fl27_7 fl27_8 fl27_9 fl27_10 fl27_11 fl27_12 fl27_13 fl27_14 sz28 ag28 ok28 sl28 zc28 zd28 by28 sz38 ag38 ok38 sl38 ar38 zc38 zd38 pl38 by38 sz44 ag44 ok44 sl44 ar44 zc44 zd44 pl44 by44 sz45 ag45 ok45 sl45 zc45 zd45 by45 sz46 ag46 ok46 zc46 zd46 pl46 by46 fl46_0 fl46_1 fl46_2 fl46_3 fl46_4 sz47 ag47 ok47 zc47 zd47 pl47 by47 fl47_0 fl47_1 fl47_2 fl47_3 fl47_4 sz49 ag49 ok49 kk49 iu49 zc49 zd49 by49 sz53 ag53 ok53 sl53 ar53 zc53 zd53 pl53 by53 sz54 ag54 ok54 kk54 iu54 zc54 zd54 by54 sz55 ag55 ok55 kk55 iu55 zc55 zd55 by55 sz56 ag56 ok56 sl56 zc56 zd56 by56 sz57 ag57 ok57 kk57 iu57 zc57 zd57 by57 sz60 ag60 ok60 zc60 zd60 pl60 by60 fl60_0 fl60_1 fl60_2 fl60_3 sz61 ag61 ok61 zc61 zd61 pl61 by61 fl61_0 fl61_1 fl61_2 fl61_3 sz64 ag64 ok64 zc64 by64 sz65 ag65 ok65 zc65 zd65 pl65 by65 fl65_0 fl65_1 sz66 ag66 ok66 zc66 zd66 pl66 by66 fl66_0 fl66_1 sz78 ag78 ok78 sl78 ar78 zc78 zd78 pl78 by78 sz79 ag79 ok79 sl79 ar79 zc79 zd79 pl79 by79 sz81 ag81 ok81 zc81 zd81 pl81 by81 fl81_0 fl81_1 sz82 ag82 ok82 zc82 zd82 pl82 by82 fl82_0 fl82_1 sz84 ag84 ok84 zc84 zd84 pl84 by84 fl84_0 fl84_1 fl84_2 fl84_3 sz85 ag85 ok85 zc85 zd85 pl85 by85 fl85_0 fl85_1 fl85_2 fl85_3 sz92 ag92 ok92 sl92 ar92 zc92 zd92 pl92 by92 sz101 ag101 ok101 zc101 zd101 pl101 by101 fl101_0 fl101_1 sz102 ag102 ok102 zc102 zd102 pl102 by102 fl102_0 fl102_1 sz109 ag109 ok109 zc109 zd109 pl109 by109 fl109_0 fl109_1 fl109_2 sz110 ag110 ok110 zc110 zd110 pl110 by110 fl110_0 fl110_1 fl110_2 sz120 ag120 ok120 sl120 ar120 zc120 zd120 pl120 by120 sz121 ag121 ok121 zc121 zd121 pl121 by121 fl121_0 fl121_1 sz122 ag122 ok122 sl122 ar122 zc122 zd122 pl122 by122 sz130 ag130 ok130 zc130 by130 sz140 ag140 ok140 kk140 iu140 zc140 zd140 by140 sz144 ag144 ok144 zc144 by144
theorem pick_c {T : World → Prop} (Tm : TP T) (of_ l : List Int) (hl : l.length ≤ 4096) (ho : of_.length ≤ 4096) (hi : ∀ x ∈ l, 0 ≤ x ∧ x < of_.length) : Ct Go.Proofs.Tryd.prog T 120 [.d (.row [.i .i64 0] (of_.map intC)), .d (.row [.i .i64 0] (l.map intC))] true (fun r => r = .d (.row [.i .i64 0] ((l.map (rd of_)).map intC))) := by
  refine Ct_of Tm Go.Proofs.Tryd.func120 rfl rfl Go.Proofs.Tryd.ntmps120 (by simp) (rs := [.tmp 4]) rfl fun E hP hn hT => ?_
  (repeat (first | (refine TR.imp ?_; intro K hK; simp only [go_sem, hP, hn]; (repeat refine vc ?_); refine hK _ ?_; clear K hK) | refine TS.imp ?_ | refine n9 (by decide) ?_))
  refine Tr.loop (fun n s => ∃ (j : Int) (m : List Int), s = ⟨[(0, .d (.row [.i .i64 0] (of_.map intC))), (11, .d (.row [.i .i64 0] (l.map intC))), (12, .d (.i .i64 l.length)), (13, .d (.i .i64 j)), (5, .own 10)], [(10, .row 3 [.i .i64 0] (m.map intC))]⟩ ∧ 0 ≤ j ∧ j + n = l.length ∧ m.length = l.length ∧ m.take j.toNat = (l.take j.toNat).map (rd of_)) l.length ⟨_, (Le.mv (by simp only [go_sem, hP, hn]; first | done | (simp; done) | (simp [intC]; done) | (repeat (first | rfl | constructor))) (by simp only [go_sem, hP, hn]; first | done | (simp; done) | (simp [intC]; done) | (repeat (first | rfl | constructor)))), 0, List.replicate l.length 0, rfl, by omega, by omega, by simp, by simp⟩ ?_
  rintro n s ⟨j, m, rfl, h0, h1, h2, h3⟩
  (repeat (first | (refine TR.imp ?_; intro K hK; simp only [go_sem, hP, hn]; (repeat refine vc ?_); refine hK _ ?_; clear K hK) | refine TS.imp ?_ | refine n9 (by decide) ?_))
  refine Tr.cond rfl (fun hb => ?_) (fun hb => ?_)
  · have hj : j < l.length := by simpa using hb
    have hr := hi _ (rd_mem h0 hj)
    (repeat (first | (refine TR.imp ?_; intro K hK; simp only [go_sem, hP, hn]; (repeat refine vc ?_); refine hK _ ?_; clear K hK) | refine TS.imp ?_ | refine n9 (by decide) ?_))
    rw [w64 (by omega) (by omega)]
    refine ⟨n - 1, _, by omega, ?_, j + 1, m.set j.toNat (rd of_ (rd l j)), rfl, by omega, by omega, by simpa using h2, ?_⟩
    · exact (Le.mv (by simp only [go_sem, hP, hn]; first | done | (simp; done) | (simp [intC]; done) | (repeat (first | rfl | constructor))) (by simp only [go_sem, hP, hn]; first | done | (simp; done) | (simp [intC]; done) | (repeat (first | rfl | constructor))))
    · rw [take_set h0 (by omega), take_rd h0 hj, h3]; simp
  · (repeat (first | (refine TR.imp ?_; intro K hK; simp only [go_sem, hP, hn]; (repeat refine vc ?_); refine hK _ ?_; clear K hK) | refine TS.imp ?_ | refine n9 (by decide) ?_))
    simp only [RetQ, go_sem]
    have e : j.toNat = l.length := by have := of_decide_eq_false hb; omega
    rw [e, List.take_of_length_le (by omega), List.take_of_length_le (by omega)] at h3
    rw [h3]
    exact ⟨flat_ints _, rfl⟩
def Nd.chn (n : Nd) : List (Int × Bool) → Bool
  | [] => true
  | p :: r => if (p.2 && !n.has p.1) = true then false else n.chn r
def Nd.bareL (n : Nd) : List (Int × Bool) := [(1, n.step != 0 || n.gap != 0 || n.left != 0 || n.right != 0), (17, n.size != 0), (2, n.wid != 0), (4, decide (0 < (n.ws.length : Int)) || decide (0 < (n.bs.length : Int))), (32, n.low != 0 || n.high != 0), (64, n.mult != 0 || n.shift != 0)]
theorem bare_chn (n : Nd) : n.bare = n.chn n.bareL := by simp only [Nd.bareL, Nd.chn, Nd.bare, Int.natCast_pos]
theorem chn_t {n : Nd} {x : Int} {b : Bool} {l : List (Int × Bool)} (h : (b && !n.has x) = true) : n.chn ((x, b) :: l) = false := if_pos h
theorem chn_f {n : Nd} {x : Int} {b : Bool} {l : List (Int × Bool)} (h : (b && !n.has x) = false) : n.chn ((x, b) :: l) = n.chn l := if_neg (by show ¬ (b && !n.has x) = true; rw [h]; decide)
theorem bare_k {T : World → Prop} (Tk : KT T) (n : Nd) : Ct Go.Proofs.Tryd.prog T 89 [.agg n.cs] true (fun r => r = .d (.b n.bare)) := by
  refine Ct_of Tk.m Go.Proofs.Tryd.func89 rfl rfl Go.Proofs.Tryd.ntmps89 (by simp) (rs := [.tmp 2]) rfl fun E hP hn hT => ?_
  (repeat (first | (refine TR.imp ?_; intro K hK; simp only [go_sem, hP, hn]; (repeat refine vc ?_); refine hK _ ?_; clear K hK) | refine TS.imp ?_ | refine n9 (by decide) ?_))
  refine Tr.loop (fun m s => ∃ j : Nat, s = ⟨[(62, .d (.i .i64 j)), (61, .agg (n.bareL.flatMap fun p => [.d (.i .i64 p.1), .d (.b p.2)])), (1, .ptr 1 0)], [(1, .box 27 n.cs)]⟩ ∧ j + m = 6 ∧ n.bare = n.chn (n.bareL.drop j)) 6 ⟨_, Le.forget (by simp only [Nd.bareL, List.flatMap_cons, List.flatMap_nil]; simp only [go_sem, hP, hn]; try simp), 0, rfl, by omega, bare_chn n⟩ ?_
  rintro m s ⟨j, rfl, h0, h1⟩
  by_cases hj : j < 6
  · have hq : j = 0 ∨ j = 1 ∨ j = 2 ∨ j = 3 ∨ j = 4 ∨ j = 5 := by omega
    have lt (a : Nat) (h : a < 6) : decide ((a : Int) < 6) = true := decide_eq_true (by omega)
    simp only [Nd.bareL, List.flatMap_cons, List.flatMap_nil, List.cons_append, List.nil_append] at h1 ⊢
    rcases hq with rfl | rfl | rfl | rfl | rfl | rfl
    · (repeat (first | (refine TR.imp ?_; intro K hK; simp only [go_sem, hP, hn]; (repeat refine vc ?_); refine hK _ ?_; clear K hK) | refine TS.imp ?_ | refine n9 (by decide) ?_))
      refine Tr.cond rfl (fun hb => ?_) (fun hb => ?_)
      · (repeat (first | (refine TR.imp ?_; intro K hK; simp only [go_sem, hP, hn]; (repeat refine vc ?_); refine hK _ ?_; clear K hK) | refine TS.imp ?_ | refine n9 (by decide) ?_))
        refine TR.imp ?_; intro K hK; simp only [go_sem, hP, hn]; (repeat refine vc ?_); refine c2 (fun hg => by rw [hP, hT]; exact has_k Tk n 1) rfl rfl rfl (fun hg => trivial) (fun hg => by clear hK; revert hg; simp only [go_sem, hP, hn]; first | trivial | omega | (simp; done) | (simp +contextual; done) | grind) (fun hg => by simp only [go_sem, hP, hn]; try rfl) (by rw [hn]; decide) (by rfl) ?_; simp only [go_sem, hP, hn]; (repeat refine vc ?_); refine hK _ ?_; clear K hK
        refine Tr.cond rfl (fun hc => ?_) (fun hc => ?_)
        · (repeat (first | (refine TR.imp ?_; intro K hK; simp only [go_sem, hP, hn]; (repeat refine vc ?_); refine hK _ ?_; clear K hK) | refine TS.imp ?_ | refine n9 (by decide) ?_))
          simp only [RetQ, go_sem]
          exact congrArg S.d (congrArg D.b (h1.trans (chn_t hc)).symm)
        · (repeat (first | (refine TR.imp ?_; intro K hK; simp only [go_sem, hP, hn]; (repeat refine vc ?_); refine hK _ ?_; clear K hK) | refine TS.imp ?_ | refine n9 (by decide) ?_))
          rw [w64 (by omega) (by omega)]
          refine ⟨m - 1, _, by omega, ?_, 1, rfl, by omega, ?_⟩
          · exact (Le.mv (by simp only [go_sem, hP, hn]; first | done | (simp; done) | (simp [intC]; done) | (repeat (first | rfl | constructor))) (by simp only [go_sem, hP, hn]; first | done | (simp; done) | (simp [intC]; done) | (repeat (first | rfl | constructor))))
          exact h1.trans (chn_f hc)
      · exact absurd hb (by simp)
    · (repeat (first | (refine TR.imp ?_; intro K hK; simp only [go_sem, hP, hn]; (repeat refine vc ?_); refine hK _ ?_; clear K hK) | refine TS.imp ?_ | refine n9 (by decide) ?_))
      refine Tr.cond rfl (fun hb => ?_) (fun hb => ?_)
      · (repeat (first | (refine TR.imp ?_; intro K hK; simp only [go_sem, hP, hn]; (repeat refine vc ?_); refine hK _ ?_; clear K hK) | refine TS.imp ?_ | refine n9 (by decide) ?_))
        refine TR.imp ?_; intro K hK; simp only [go_sem, hP, hn]; (repeat refine vc ?_); refine c2 (fun hg => by rw [hP, hT]; exact has_k Tk n 17) rfl rfl rfl (fun hg => trivial) (fun hg => by clear hK; revert hg; simp only [go_sem, hP, hn]; first | trivial | omega | (simp; done) | (simp +contextual; done) | grind) (fun hg => by simp only [go_sem, hP, hn]; try rfl) (by rw [hn]; decide) (by rfl) ?_; simp only [go_sem, hP, hn]; (repeat refine vc ?_); refine hK _ ?_; clear K hK
        refine Tr.cond rfl (fun hc => ?_) (fun hc => ?_)
        · (repeat (first | (refine TR.imp ?_; intro K hK; simp only [go_sem, hP, hn]; (repeat refine vc ?_); refine hK _ ?_; clear K hK) | refine TS.imp ?_ | refine n9 (by decide) ?_))
          simp only [RetQ, go_sem]
          exact congrArg S.d (congrArg D.b (h1.trans (chn_t hc)).symm)
        · (repeat (first | (refine TR.imp ?_; intro K hK; simp only [go_sem, hP, hn]; (repeat refine vc ?_); refine hK _ ?_; clear K hK) | refine TS.imp ?_ | refine n9 (by decide) ?_))
          rw [w64 (by omega) (by omega)]
          refine ⟨m - 1, _, by omega, ?_, 2, rfl, by omega, ?_⟩
          · exact (Le.mv (by simp only [go_sem, hP, hn]; first | done | (simp; done) | (simp [intC]; done) | (repeat (first | rfl | constructor))) (by simp only [go_sem, hP, hn]; first | done | (simp; done) | (simp [intC]; done) | (repeat (first | rfl | constructor))))
          exact h1.trans (chn_f hc)
      · exact absurd hb (by simp)
    · (repeat (first | (refine TR.imp ?_; intro K hK; simp only [go_sem, hP, hn]; (repeat refine vc ?_); refine hK _ ?_; clear K hK) | refine TS.imp ?_ | refine n9 (by decide) ?_))
      refine Tr.cond rfl (fun hb => ?_) (fun hb => ?_)
      · (repeat (first | (refine TR.imp ?_; intro K hK; simp only [go_sem, hP, hn]; (repeat refine vc ?_); refine hK _ ?_; clear K hK) | refine TS.imp ?_ | refine n9 (by decide) ?_))
        refine TR.imp ?_; intro K hK; simp only [go_sem, hP, hn]; (repeat refine vc ?_); refine c2 (fun hg => by rw [hP, hT]; exact has_k Tk n 2) rfl rfl rfl (fun hg => trivial) (fun hg => by clear hK; revert hg; simp only [go_sem, hP, hn]; first | trivial | omega | (simp; done) | (simp +contextual; done) | grind) (fun hg => by simp only [go_sem, hP, hn]; try rfl) (by rw [hn]; decide) (by rfl) ?_; simp only [go_sem, hP, hn]; (repeat refine vc ?_); refine hK _ ?_; clear K hK
        refine Tr.cond rfl (fun hc => ?_) (fun hc => ?_)
        · (repeat (first | (refine TR.imp ?_; intro K hK; simp only [go_sem, hP, hn]; (repeat refine vc ?_); refine hK _ ?_; clear K hK) | refine TS.imp ?_ | refine n9 (by decide) ?_))
          simp only [RetQ, go_sem]
          exact congrArg S.d (congrArg D.b (h1.trans (chn_t hc)).symm)
        · (repeat (first | (refine TR.imp ?_; intro K hK; simp only [go_sem, hP, hn]; (repeat refine vc ?_); refine hK _ ?_; clear K hK) | refine TS.imp ?_ | refine n9 (by decide) ?_))
          rw [w64 (by omega) (by omega)]
          refine ⟨m - 1, _, by omega, ?_, 3, rfl, by omega, ?_⟩
          · exact (Le.mv (by simp only [go_sem, hP, hn]; first | done | (simp; done) | (simp [intC]; done) | (repeat (first | rfl | constructor))) (by simp only [go_sem, hP, hn]; first | done | (simp; done) | (simp [intC]; done) | (repeat (first | rfl | constructor))))
          exact h1.trans (chn_f hc)
      · exact absurd hb (by simp)
    · (repeat (first | (refine TR.imp ?_; intro K hK; simp only [go_sem, hP, hn]; (repeat refine vc ?_); refine hK _ ?_; clear K hK) | refine TS.imp ?_ | refine n9 (by decide) ?_))
      refine Tr.cond rfl (fun hb => ?_) (fun hb => ?_)
      · (repeat (first | (refine TR.imp ?_; intro K hK; simp only [go_sem, hP, hn]; (repeat refine vc ?_); refine hK _ ?_; clear K hK) | refine TS.imp ?_ | refine n9 (by decide) ?_))
        refine TR.imp ?_; intro K hK; simp only [go_sem, hP, hn]; (repeat refine vc ?_); refine c2 (fun hg => by rw [hP, hT]; exact has_k Tk n 4) rfl rfl rfl (fun hg => trivial) (fun hg => by clear hK; revert hg; simp only [go_sem, hP, hn]; first | trivial | omega | (simp; done) | (simp +contextual; done) | grind) (fun hg => by simp only [go_sem, hP, hn]; try rfl) (by rw [hn]; decide) (by rfl) ?_; simp only [go_sem, hP, hn]; (repeat refine vc ?_); refine hK _ ?_; clear K hK
        refine Tr.cond rfl (fun hc => ?_) (fun hc => ?_)
        · (repeat (first | (refine TR.imp ?_; intro K hK; simp only [go_sem, hP, hn]; (repeat refine vc ?_); refine hK _ ?_; clear K hK) | refine TS.imp ?_ | refine n9 (by decide) ?_))
          simp only [RetQ, go_sem]
          exact congrArg S.d (congrArg D.b (h1.trans (chn_t hc)).symm)
        · (repeat (first | (refine TR.imp ?_; intro K hK; simp only [go_sem, hP, hn]; (repeat refine vc ?_); refine hK _ ?_; clear K hK) | refine TS.imp ?_ | refine n9 (by decide) ?_))
          rw [w64 (by omega) (by omega)]
          refine ⟨m - 1, _, by omega, ?_, 4, rfl, by omega, ?_⟩
          · exact (Le.mv (by simp only [go_sem, hP, hn]; first | done | (simp; done) | (simp [intC]; done) | (repeat (first | rfl | constructor))) (by simp only [go_sem, hP, hn]; first | done | (simp; done) | (simp [intC]; done) | (repeat (first | rfl | constructor))))
          exact h1.trans (chn_f hc)
      · exact absurd hb (by simp)
    · (repeat (first | (refine TR.imp ?_; intro K hK; simp only [go_sem, hP, hn]; (repeat refine vc ?_); refine hK _ ?_; clear K hK) | refine TS.imp ?_ | refine n9 (by decide) ?_))
      refine Tr.cond rfl (fun hb => ?_) (fun hb => ?_)
      · (repeat (first | (refine TR.imp ?_; intro K hK; simp only [go_sem, hP, hn]; (repeat refine vc ?_); refine hK _ ?_; clear K hK) | refine TS.imp ?_ | refine n9 (by decide) ?_))
        refine TR.imp ?_; intro K hK; simp only [go_sem, hP, hn]; (repeat refine vc ?_); refine c2 (fun hg => by rw [hP, hT]; exact has_k Tk n 32) rfl rfl rfl (fun hg => trivial) (fun hg => by clear hK; revert hg; simp only [go_sem, hP, hn]; first | trivial | omega | (simp; done) | (simp +contextual; done) | grind) (fun hg => by simp only [go_sem, hP, hn]; try rfl) (by rw [hn]; decide) (by rfl) ?_; simp only [go_sem, hP, hn]; (repeat refine vc ?_); refine hK _ ?_; clear K hK
        refine Tr.cond rfl (fun hc => ?_) (fun hc => ?_)
        · (repeat (first | (refine TR.imp ?_; intro K hK; simp only [go_sem, hP, hn]; (repeat refine vc ?_); refine hK _ ?_; clear K hK) | refine TS.imp ?_ | refine n9 (by decide) ?_))
          simp only [RetQ, go_sem]
          exact congrArg S.d (congrArg D.b (h1.trans (chn_t hc)).symm)
        · (repeat (first | (refine TR.imp ?_; intro K hK; simp only [go_sem, hP, hn]; (repeat refine vc ?_); refine hK _ ?_; clear K hK) | refine TS.imp ?_ | refine n9 (by decide) ?_))
          rw [w64 (by omega) (by omega)]
          refine ⟨m - 1, _, by omega, ?_, 5, rfl, by omega, ?_⟩
          · exact (Le.mv (by simp only [go_sem, hP, hn]; first | done | (simp; done) | (simp [intC]; done) | (repeat (first | rfl | constructor))) (by simp only [go_sem, hP, hn]; first | done | (simp; done) | (simp [intC]; done) | (repeat (first | rfl | constructor))))
          exact h1.trans (chn_f hc)
      · exact absurd hb (by simp)
    · (repeat (first | (refine TR.imp ?_; intro K hK; simp only [go_sem, hP, hn]; (repeat refine vc ?_); refine hK _ ?_; clear K hK) | refine TS.imp ?_ | refine n9 (by decide) ?_))
      refine Tr.cond rfl (fun hb => ?_) (fun hb => ?_)
      · (repeat (first | (refine TR.imp ?_; intro K hK; simp only [go_sem, hP, hn]; (repeat refine vc ?_); refine hK _ ?_; clear K hK) | refine TS.imp ?_ | refine n9 (by decide) ?_))
        refine TR.imp ?_; intro K hK; simp only [go_sem, hP, hn]; (repeat refine vc ?_); refine c2 (fun hg => by rw [hP, hT]; exact has_k Tk n 64) rfl rfl rfl (fun hg => trivial) (fun hg => by clear hK; revert hg; simp only [go_sem, hP, hn]; first | trivial | omega | (simp; done) | (simp +contextual; done) | grind) (fun hg => by simp only [go_sem, hP, hn]; try rfl) (by rw [hn]; decide) (by rfl) ?_; simp only [go_sem, hP, hn]; (repeat refine vc ?_); refine hK _ ?_; clear K hK
        refine Tr.cond rfl (fun hc => ?_) (fun hc => ?_)
        · (repeat (first | (refine TR.imp ?_; intro K hK; simp only [go_sem, hP, hn]; (repeat refine vc ?_); refine hK _ ?_; clear K hK) | refine TS.imp ?_ | refine n9 (by decide) ?_))
          simp only [RetQ, go_sem]
          exact congrArg S.d (congrArg D.b (h1.trans (chn_t hc)).symm)
        · (repeat (first | (refine TR.imp ?_; intro K hK; simp only [go_sem, hP, hn]; (repeat refine vc ?_); refine hK _ ?_; clear K hK) | refine TS.imp ?_ | refine n9 (by decide) ?_))
          rw [w64 (by omega) (by omega)]
          refine ⟨m - 1, _, by omega, ?_, 6, rfl, by omega, ?_⟩
          · exact (Le.mv (by simp only [go_sem, hP, hn]; first | done | (simp; done) | (simp [intC]; done) | (repeat (first | rfl | constructor))) (by simp only [go_sem, hP, hn]; first | done | (simp; done) | (simp [intC]; done) | (repeat (first | rfl | constructor))))
          exact h1.trans (chn_f hc)
      · exact absurd hb (by simp)
  · (repeat (first | (refine TR.imp ?_; intro K hK; simp only [go_sem, hP, hn]; (repeat refine vc ?_); refine hK _ ?_; clear K hK) | refine TS.imp ?_ | refine n9 (by decide) ?_))
    refine Tr.cond rfl (fun hb => ?_) (fun hb => ?_)
    · exact absurd (of_decide_eq_true hb) (by omega)
    · (repeat (first | (refine TR.imp ?_; intro K hK; simp only [go_sem, hP, hn]; (repeat refine vc ?_); refine hK _ ?_; clear K hK) | refine TS.imp ?_ | refine n9 (by decide) ?_))
      simp only [RetQ, go_sem]
      have : j = 6 := by omega
      subst this
      rw [h1]; rfl
theorem fits_k {T : World → Prop} (Tk : KT T) (n : Nd) (v : Int) (hw : n.ws.length ≤ 65536) (hs : n.bs.length ≤ 65536) : Ct Go.Proofs.Tryd.prog T 90 [.agg n.cs, .d (.i .i64 v)] true (fun r => r = .d (.b (n.fits v))) := by
  refine Ct_of Tk.m Go.Proofs.Tryd.func90 rfl rfl Go.Proofs.Tryd.ntmps90 (by simp) (rs := [.tmp 4]) rfl fun E hP hn hT => ?_
  (repeat (first | (refine TR.imp ?_; intro K hK; simp only [go_sem, hP, hn]; (repeat refine vc ?_); refine hK _ ?_; clear K hK) | refine TS.imp ?_ | refine n9 (by decide) ?_))
  refine TR.imp ?_; intro K hK; simp only [go_sem, hP, hn]; (repeat refine vc ?_); refine c1 (by rw [hP, hT]; exact has_k Tk n 17) rfl rfl rfl trivial (by simp only [go_sem, hP, hn]; try trivial) (by simp only [go_sem, hP, hn]; try rfl) (by rw [hn]; decide) (by rfl) ?_; simp only [go_sem, hP, hn]; (repeat refine vc ?_); refine c2 (fun hg => by rw [hP, hT]; exact in_k Tk.m n.size 1 8) rfl rfl rfl (fun hg => trivial) (fun hg => by clear hK; revert hg; simp only [go_sem, hP, hn]; first | trivial | omega | (simp; done) | (simp +contextual; done) | grind) (fun hg => by simp only [go_sem, hP, hn]; try rfl) (by rw [hn]; decide) (by rfl) ?_; simp only [go_sem, hP, hn]; (repeat refine vc ?_); refine c2 (fun hg => by rw [hP, hT]; exact has_k Tk n 2) rfl rfl rfl (fun hg => trivial) (fun hg => by clear hK; revert hg; simp only [go_sem, hP, hn]; first | trivial | omega | (simp; done) | (simp +contextual; done) | grind) (fun hg => by simp only [go_sem, hP, hn]; try rfl) (by rw [hn]; decide) (by rfl) ?_; simp only [go_sem, hP, hn]; (repeat refine vc ?_); refine c2 (fun hg => by rw [hP, hT]; exact in_k Tk.m n.wid 1 16) rfl rfl rfl (fun hg => trivial) (fun hg => by clear hK; revert hg; simp only [go_sem, hP, hn]; first | trivial | omega | (simp; done) | (simp +contextual; done) | grind) (fun hg => by simp only [go_sem, hP, hn]; try rfl) (by rw [hn]; decide) (by rfl) ?_; simp only [go_sem, hP, hn]; (repeat refine vc ?_); refine hK _ ?_; clear K hK
  refine Tr.cond rfl (fun h1 => ?_) (fun h1 => ?_)
  · (repeat (first | (refine TR.imp ?_; intro K hK; simp only [go_sem, hP, hn]; (repeat refine vc ?_); refine hK _ ?_; clear K hK) | refine TS.imp ?_ | refine n9 (by decide) ?_))
    simp only [RetQ, go_sem]
    have e : n.fit1 = true := h1
    unfold Nd.fits; rw [e]; rfl
  replace h1 : n.fit1 = false := h1
  (repeat (first | (refine TR.imp ?_; intro K hK; simp only [go_sem, hP, hn]; (repeat refine vc ?_); refine hK _ ?_; clear K hK) | refine TS.imp ?_ | refine n9 (by decide) ?_))
  (first | refine d1 (.p true 0 (.alt 1 (.p false 2 (.p true 3 (.p true 4 (.alt 5 (.p false 6 (.p true 7 (.p true 8 (.alt 9 (.p false 10 (.p false 11 (.p true 12 (.p true 13 (.p true 14 (.alt 15 (.p false 16 (.alt 17 (.p false 18 (.p false 19 (.p true 20 (.p true 21 (.p true 22 (.alt 23 (.p false 24 (.alt 25 (.p false 26 (.p false 27 (.p false 28 .nil))) .nil)) .nil)))))) .nil)) .nil)))))) .nil)))) .nil)))) .nil)) [] (by rw [hP]; kernel_rfl) (by kernel_rfl) (by simp only [go_sem, hP, hn]; try simp) (fun _ _ h => h) fun K hK => ?_ | refine d2 (.p true 0 (.alt 1 (.p false 2 (.p true 3 (.p true 4 (.alt 5 (.p false 6 (.p true 7 (.p true 8 (.alt 9 (.p false 10 (.p false 11 (.p true 12 (.p true 13 (.p true 14 (.alt 15 (.p false 16 (.alt 17 (.p false 18 (.p false 19 (.p true 20 (.p true 21 (.p true 22 (.alt 23 (.p false 24 (.alt 25 (.p false 26 (.p false 27 (.p false 28 .nil))) .nil)) .nil)))))) .nil)) .nil)))))) .nil)))) .nil)))) .nil)) [] (by rw [hP]; kernel_rfl) (by kernel_rfl) (by simp only [go_sem, hP, hn]; try simp) (fun _ _ h => h) fun K hK => ?_ | refine d4 (.p true 0 (.alt 1 (.p false 2 (.p true 3 (.p true 4 (.alt 5 (.p false 6 (.p true 7 (.p true 8 (.alt 9 (.p false 10 (.p false 11 (.p true 12 (.p true 13 (.p true 14 (.alt 15 (.p false 16 (.alt 17 (.p false 18 (.p false 19 (.p true 20 (.p true 21 (.p true 22 (.alt 23 (.p false 24 (.alt 25 (.p false 26 (.p false 27 (.p false 28 .nil))) .nil)) .nil)))))) .nil)) .nil)))))) .nil)))) .nil)))) .nil)) [] (by rw [hP]; kernel_rfl) (by kernel_rfl) (by simp only [go_sem, hP, hn]; try simp) (fun _ _ h => h) fun K hK => ?_); simp only [go_sem, hP, hn]; (repeat refine vc ?_); refine p1 (by rw [hP, hT]; exact has_k Tk n 1) rfl rfl rfl trivial (by simp only [go_sem, hP, hn]; try trivial) (by simp only [go_sem, hP, hn]; try rfl) (by rw [hn]; decide) (by rfl) ?_; simp only [go_sem, hP, hn]; (repeat refine vc ?_); refine p2 (fun hg => by rw [hP, hT]; exact in_k Tk.m n.step 1 4) rfl rfl rfl (fun hg => trivial) (fun hg => by clear hK; revert hg; simp only [go_sem, hP, hn]; first | trivial | omega | (simp; done) | (simp +contextual; done) | grind) (fun hg => by simp only [go_sem, hP, hn]; try rfl) (by rw [hn]; decide) (by rfl) ?_; simp only [go_sem, hP, hn]; (repeat refine vc ?_); refine p2 (fun hg => by rw [hP, hT]; exact in_k Tk.m n.gap 1 4) rfl rfl rfl (fun hg => trivial) (fun hg => by clear hK; revert hg; simp only [go_sem, hP, hn]; first | trivial | omega | (simp; done) | (simp +contextual; done) | grind) (fun hg => by simp only [go_sem, hP, hn]; try rfl) (by rw [hn]; decide) (by rfl) ?_; simp only [go_sem, hP, hn]; (repeat refine vc ?_); refine p2 (fun hg => by rw [hP, hT]; exact Span_k Tk n) rfl rfl rfl (fun hg => trivial) (fun hg => by clear hK; revert hg; simp only [go_sem, hP, hn]; first | trivial | omega | (simp; done) | (simp +contextual; done) | grind) (fun hg => by simp only [go_sem, hP, hn]; try rfl) (by rw [hn]; decide) (by rfl) ?_; simp only [go_sem, hP, hn]; (repeat refine vc ?_); refine p2 (fun hg => by rw [hP, hT]; exact in_k Tk.m n.left 0 (wrap64 (n.span - 1))) rfl rfl rfl (fun hg => trivial) (fun hg => by clear hK; revert hg; simp only [go_sem, hP, hn]; first | trivial | omega | (simp; done) | (simp +contextual; done) | grind) (fun hg => by simp only [go_sem, hP, hn]; try rfl) (by rw [hn]; decide) (by rfl) ?_; simp only [go_sem, hP, hn]; (repeat refine vc ?_); refine p2 (fun hg => by rw [hP, hT]; exact Span_k Tk n) rfl rfl rfl (fun hg => trivial) (fun hg => by clear hK; revert hg; simp only [go_sem, hP, hn]; first | trivial | omega | (simp; done) | (simp +contextual; done) | grind) (fun hg => by simp only [go_sem, hP, hn]; try rfl) (by rw [hn]; decide) (by rfl) ?_; simp only [go_sem, hP, hn]; (repeat refine vc ?_); refine p2 (fun hg => by rw [hP, hT]; exact in_k Tk.m n.right 0 (wrap64 (n.span - 1))) rfl rfl rfl (fun hg => trivial) (fun hg => by clear hK; revert hg; simp only [go_sem, hP, hn]; first | trivial | omega | (simp; done) | (simp +contextual; done) | grind) (fun hg => by simp only [go_sem, hP, hn]; try rfl) (by rw [hn]; decide) (by rfl) ?_; simp only [go_sem, hP, hn]; (repeat refine vc ?_); refine hK _ ?_; clear K hK
  have e3 : n.fit3 = (n.has 1 && !(inB n.step 1 4 && inB n.gap 1 4 && inB n.left 0 (wrap64 (n.span - 1)) && inB n.right 0 (wrap64 (n.span - 1)))) := by unfold Nd.fit3; simp only [Bool.not_and]
  refine Tr.cond rfl (fun h3 => ?_) (fun h3 => ?_)
  · (repeat (first | (refine TR.imp ?_; intro K hK; simp only [go_sem, hP, hn]; (repeat refine vc ?_); refine hK _ ?_; clear K hK) | refine TS.imp ?_ | refine n9 (by decide) ?_))
    simp only [RetQ, go_sem]
    have e : n.fit3 = true := e3.trans h3
    unfold Nd.fits; rw [h1, e]; rfl
  replace h3 : n.fit3 = false := e3.trans h3
  (repeat (first | (refine TR.imp ?_; intro K hK; simp only [go_sem, hP, hn]; (repeat refine vc ?_); refine hK _ ?_; clear K hK) | refine TS.imp ?_ | refine n9 (by decide) ?_))
  refine TR.imp ?_; intro K hK; simp only [go_sem, hP, hn]; (repeat refine vc ?_); refine c1 (by rw [hP, hT]; exact has_k Tk n 4) rfl rfl rfl trivial (by simp only [go_sem, hP, hn]; try trivial) (by simp only [go_sem, hP, hn]; try rfl) (by rw [hn]; decide) (by rfl) ?_; simp only [go_sem, hP, hn]; (repeat refine vc ?_); refine hK _ ?_; clear K hK
  refine Tr.cond rfl (fun h4 => ?_) (fun h4 => ?_)
  · (repeat (first | (refine TR.imp ?_; intro K hK; simp only [go_sem, hP, hn]; (repeat refine vc ?_); refine hK _ ?_; clear K hK) | refine TS.imp ?_ | refine n9 (by decide) ?_))
    refine Tr.cond rfl (fun h2 => ?_) (fun h2 => ?_)
    · (repeat (first | (refine TR.imp ?_; intro K hK; simp only [go_sem, hP, hn]; (repeat refine vc ?_); refine hK _ ?_; clear K hK) | refine TS.imp ?_ | refine n9 (by decide) ?_))
      refine TR.imp ?_; intro K hK; simp only [go_sem, hP, hn]; (repeat refine vc ?_); refine c2 (fun hg => by rw [hP, hT]; exact every_k Tk.m n.ws (-128) 127 hw) rfl rfl rfl (fun hg => trivial) (fun hg => by clear hK; revert hg; simp only [go_sem, hP, hn]; first | trivial | omega | (simp; done) | (simp +contextual; done) | grind) (fun hg => by simp only [go_sem, hP, hn]; try rfl) (by rw [hn]; decide) (by rfl) ?_; simp only [go_sem, hP, hn]; (repeat refine vc ?_); refine c2 (fun hg => by rw [hP, hT]; exact every_k Tk.m n.bs (-16777216) 16777216 hs) rfl rfl rfl (fun hg => trivial) (fun hg => by clear hK; revert hg; simp only [go_sem, hP, hn]; first | trivial | omega | (simp; done) | (simp +contextual; done) | grind) (fun hg => by simp only [go_sem, hP, hn]; try rfl) (by rw [hn]; decide) (by rfl) ?_; simp only [go_sem, hP, hn]; (repeat refine vc ?_); refine hK _ ?_; clear K hK
      refine Tr.cond rfl (fun h12 => ?_) (fun h12 => ?_)
      · (repeat (first | (refine TR.imp ?_; intro K hK; simp only [go_sem, hP, hn]; (repeat refine vc ?_); refine hK _ ?_; clear K hK) | refine TS.imp ?_ | refine n9 (by decide) ?_))
        simp only [RetQ, go_sem]
        have e : n.fits v = n.fitW (v) (wrap64 n.size) := by unfold Nd.fits; simp only [h1, h3, h4, h2, if_true, if_false, Bool.false_eq_true]
        rw [Int.one_mul] at h12; rw [e]; unfold Nd.fitW Nd.fit12; rw [h12]; rfl
      · (repeat (first | (refine TR.imp ?_; intro K hK; simp only [go_sem, hP, hn]; (repeat refine vc ?_); refine hK _ ?_; clear K hK) | refine TS.imp ?_ | refine n9 (by decide) ?_))
        refine TR.imp ?_; intro K hK; simp only [go_sem, hP, hn]; (repeat refine vc ?_); refine c1 (by rw [hP, hT]; exact in_k Tk.m n.mult 0 32767) rfl rfl rfl trivial (by simp only [go_sem, hP, hn]; try trivial) (by simp only [go_sem, hP, hn]; try rfl) (by rw [hn]; decide) (by rfl) ?_; simp only [go_sem, hP, hn]; (repeat refine vc ?_); refine c2 (fun hg => by rw [hP, hT]; exact in_k Tk.m n.shift 0 30) rfl rfl rfl (fun hg => trivial) (fun hg => by clear hK; revert hg; simp only [go_sem, hP, hn]; first | trivial | omega | (simp; done) | (simp +contextual; done) | grind) (fun hg => by simp only [go_sem, hP, hn]; try rfl) (by rw [hn]; decide) (by rfl) ?_; simp only [go_sem, hP, hn]; (repeat refine vc ?_); refine c2 (fun hg => by rw [hP, hT]; exact in_k Tk.m n.low (-2147483648) n.high) rfl rfl rfl (fun hg => trivial) (fun hg => by clear hK; revert hg; simp only [go_sem, hP, hn]; first | trivial | omega | (simp; done) | (simp +contextual; done) | grind) (fun hg => by simp only [go_sem, hP, hn]; try rfl) (by rw [hn]; decide) (by rfl) ?_; simp only [go_sem, hP, hn]; (repeat refine vc ?_); refine c2 (fun hg => by rw [hP, hT]; exact in_k Tk.m n.high n.low 2147483647) rfl rfl rfl (fun hg => trivial) (fun hg => by clear hK; revert hg; simp only [go_sem, hP, hn]; first | trivial | omega | (simp; done) | (simp +contextual; done) | grind) (fun hg => by simp only [go_sem, hP, hn]; try rfl) (by rw [hn]; decide) (by rfl) ?_; simp only [go_sem, hP, hn]; (repeat refine vc ?_); refine hK _ ?_; clear K hK
        (repeat (first | (refine TR.imp ?_; intro K hK; simp only [go_sem, hP, hn]; (repeat refine vc ?_); refine hK _ ?_; clear K hK) | refine TS.imp ?_ | refine n9 (by decide) ?_))
        simp only [RetQ, go_sem]
        have e : n.fits v = n.fitW (v) (wrap64 n.size) := by unfold Nd.fits; simp only [h1, h3, h4, h2, if_true, if_false, Bool.false_eq_true]
        rw [Int.one_mul] at h12; rw [e]; unfold Nd.fitW Nd.fit12; rw [h12]; rfl
    · (repeat (first | (refine TR.imp ?_; intro K hK; simp only [go_sem, hP, hn]; (repeat refine vc ?_); refine hK _ ?_; clear K hK) | refine TS.imp ?_ | refine n9 (by decide) ?_))
      refine Tr.cond rfl (fun h5 => ?_) (fun h5 => ?_)
      · (repeat (first | (refine TR.imp ?_; intro K hK; simp only [go_sem, hP, hn]; (repeat refine vc ?_); refine hK _ ?_; clear K hK) | refine TS.imp ?_ | refine n9 (by decide) ?_))
        refine TR.imp ?_; intro K hK; simp only [go_sem, hP, hn]; (repeat refine vc ?_); refine c2 (fun hg => by rw [hP, hT]; exact every_k Tk.m n.ws (-128) 127 hw) rfl rfl rfl (fun hg => trivial) (fun hg => by clear hK; revert hg; simp only [go_sem, hP, hn]; first | trivial | omega | (simp; done) | (simp +contextual; done) | grind) (fun hg => by simp only [go_sem, hP, hn]; try rfl) (by rw [hn]; decide) (by rfl) ?_; simp only [go_sem, hP, hn]; (repeat refine vc ?_); refine c2 (fun hg => by rw [hP, hT]; exact every_k Tk.m n.bs (-16777216) 16777216 hs) rfl rfl rfl (fun hg => trivial) (fun hg => by clear hK; revert hg; simp only [go_sem, hP, hn]; first | trivial | omega | (simp; done) | (simp +contextual; done) | grind) (fun hg => by simp only [go_sem, hP, hn]; try rfl) (by rw [hn]; decide) (by rfl) ?_; simp only [go_sem, hP, hn]; (repeat refine vc ?_); refine hK _ ?_; clear K hK
        refine Tr.cond rfl (fun h12 => ?_) (fun h12 => ?_)
        · (repeat (first | (refine TR.imp ?_; intro K hK; simp only [go_sem, hP, hn]; (repeat refine vc ?_); refine hK _ ?_; clear K hK) | refine TS.imp ?_ | refine n9 (by decide) ?_))
          simp only [RetQ, go_sem]
          have e : n.fits v = n.fitW (n.wid) (wrap64 (v * n.size)) := by unfold Nd.fits; simp only [h1, h3, h4, h2, h5, if_true, if_false, Bool.false_eq_true]
          rw [e]; unfold Nd.fitW Nd.fit12; rw [h12]; rfl
        · (repeat (first | (refine TR.imp ?_; intro K hK; simp only [go_sem, hP, hn]; (repeat refine vc ?_); refine hK _ ?_; clear K hK) | refine TS.imp ?_ | refine n9 (by decide) ?_))
          refine TR.imp ?_; intro K hK; simp only [go_sem, hP, hn]; (repeat refine vc ?_); refine c1 (by rw [hP, hT]; exact in_k Tk.m n.mult 0 32767) rfl rfl rfl trivial (by simp only [go_sem, hP, hn]; try trivial) (by simp only [go_sem, hP, hn]; try rfl) (by rw [hn]; decide) (by rfl) ?_; simp only [go_sem, hP, hn]; (repeat refine vc ?_); refine c2 (fun hg => by rw [hP, hT]; exact in_k Tk.m n.shift 0 30) rfl rfl rfl (fun hg => trivial) (fun hg => by clear hK; revert hg; simp only [go_sem, hP, hn]; first | trivial | omega | (simp; done) | (simp +contextual; done) | grind) (fun hg => by simp only [go_sem, hP, hn]; try rfl) (by rw [hn]; decide) (by rfl) ?_; simp only [go_sem, hP, hn]; (repeat refine vc ?_); refine c2 (fun hg => by rw [hP, hT]; exact in_k Tk.m n.low (-2147483648) n.high) rfl rfl rfl (fun hg => trivial) (fun hg => by clear hK; revert hg; simp only [go_sem, hP, hn]; first | trivial | omega | (simp; done) | (simp +contextual; done) | grind) (fun hg => by simp only [go_sem, hP, hn]; try rfl) (by rw [hn]; decide) (by rfl) ?_; simp only [go_sem, hP, hn]; (repeat refine vc ?_); refine c2 (fun hg => by rw [hP, hT]; exact in_k Tk.m n.high n.low 2147483647) rfl rfl rfl (fun hg => trivial) (fun hg => by clear hK; revert hg; simp only [go_sem, hP, hn]; first | trivial | omega | (simp; done) | (simp +contextual; done) | grind) (fun hg => by simp only [go_sem, hP, hn]; try rfl) (by rw [hn]; decide) (by rfl) ?_; simp only [go_sem, hP, hn]; (repeat refine vc ?_); refine hK _ ?_; clear K hK
          (repeat (first | (refine TR.imp ?_; intro K hK; simp only [go_sem, hP, hn]; (repeat refine vc ?_); refine hK _ ?_; clear K hK) | refine TS.imp ?_ | refine n9 (by decide) ?_))
          simp only [RetQ, go_sem]
          have e : n.fits v = n.fitW (n.wid) (wrap64 (v * n.size)) := by unfold Nd.fits; simp only [h1, h3, h4, h2, h5, if_true, if_false, Bool.false_eq_true]
          rw [e]; unfold Nd.fitW Nd.fit12; rw [h12]; rfl
      · (repeat (first | (refine TR.imp ?_; intro K hK; simp only [go_sem, hP, hn]; (repeat refine vc ?_); refine hK _ ?_; clear K hK) | refine TS.imp ?_ | refine n9 (by decide) ?_))
        refine TR.imp ?_; intro K hK; simp only [go_sem, hP, hn]; (repeat refine vc ?_); refine c2 (fun hg => by rw [hP, hT]; exact every_k Tk.m n.ws (-128) 127 hw) rfl rfl rfl (fun hg => trivial) (fun hg => by clear hK; revert hg; simp only [go_sem, hP, hn]; first | trivial | omega | (simp; done) | (simp +contextual; done) | grind) (fun hg => by simp only [go_sem, hP, hn]; try rfl) (by rw [hn]; decide) (by rfl) ?_; simp only [go_sem, hP, hn]; (repeat refine vc ?_); refine c2 (fun hg => by rw [hP, hT]; exact every_k Tk.m n.bs (-16777216) 16777216 hs) rfl rfl rfl (fun hg => trivial) (fun hg => by clear hK; revert hg; simp only [go_sem, hP, hn]; first | trivial | omega | (simp; done) | (simp +contextual; done) | grind) (fun hg => by simp only [go_sem, hP, hn]; try rfl) (by rw [hn]; decide) (by rfl) ?_; simp only [go_sem, hP, hn]; (repeat refine vc ?_); refine hK _ ?_; clear K hK
        refine Tr.cond rfl (fun h12 => ?_) (fun h12 => ?_)
        · (repeat (first | (refine TR.imp ?_; intro K hK; simp only [go_sem, hP, hn]; (repeat refine vc ?_); refine hK _ ?_; clear K hK) | refine TS.imp ?_ | refine n9 (by decide) ?_))
          simp only [RetQ, go_sem]
          have e : n.fits v = n.fitW (n.wid) (v) := by unfold Nd.fits; simp only [h1, h3, h4, h2, h5, if_true, if_false, Bool.false_eq_true]
          rw [e]; unfold Nd.fitW Nd.fit12; rw [h12]; rfl
        · (repeat (first | (refine TR.imp ?_; intro K hK; simp only [go_sem, hP, hn]; (repeat refine vc ?_); refine hK _ ?_; clear K hK) | refine TS.imp ?_ | refine n9 (by decide) ?_))
          refine TR.imp ?_; intro K hK; simp only [go_sem, hP, hn]; (repeat refine vc ?_); refine c1 (by rw [hP, hT]; exact in_k Tk.m n.mult 0 32767) rfl rfl rfl trivial (by simp only [go_sem, hP, hn]; try trivial) (by simp only [go_sem, hP, hn]; try rfl) (by rw [hn]; decide) (by rfl) ?_; simp only [go_sem, hP, hn]; (repeat refine vc ?_); refine c2 (fun hg => by rw [hP, hT]; exact in_k Tk.m n.shift 0 30) rfl rfl rfl (fun hg => trivial) (fun hg => by clear hK; revert hg; simp only [go_sem, hP, hn]; first | trivial | omega | (simp; done) | (simp +contextual; done) | grind) (fun hg => by simp only [go_sem, hP, hn]; try rfl) (by rw [hn]; decide) (by rfl) ?_; simp only [go_sem, hP, hn]; (repeat refine vc ?_); refine c2 (fun hg => by rw [hP, hT]; exact in_k Tk.m n.low (-2147483648) n.high) rfl rfl rfl (fun hg => trivial) (fun hg => by clear hK; revert hg; simp only [go_sem, hP, hn]; first | trivial | omega | (simp; done) | (simp +contextual; done) | grind) (fun hg => by simp only [go_sem, hP, hn]; try rfl) (by rw [hn]; decide) (by rfl) ?_; simp only [go_sem, hP, hn]; (repeat refine vc ?_); refine c2 (fun hg => by rw [hP, hT]; exact in_k Tk.m n.high n.low 2147483647) rfl rfl rfl (fun hg => trivial) (fun hg => by clear hK; revert hg; simp only [go_sem, hP, hn]; first | trivial | omega | (simp; done) | (simp +contextual; done) | grind) (fun hg => by simp only [go_sem, hP, hn]; try rfl) (by rw [hn]; decide) (by rfl) ?_; simp only [go_sem, hP, hn]; (repeat refine vc ?_); refine hK _ ?_; clear K hK
          (repeat (first | (refine TR.imp ?_; intro K hK; simp only [go_sem, hP, hn]; (repeat refine vc ?_); refine hK _ ?_; clear K hK) | refine TS.imp ?_ | refine n9 (by decide) ?_))
          simp only [RetQ, go_sem]
          have e : n.fits v = n.fitW (n.wid) (v) := by unfold Nd.fits; simp only [h1, h3, h4, h2, h5, if_true, if_false, Bool.false_eq_true]
          rw [e]; unfold Nd.fitW Nd.fit12; rw [h12]; rfl
  · (repeat (first | (refine TR.imp ?_; intro K hK; simp only [go_sem, hP, hn]; (repeat refine vc ?_); refine hK _ ?_; clear K hK) | refine TS.imp ?_ | refine n9 (by decide) ?_))
    refine TR.imp ?_; intro K hK; simp only [go_sem, hP, hn]; (repeat refine vc ?_); refine c1 (by rw [hP, hT]; exact in_k Tk.m n.mult 0 32767) rfl rfl rfl trivial (by simp only [go_sem, hP, hn]; try trivial) (by simp only [go_sem, hP, hn]; try rfl) (by rw [hn]; decide) (by rfl) ?_; simp only [go_sem, hP, hn]; (repeat refine vc ?_); refine c2 (fun hg => by rw [hP, hT]; exact in_k Tk.m n.shift 0 30) rfl rfl rfl (fun hg => trivial) (fun hg => by clear hK; revert hg; simp only [go_sem, hP, hn]; first | trivial | omega | (simp; done) | (simp +contextual; done) | grind) (fun hg => by simp only [go_sem, hP, hn]; try rfl) (by rw [hn]; decide) (by rfl) ?_; simp only [go_sem, hP, hn]; (repeat refine vc ?_); refine c2 (fun hg => by rw [hP, hT]; exact in_k Tk.m n.low (-2147483648) n.high) rfl rfl rfl (fun hg => trivial) (fun hg => by clear hK; revert hg; simp only [go_sem, hP, hn]; first | trivial | omega | (simp; done) | (simp +contextual; done) | grind) (fun hg => by simp only [go_sem, hP, hn]; try rfl) (by rw [hn]; decide) (by rfl) ?_; simp only [go_sem, hP, hn]; (repeat refine vc ?_); refine c2 (fun hg => by rw [hP, hT]; exact in_k Tk.m n.high n.low 2147483647) rfl rfl rfl (fun hg => trivial) (fun hg => by clear hK; revert hg; simp only [go_sem, hP, hn]; first | trivial | omega | (simp; done) | (simp +contextual; done) | grind) (fun hg => by simp only [go_sem, hP, hn]; try rfl) (by rw [hn]; decide) (by rfl) ?_; simp only [go_sem, hP, hn]; (repeat refine vc ?_); refine hK _ ?_; clear K hK
    (repeat (first | (refine TR.imp ?_; intro K hK; simp only [go_sem, hP, hn]; (repeat refine vc ?_); refine hK _ ?_; clear K hK) | refine TS.imp ?_ | refine n9 (by decide) ?_))
    simp only [RetQ, go_sem]
    unfold Nd.fits; rw [h1, h3, h4]; rfl
theorem Check_k {T : World → Prop} (Tk : KT T) (n : Nd) (l : List Int) (hw : n.ws.length ≤ 65536) (hs : n.bs.length ≤ 65536) (hl : l.length ≤ 65536) (hi : n.inn.length ≤ 65536) : Ct Go.Proofs.Tryd.prog T 51 [.agg n.cs, .d (.row [.i .i64 0] (l.map intC))] true (fun r => r = .d (.i .i64 (n.chk l))) := by
  refine Ct_of Tk.m Go.Proofs.Tryd.func51 rfl rfl Go.Proofs.Tryd.ntmps51 (by simp) (rs := [.tmp 4]) rfl fun E hP hn hT => ?_
  (repeat (first | (refine TR.imp ?_; intro K hK; simp only [go_sem, hP, hn]; (repeat refine vc ?_); refine hK _ ?_; clear K hK) | refine TS.imp ?_ | refine n9 (by decide) ?_))
  refine TR.imp ?_; intro K hK; simp only [go_sem, hP, hn]; (repeat refine vc ?_); refine c2 (fun hg => by rw [hP, hT]; exact every_k Tk.m l 1 16 hl) rfl rfl rfl (fun hg => trivial) (fun hg => by clear hK; revert hg; simp only [go_sem, hP, hn]; first | trivial | omega | (simp; done) | (simp +contextual; done) | grind) (fun hg => by simp only [go_sem, hP, hn]; try rfl) (by rw [hn]; decide) (by rfl) ?_; simp only [go_sem, hP, hn]; (repeat refine vc ?_); refine hK _ ?_; clear K hK
  refine Tr.cond rfl (fun h1 => ?_) (fun h1 => ?_)
  · (repeat (first | (refine TR.imp ?_; intro K hK; simp only [go_sem, hP, hn]; (repeat refine vc ?_); refine hK _ ?_; clear K hK) | refine TS.imp ?_ | refine n9 (by decide) ?_))
    simp only [RetQ, go_sem]
    have e : n.chk1 l = true := h1
    unfold Nd.chk; rw [e]; rfl
  replace h1 : n.chk1 l = false := h1
  (repeat (first | (refine TR.imp ?_; intro K hK; simp only [go_sem, hP, hn]; (repeat refine vc ?_); refine hK _ ?_; clear K hK) | refine TS.imp ?_ | refine n9 (by decide) ?_))
  refine TR.imp ?_; intro K hK; simp only [go_sem, hP, hn]; (repeat refine vc ?_); refine c1 (by rw [hP, hT]; exact in_k Tk.m n.k 1 12) rfl rfl rfl trivial (by simp only [go_sem, hP, hn]; try trivial) (by simp only [go_sem, hP, hn]; try rfl) (by rw [hn]; decide) (by rfl) ?_; simp only [go_sem, hP, hn]; (repeat refine vc ?_); refine c2 (fun hg => by rw [hP, hT]; exact in_k Tk.m n.post 0 3) rfl rfl rfl (fun hg => trivial) (fun hg => by clear hK; revert hg; simp only [go_sem, hP, hn]; first | trivial | omega | (simp; done) | (simp +contextual; done) | grind) (fun hg => by simp only [go_sem, hP, hn]; try rfl) (by rw [hn]; decide) (by rfl) ?_; simp only [go_sem, hP, hn]; (repeat refine vc ?_); refine c2 (fun hg => by rw [hP, hT]; exact has_k Tk n 4) rfl rfl rfl (fun hg => trivial) (fun hg => by clear hK; revert hg; simp only [go_sem, hP, hn]; first | trivial | omega | (simp; done) | (simp +contextual; done) | grind) (fun hg => by simp only [go_sem, hP, hn]; try rfl) (by rw [hn]; decide) (by rfl) ?_; simp only [go_sem, hP, hn]; (repeat refine vc ?_); refine hK _ ?_; clear K hK
  refine Tr.cond rfl (fun h3 => ?_) (fun h3 => ?_)
  · (repeat (first | (refine TR.imp ?_; intro K hK; simp only [go_sem, hP, hn]; (repeat refine vc ?_); refine hK _ ?_; clear K hK) | refine TS.imp ?_ | refine n9 (by decide) ?_))
    simp only [RetQ, go_sem]
    have e : n.chk3 = true := h3
    unfold Nd.chk; rw [h1, e]; rfl
  replace h3 : n.chk3 = false := h3
  (repeat (first | (refine TR.imp ?_; intro K hK; simp only [go_sem, hP, hn]; (repeat refine vc ?_); refine hK _ ?_; clear K hK) | refine TS.imp ?_ | refine n9 (by decide) ?_))
  refine TR.imp ?_; intro K hK; simp only [go_sem, hP, hn]; (repeat refine vc ?_); refine c1 (by rw [hP, hT]; exact has_k Tk n 8) rfl rfl rfl trivial (by simp only [go_sem, hP, hn]; try trivial) (by simp only [go_sem, hP, hn]; try rfl) (by rw [hn]; decide) (by rfl) ?_; simp only [go_sem, hP, hn]; (repeat refine vc ?_); refine c2 (fun hg => by rw [hP, hT]; exact in_k Tk.m (l.length : Int) 2 4) rfl rfl rfl (fun hg => trivial) (fun hg => by clear hK; revert hg; simp only [go_sem, hP, hn]; first | trivial | omega | (simp; done) | (simp +contextual; done) | grind) (fun hg => by simp only [go_sem, hP, hn]; try rfl) (by rw [hn]; decide) (by rfl) ?_; simp only [go_sem, hP, hn]; (repeat refine vc ?_); refine c2 (fun hg => by rw [hP, hT]; exact has_k Tk n 8) rfl rfl rfl (fun hg => trivial) (fun hg => by clear hK; revert hg; simp only [go_sem, hP, hn]; first | trivial | omega | (simp; done) | (simp +contextual; done) | grind) (fun hg => by simp only [go_sem, hP, hn]; try rfl) (by rw [hn]; decide) (by rfl) ?_; simp only [go_sem, hP, hn]; (repeat refine vc ?_); refine c2 (fun hg => by rw [hP, hT]; exact bare_k Tk n) rfl rfl rfl (fun hg => trivial) (fun hg => by clear hK; revert hg; simp only [go_sem, hP, hn]; first | trivial | omega | (simp; done) | (simp +contextual; done) | grind) (fun hg => by simp only [go_sem, hP, hn]; try rfl) (by rw [hn]; decide) (by rfl) ?_; simp only [go_sem, hP, hn]; (repeat refine vc ?_); refine hK _ ?_; clear K hK
  refine Tr.cond rfl (fun h5 => ?_) (fun h5 => ?_)
  · (repeat (first | (refine TR.imp ?_; intro K hK; simp only [go_sem, hP, hn]; (repeat refine vc ?_); refine hK _ ?_; clear K hK) | refine TS.imp ?_ | refine n9 (by decide) ?_))
    simp only [RetQ, go_sem]
    have e : n.chk5 l = true := h5
    unfold Nd.chk; rw [h1, h3, e]; rfl
  replace h5 : n.chk5 l = false := h5
  have hne : 0 < l.length := List.length_pos_iff.2 fun e => by subst e; rw [Nd.chk5_nil] at h5; cases h5
  (repeat (first | (refine TR.imp ?_; intro K hK; simp only [go_sem, hP, hn]; (repeat refine vc ?_); refine hK _ ?_; clear K hK) | refine TS.imp ?_ | refine n9 (by decide) ?_))
  (first | refine d1 (.p true 0 (.p true 1 (.p true 2 (.p true 3 (.alt 4 (.p false 5 (.p false 6 .nil)) .nil))))) [] (by rw [hP]; kernel_rfl) (by kernel_rfl) (by simp only [go_sem, hP, hn]; try simp) (fun _ _ h => h) fun K hK => ?_ | refine d2 (.p true 0 (.p true 1 (.p true 2 (.p true 3 (.alt 4 (.p false 5 (.p false 6 .nil)) .nil))))) [] (by rw [hP]; kernel_rfl) (by kernel_rfl) (by simp only [go_sem, hP, hn]; try simp) (fun _ _ h => h) fun K hK => ?_ | refine d4 (.p true 0 (.p true 1 (.p true 2 (.p true 3 (.alt 4 (.p false 5 (.p false 6 .nil)) .nil))))) [] (by rw [hP]; kernel_rfl) (by kernel_rfl) (by simp only [go_sem, hP, hn]; try simp) (fun _ _ h => h) fun K hK => ?_); simp only [go_sem, hP, hn]; (repeat refine vc ?_); refine p1 (by rw [hP, hT]; exact fits_k Tk n (rd l 0) hw hs) rfl rfl rfl trivial (by simp only [go_sem, hP, hn]; try trivial) (by simp only [go_sem, hP, hn]; try rfl) (by rw [hn]; decide) (by rfl) ?_; simp only [go_sem, hP, hn]; (repeat refine vc ?_); refine hK _ ?_; clear K hK
  refine Tr.cond rfl (fun h7 => ?_) (fun h7 => ?_)
  · (repeat (first | (refine TR.imp ?_; intro K hK; simp only [go_sem, hP, hn]; (repeat refine vc ?_); refine hK _ ?_; clear K hK) | refine TS.imp ?_ | refine n9 (by decide) ?_))
    simp only [RetQ, go_sem]
    unfold Nd.chk; rw [h1, h3, h5, h7]; rfl
  (repeat (first | (refine TR.imp ?_; intro K hK; simp only [go_sem, hP, hn]; (repeat refine vc ?_); refine hK _ ?_; clear K hK) | refine TS.imp ?_ | refine n9 (by decide) ?_))
  have e0 : n.chk l = n.chkL (rd l 0) 0 l := by unfold Nd.chk; rw [h1, h3, h5, h7]; rfl
  refine Tr.loop (fun m s => ∃ j s0 : Int, s = ⟨[(74, .d (.i .i64 j)), (72, .d (.row [.i .i64 0] (l.map intC))), (73, .d (.i .i64 l.length)), (1, .d (.row [.i .i64 0] (l.map intC))), (5, .d (.i .i64 s0)), (2, .ptr 2 0)], [(2, .box 27 n.cs)]⟩ ∧ 0 ≤ j ∧ j + m = l.length ∧ n.chk l = n.chkL (rd l 0) s0 (l.drop j.toNat)) l.length ⟨_, (Le.mv (by simp only [go_sem, hP, hn]; first | done | (simp; done) | (simp [intC]; done) | (repeat (first | rfl | constructor))) (by simp only [go_sem, hP, hn]; first | done | (simp; done) | (simp [intC]; done) | (repeat (first | rfl | constructor)))), 0, 0, rfl, by omega, by omega, by simpa using e0⟩ ?_
  rintro m s ⟨j, s0, rfl, h0, hm, hc⟩
  (repeat (first | (refine TR.imp ?_; intro K hK; simp only [go_sem, hP, hn]; (repeat refine vc ?_); refine hK _ ?_; clear K hK) | refine TS.imp ?_ | refine n9 (by decide) ?_))
  refine Tr.cond rfl (fun hb => ?_) (fun hb => ?_)
  · have hj : j < l.length := by simpa using hb
    rw [drop_rd h0 hj] at hc
    (repeat (first | (refine TR.imp ?_; intro K hK; simp only [go_sem, hP, hn]; (repeat refine vc ?_); refine hK _ ?_; clear K hK) | refine TS.imp ?_ | refine n9 (by decide) ?_))
    refine Tr.cond rfl (fun hd => ?_) (fun hd => ?_)
    · (repeat (first | (refine TR.imp ?_; intro K hK; simp only [go_sem, hP, hn]; (repeat refine vc ?_); refine hK _ ?_; clear K hK) | refine TS.imp ?_ | refine n9 (by decide) ?_))
      simp only [RetQ, go_sem]
      rw [hc]; unfold Nd.chkL; rw [if_pos hd]
    · (repeat (first | (refine TR.imp ?_; intro K hK; simp only [go_sem, hP, hn]; (repeat refine vc ?_); refine hK _ ?_; clear K hK) | refine TS.imp ?_ | refine n9 (by decide) ?_))
      rw [w64 (x := j + 1) (by omega) (by omega)]
      refine ⟨m - 1, _, by omega, ?_, j + 1, wrap64 (s0 + rd l j), rfl, by omega, by omega, ?_⟩
      · exact (Le.mv (by simp only [go_sem, hP, hn]; first | done | (simp; done) | (simp [intC]; done) | (repeat (first | rfl | constructor))) (by simp only [go_sem, hP, hn]; first | done | (simp; done) | (simp [intC]; done) | (repeat (first | rfl | constructor))))
      rw [hc, show (j + 1).toNat = j.toNat + 1 by omega]; conv => lhs; unfold Nd.chkL
      rw [if_neg (by rw [hd]; decide)]
  · rw [drop_end (by simpa using hb)] at hc
    (repeat (first | (refine TR.imp ?_; intro K hK; simp only [go_sem, hP, hn]; (repeat refine vc ?_); refine hK _ ?_; clear K hK) | refine TS.imp ?_ | refine n9 (by decide) ?_))
    refine Tr.cond rfl (fun hd => ?_) (fun hd => ?_)
    · (repeat (first | (refine TR.imp ?_; intro K hK; simp only [go_sem, hP, hn]; (repeat refine vc ?_); refine hK _ ?_; clear K hK) | refine TS.imp ?_ | refine n9 (by decide) ?_))
      simp only [RetQ, go_sem]
      rw [hc]; unfold Nd.chkL; rw [if_pos hd]
    · (repeat (first | (refine TR.imp ?_; intro K hK; simp only [go_sem, hP, hn]; (repeat refine vc ?_); refine hK _ ?_; clear K hK) | refine TS.imp ?_ | refine n9 (by decide) ?_))
      simp only [RetQ, go_sem]
      rw [hc]; unfold Nd.chkL; rw [if_neg (by rw [hd]; decide)]
theorem Width_k {T : World → Prop} (Tk : KT T) (n : Nd) (l : List Int) (hw : n.ws.length ≤ 65536) (hs : n.bs.length ≤ 65536) (hl : l.length ≤ 65536) (hi : n.inn.length ≤ 65536) : Ct Go.Proofs.Tryd.prog T 122 [.agg n.cs, .d (.row [.i .i64 0] (l.map intC))] true (fun r => r = .d (.i .i64 (n.wide l))) := by
  refine Ct_of Tk.m Go.Proofs.Tryd.func122 rfl rfl Go.Proofs.Tryd.ntmps122 (by simp) (rs := [.tmp 4]) rfl fun E hP hn hT => ?_
  (repeat (first | (refine TR.imp ?_; intro K hK; simp only [go_sem, hP, hn]; (repeat refine vc ?_); refine hK _ ?_; clear K hK) | refine TS.imp ?_ | refine n9 (by decide) ?_))
  refine TR.imp ?_; intro K hK; simp only [go_sem, hP, hn]; (repeat refine vc ?_); refine c1 (by rw [hP, hT]; exact Check_k Tk n l hw hs hl hi) rfl rfl rfl trivial (by simp only [go_sem, hP, hn]; try trivial) (by simp only [go_sem, hP, hn]; try rfl) (by rw [hn]; decide) (by rfl) ?_; simp only [go_sem, hP, hn]; (repeat refine vc ?_); refine hK _ ?_; clear K hK
  refine Tr.cond rfl (fun h1 => ?_) (fun h1 => ?_)
  · (repeat (first | (refine TR.imp ?_; intro K hK; simp only [go_sem, hP, hn]; (repeat refine vc ?_); refine hK _ ?_; clear K hK) | refine TS.imp ?_ | refine n9 (by decide) ?_))
    simp only [RetQ, go_sem]
    unfold Nd.wide; rw [h1]; rfl
  have hne : 0 < l.length := List.length_pos_iff.2 fun e => by subst e; exact n.chk_ne (by simpa using h1)
  (repeat (first | (refine TR.imp ?_; intro K hK; simp only [go_sem, hP, hn]; (repeat refine vc ?_); refine hK _ ?_; clear K hK) | refine TS.imp ?_ | refine n9 (by decide) ?_))
  refine TR.imp ?_; intro K hK; simp only [go_sem, hP, hn]; (repeat refine vc ?_); refine c1 (by rw [hP, hT]; exact has_k Tk n 2) rfl rfl rfl trivial (by simp only [go_sem, hP, hn]; try trivial) (by simp only [go_sem, hP, hn]; try rfl) (by rw [hn]; decide) (by rfl) ?_; simp only [go_sem, hP, hn]; (repeat refine vc ?_); refine hK _ ?_; clear K hK
  refine Tr.cond rfl (fun h2 => ?_) (fun h2 => ?_)
  · (repeat (first | (refine TR.imp ?_; intro K hK; simp only [go_sem, hP, hn]; (repeat refine vc ?_); refine hK _ ?_; clear K hK) | refine TS.imp ?_ | refine n9 (by decide) ?_))
    simp only [RetQ, go_sem]
    unfold Nd.wide; rw [h1, h2]; rfl
  (repeat (first | (refine TR.imp ?_; intro K hK; simp only [go_sem, hP, hn]; (repeat refine vc ?_); refine hK _ ?_; clear K hK) | refine TS.imp ?_ | refine n9 (by decide) ?_))
  refine Tr.cond rfl (fun h3 => ?_) (fun h3 => ?_)
  · (repeat (first | (refine TR.imp ?_; intro K hK; simp only [go_sem, hP, hn]; (repeat refine vc ?_); refine hK _ ?_; clear K hK) | refine TS.imp ?_ | refine n9 (by decide) ?_))
    simp only [RetQ, go_sem]
    unfold Nd.wide; rw [h1, h2, h3]; rfl
  (repeat (first | (refine TR.imp ?_; intro K hK; simp only [go_sem, hP, hn]; (repeat refine vc ?_); refine hK _ ?_; clear K hK) | refine TS.imp ?_ | refine n9 (by decide) ?_))
  refine Tr.cond rfl (fun h4 => ?_) (fun h4 => ?_)
  · (repeat (first | (refine TR.imp ?_; intro K hK; simp only [go_sem, hP, hn]; (repeat refine vc ?_); refine hK _ ?_; clear K hK) | refine TS.imp ?_ | refine n9 (by decide) ?_))
    have e0 : n.wide l = sumL 0 l := by unfold Nd.wide; rw [h1, h2, h3, h4]; rfl
    refine Tr.loop (fun m s => ∃ j s0 : Int, s = ⟨[(27, .d (.i .i64 j)), (25, .d (.row [.i .i64 0] (l.map intC))), (26, .d (.i .i64 l.length)), (5, .d (.i .i64 s0))], []⟩ ∧ 0 ≤ j ∧ j + m = l.length ∧ n.wide l = sumL s0 (l.drop j.toNat)) l.length ⟨_, (Le.mv (by simp only [go_sem, hP, hn]; first | done | (simp; done) | (simp [intC]; done) | (repeat (first | rfl | constructor))) (by simp only [go_sem, hP, hn]; first | done | (simp; done) | (simp [intC]; done) | (repeat (first | rfl | constructor)))), 0, 0, rfl, by omega, by omega, by simpa using e0⟩ ?_
    rintro m s ⟨j, s0, rfl, h0, hm, hc⟩
    (repeat (first | (refine TR.imp ?_; intro K hK; simp only [go_sem, hP, hn]; (repeat refine vc ?_); refine hK _ ?_; clear K hK) | refine TS.imp ?_ | refine n9 (by decide) ?_))
    refine Tr.cond rfl (fun hb => ?_) (fun hb => ?_)
    · have hj : j < l.length := by simpa using hb
      rw [drop_rd h0 hj] at hc
      (repeat (first | (refine TR.imp ?_; intro K hK; simp only [go_sem, hP, hn]; (repeat refine vc ?_); refine hK _ ?_; clear K hK) | refine TS.imp ?_ | refine n9 (by decide) ?_))
      rw [w64 (x := j + 1) (by omega) (by omega)]
      refine ⟨m - 1, _, by omega, ?_, j + 1, wrap64 (s0 + rd l j), rfl, by omega, by omega, ?_⟩
      · exact (Le.mv (by simp only [go_sem, hP, hn]; first | done | (simp; done) | (simp [intC]; done) | (repeat (first | rfl | constructor))) (by simp only [go_sem, hP, hn]; first | done | (simp; done) | (simp [intC]; done) | (repeat (first | rfl | constructor))))
      rw [hc, show (j + 1).toNat = j.toNat + 1 by omega]; rfl
    · rw [drop_end (by simpa using hb)] at hc
      (repeat (first | (refine TR.imp ?_; intro K hK; simp only [go_sem, hP, hn]; (repeat refine vc ?_); refine hK _ ?_; clear K hK) | refine TS.imp ?_ | refine n9 (by decide) ?_))
      simp only [RetQ, go_sem]
      rw [hc]; rfl
  · (repeat (first | (refine TR.imp ?_; intro K hK; simp only [go_sem, hP, hn]; (repeat refine vc ?_); refine hK _ ?_; clear K hK) | refine TS.imp ?_ | refine n9 (by decide) ?_))
    simp only [RetQ, go_sem]
    unfold Nd.wide; rw [h1, h2, h3, h4]; rfl
theorem may_c {T : World → Prop} (Tm : TP T) (wd lo hi out : Int) (ns : List Nd) (hn : ns.length ≤ 65536) (hin : ∀ n ∈ ns, n.inn.length ≤ 65536) : Ct Go.Proofs.Tryd.prog T 118 [.agg (gcs wd lo hi out (.d (rowN ns)))] true (fun r => r = .d (.i .i64 (mayG wd lo hi out ns))) := by
  refine Ct_of Tm Go.Proofs.Tryd.func118 rfl rfl Go.Proofs.Tryd.ntmps118 (by simp) (rs := [.tmp 2]) rfl fun E hP hn hT => ?_
  (repeat (first | (refine TR.imp ?_; intro K hK; simp only [go_sem, hP, hn]; (repeat refine vc ?_); refine hK _ ?_; clear K hK) | refine TS.imp ?_ | refine n9 (by decide) ?_))
  refine Tr.cond rfl (fun h1 => ?_) (fun h1 => ?_)
  · (repeat (first | (refine TR.imp ?_; intro K hK; simp only [go_sem, hP, hn]; (repeat refine vc ?_); refine hK _ ?_; clear K hK) | refine TS.imp ?_ | refine n9 (by decide) ?_))
    simp only [RetQ, go_sem]
    unfold mayG; rw [if_pos h1]
  (repeat (first | (refine TR.imp ?_; intro K hK; simp only [go_sem, hP, hn]; (repeat refine vc ?_); refine hK _ ?_; clear K hK) | refine TS.imp ?_ | refine n9 (by decide) ?_))
  refine Tr.cond rfl (fun h2 => ?_) (fun h2 => ?_)
  · (repeat (first | (refine TR.imp ?_; intro K hK; simp only [go_sem, hP, hn]; (repeat refine vc ?_); refine hK _ ?_; clear K hK) | refine TS.imp ?_ | refine n9 (by decide) ?_))
    simp only [RetQ, go_sem]
    unfold mayG; rw [if_neg (by rw [h1]; decide), if_pos (show mayQ wd lo hi out ns.length = true from h2)]
  (repeat (first | (refine TR.imp ?_; intro K hK; simp only [go_sem, hP, hn]; (repeat refine vc ?_); refine hK _ ?_; clear K hK) | refine TS.imp ?_ | refine n9 (by decide) ?_))
  have hN : ns.length ≤ 12 := by
    simp only [Bool.or_eq_false_iff, decide_eq_false_iff_not] at h1; omega
  have key : ∀ b, ns.all (mayN ns.length) = b → mayG wd lo hi out ns = if b = true then 0 else 1 := fun b e => by
    unfold mayG; rw [if_neg (by rw [h1]; decide), if_neg (show ¬ mayQ wd lo hi out ns.length = true from fun h => by rw [show mayQ wd lo hi out ns.length = false from h2] at h; cases h), e]
  clear h1 h2
  refine Tr.le (Le.keep [1, 2, 3, 54, 55, 56]) ?_; simp only [List.map_cons, List.map_nil, lk, Nat.reduceEqDiff, reduceIte]
  refine Tr.loop (fun m s => ∃ (i : Int), s = ⟨[(1, .ptr 1 0), (2, .d (.i .i64 0)), (3, .d (.i .i64 ns.length)), (54, .d (rowN ns)), (55, .d (.i .i64 ns.length)), (56, .d (.i .i64 i))], [(1, .box 47 (gcs wd lo hi out (.d (rowN ns))))]⟩ ∧ 0 ≤ i ∧ i + m = ns.length ∧ ns.all (mayN ns.length) = (ns.drop i.toNat).all (mayN ns.length)) ns.length ⟨_, (Le.mv (by simp only [go_sem, hP, hn]; first | done | (simp; done) | (simp [intC]; done) | (repeat (first | rfl | constructor))) (by simp only [go_sem, hP, hn]; first | done | (simp; done) | (simp [intC]; done) | (repeat (first | rfl | constructor)))), 0, rfl, by omega, by omega, by simp⟩ ?_
  rintro m s ⟨i, rfl, hi0, him, hall⟩
  (repeat (first | (refine TR.imp ?_; intro K hK; simp only [go_sem, hP, hn]; (repeat refine vc ?_); refine hK _ ?_; clear K hK) | refine TS.imp ?_ | refine n9 (by decide) ?_))
  refine Tr.cond rfl (fun hb => ?_) (fun hb => ?_)
  · have hin1 : i < ns.length := by simpa using hb
    have hnd := rw_nd ns i hi0 hin1
    have hq := hin _ (nd_mem hi0 hin1)
    rw [drop_nd hi0 hin1, List.all_cons] at hall
    (repeat (first | refine TS.imp ?_ | refine n9 (by decide) ?_))
    refine TR.imp ?_; intro K hK; simp only [hnd, go_sem, hP, hn]; (repeat refine vc ?_); refine hK _ ?_; clear K hK
    generalize nd ns i = q at hq hall ⊢
    (repeat (first | (refine TR.imp ?_; intro K hK; simp only [go_sem, hP, hn]; (repeat refine vc ?_); refine hK _ ?_; clear K hK) | refine TS.imp ?_ | refine n9 (by decide) ?_))
    refine Tr.le (Le.keep [1, 2, 3, 5, 54, 55, 56, 61, 62, 63]) ?_; simp only [List.map_cons, List.map_nil, lk, Nat.reduceEqDiff, reduceIte]
    refine Tr.loop (fun m2 s => ∃ (j : Int), s = ⟨[(1, .ptr 1 0), (2, .d (.i .i64 0)), (3, .d (.i .i64 ns.length)), (5, .ptr 5 0), (54, .d (rowN ns)), (55, .d (.i .i64 ns.length)), (56, .d (.i .i64 i)), (61, .d (.row [.i .i64 0] (q.inn.map intC))), (62, .d (.i .i64 q.inn.length)), (63, .d (.i .i64 j))], [(5, .box 27 q.cs), (1, .box 47 (gcs wd lo hi out (.d (rowN ns))))]⟩ ∧ 0 ≤ j ∧ j + m2 = q.inn.length ∧ mayN ns.length q = (q.inn.drop j.toNat).all (inB · 0 ns.length)) q.inn.length ⟨_, (Le.mv (by simp only [go_sem, hP, hn]; first | done | (simp; done) | (simp [intC]; done) | (repeat (first | rfl | constructor))) (by simp only [go_sem, hP, hn]; first | done | (simp; done) | (simp [intC]; done) | (repeat (first | rfl | constructor)))), 0, rfl, by omega, by omega, by simp [mayN]⟩ ?_
    rintro m2 s ⟨j, rfl, hj0, hjm, hqa⟩
    (repeat (first | (refine TR.imp ?_; intro K hK; simp only [go_sem, hP, hn]; (repeat refine vc ?_); refine hK _ ?_; clear K hK) | refine TS.imp ?_ | refine n9 (by decide) ?_))
    refine Tr.cond rfl (fun hc => ?_) (fun hc => ?_)
    · have hj : j < q.inn.length := by simpa using hc
      rw [drop_rd hj0 hj, List.all_cons] at hqa
      (repeat (first | (refine TR.imp ?_; intro K hK; simp only [go_sem, hP, hn]; (repeat refine vc ?_); refine hK _ ?_; clear K hK) | refine TS.imp ?_ | refine n9 (by decide) ?_))
      refine Tr.cond rfl (fun hd => ?_) (fun hd => ?_)
      · (repeat (first | (refine TR.imp ?_; intro K hK; simp only [go_sem, hP, hn]; (repeat refine vc ?_); refine hK _ ?_; clear K hK) | refine TS.imp ?_ | refine n9 (by decide) ?_))
        simp only [RetQ, go_sem]
        have : inB (rd q.inn j) 0 ns.length = false := by
          unfold inB; simp only [Bool.or_eq_true, decide_eq_true_eq] at hd; simp; omega
        rw [key false (by rw [hall, hqa, this, Bool.false_and, Bool.false_and])]; rfl
      · (repeat (first | (refine TR.imp ?_; intro K hK; simp only [go_sem, hP, hn]; (repeat refine vc ?_); refine hK _ ?_; clear K hK) | refine TS.imp ?_ | refine n9 (by decide) ?_))
        rw [w64 (x := j + 1) (by omega) (by omega)]
        refine ⟨m2 - 1, _, by omega, ?_, j + 1, rfl, by omega, by omega, ?_⟩
        · exact (Le.mv (by simp only [go_sem, hP, hn]; first | done | (simp; done) | (simp [intC]; done) | (repeat (first | rfl | constructor))) (by simp only [go_sem, hP, hn]; first | done | (simp; done) | (simp [intC]; done) | (repeat (first | rfl | constructor))))
        have : inB (rd q.inn j) 0 ns.length = true := by
          unfold inB; simp only [Bool.or_eq_false_iff, decide_eq_false_iff_not] at hd; simp; omega
        rw [hqa, this, Bool.true_and]
    · rw [drop_end (by simpa using hc)] at hqa
      (repeat (first | (refine TR.imp ?_; intro K hK; simp only [go_sem, hP, hn]; (repeat refine vc ?_); refine hK _ ?_; clear K hK) | refine TS.imp ?_ | refine n9 (by decide) ?_))
      rw [w64 (x := i + 1) (by omega) (by omega)]
      refine ⟨m - 1, _, by omega, ?_, i + 1, rfl, by omega, by omega, ?_⟩
      · exact (Le.mv (by simp only [go_sem, hP, hn]; first | done | (simp; done) | (simp [intC]; done) | (repeat (first | rfl | constructor))) (by simp only [go_sem, hP, hn]; first | done | (simp; done) | (simp [intC]; done) | (repeat (first | rfl | constructor))))
      rw [hall, hqa]; rfl
  · rw [drop_end (by simpa using hb)] at hall
    (repeat (first | (refine TR.imp ?_; intro K hK; simp only [go_sem, hP, hn]; (repeat refine vc ?_); refine hK _ ?_; clear K hK) | refine TS.imp ?_ | refine n9 (by decide) ?_))
    simp only [RetQ, go_sem]
    rw [key true (by rw [hall]; rfl)]; rfl
/-! closures of graph, and slices' functions over them -/
theorem rateF_c {T : World → Prop} (Tm : TP T) (x r : Int) : Cg Go.Proofs.Tryd.prog T 128 [(1000, .box 3 [.d (.i .i64 r)])] [.d (.i .i64 x), .ptr 1000 0] (fun v H => H = [(1000, .box 3 [.d (.i .i64 r)])] ∧ v = .d (.b (x != r))) := by
  refine Cg_of [1000] Tm Go.Proofs.Tryd.func128 rfl rfl Go.Proofs.Tryd.ntmps128 (by simp) rfl (rs := [.tmp 3]) rfl fun E hP hn hT hpn => ?_
  (repeat (first | (refine TR.imp ?_; intro K hK; simp only [go_sem, hP, hn]; (repeat refine vc ?_); refine hK _ ?_; clear K hK) | refine TS.imp ?_ | refine n9 (by decide) ?_))
  simp only [RetG, go_sem]; (repeat with_reducible refine vc ?_)
theorem rateIdx_c {T : World → Prop} (Tm : TP T) (l : List Int) (r : Int) (hl : l.length ≤ 65536) : Cg Go.Proofs.Tryd.prog T 130 [(1000, .box 3 [.d (.i .i64 r)])] [.d (.row [.i .i64 0] (l.map intC)), .fn 128 [.ptr 1000 0]] (fun v H => H = [(1000, .box 3 [.d (.i .i64 r)])] ∧ ∃ j : Int, decide (0 ≤ j) = l.any (· != r) ∧ v = .d (.i .i64 j)) := by
  refine Cg_of [1000] Tm Go.Proofs.Tryd.func130 rfl rfl Go.Proofs.Tryd.ntmps130 (by simp) rfl (rs := [.tmp 4]) rfl fun E hP hn hT hpn => ?_
  (repeat (first | (refine TR.imp ?_; intro K hK; simp only [go_sem, hP, hn]; (repeat refine vc ?_); refine hK _ ?_; clear K hK) | refine TS.imp ?_ | refine n9 (by decide) ?_))
  refine Tr.loop (fun m s => ∃ (j : Int), s = ⟨[(0, .d (.row [.i .i64 0] (l.map intC))), (1, .fn 128 [.ptr 1000 0]), (7, .d (.i .i64 l.length)), (8, .d (.i .i64 j))], [(1000, .box 3 [.d (.i .i64 r)])]⟩ ∧ 0 ≤ j ∧ j + m = l.length ∧ l.any (· != r) = (l.drop j.toNat).any (· != r)) l.length ⟨_, (Le.mv (by simp only [go_sem, hP, hn]; first | done | (simp; done) | (simp [intC]; done) | (repeat (first | rfl | constructor))) (by simp only [go_sem, hP, hn]; first | done | (simp; done) | (simp [intC]; done) | (repeat (first | rfl | constructor)))), 0, rfl, by omega, by omega, by simp⟩ ?_
  rintro m s ⟨j, rfl, hj0, hjm, hany⟩
  (repeat (first | (refine TR.imp ?_; intro K hK; simp only [go_sem, hP, hn]; (repeat refine vc ?_); refine hK _ ?_; clear K hK) | refine TS.imp ?_ | refine n9 (by decide) ?_))
  refine Tr.cond rfl (fun hb => ?_) (fun hb => ?_)
  · have hj : j < l.length := by simpa using hb
    rw [drop_rd hj0 hj, List.any_cons] at hany
    (repeat (first | refine TS.imp ?_ | refine n9 (by decide) ?_))
    refine TR.imp ?_; intro K hK; simp only [go_sem, hP, hn]; (repeat refine vc ?_); refine hK _ ?_; clear K hK
    (repeat (first | refine TS.imp ?_ | refine n9 (by decide) ?_))
    refine TR.imp ?_; intro K hK; simp only [go_sem, hP, hn]
    (repeat refine vc ?_)
    refine CallN_cs (Hi := [(1000, .box 3 [.d (.i .i64 r)])] ) (by rw [hP, hT]; exact  rateF_c Tm (rd l j) r) rfl rfl rfl trivial (by simp only [go_sem, hP, hn]; try trivial) (by simp only [go_sem, hP, hn]; try rfl) (by simp only [inH, go_sem, hP, hn]; try simp) (by rw [hn]; decide) ?_; simp only [go_sem, hP, hn]; (repeat refine vc ?_)
    refine hK _ ?_; clear K hK
    refine Tr.cond rfl (fun hc => ?_) (fun hc => ?_)
    · (repeat (first | (refine TR.imp ?_; intro K hK; simp only [go_sem, hP, hn]; (repeat refine vc ?_); refine hK _ ?_; clear K hK) | refine TS.imp ?_ | refine n9 (by decide) ?_))
      simp only [RetG, go_sem]; (repeat with_reducible refine vc ?_)
      refine ⟨_, ?_, rfl⟩
      rw [hany, hc, Bool.true_or]; simpa using hj0
    · (repeat (first | (refine TR.imp ?_; intro K hK; simp only [go_sem, hP, hn]; (repeat refine vc ?_); refine hK _ ?_; clear K hK) | refine TS.imp ?_ | refine n9 (by decide) ?_))
      rw [w64 (x := j + 1) (by omega) (by omega)]
      refine ⟨m - 1, _, by omega, ?_, j + 1, rfl, by omega, by omega, ?_⟩
      · exact (Le.mv (by simp only [go_sem, hP, hn]; first | done | (simp; done) | (simp [intC]; done) | (repeat (first | rfl | constructor))) (by simp only [go_sem, hP, hn]; first | done | (simp; done) | (simp [intC]; done) | (repeat (first | rfl | constructor))))
      rw [hany, hc, Bool.false_or]
  · rw [drop_end (by simpa using hb)] at hany
    (repeat (first | (refine TR.imp ?_; intro K hK; simp only [go_sem, hP, hn]; (repeat refine vc ?_); refine hK _ ?_; clear K hK) | refine TS.imp ?_ | refine n9 (by decide) ?_))
    simp only [RetG, go_sem]; (repeat with_reducible refine vc ?_)
    refine ⟨_, ?_, rfl⟩
    rw [hany]; rfl
theorem rateAny_c {T : World → Prop} (Tm : TP T) (l : List Int) (r : Int) (hl : l.length ≤ 65536) : Cg Go.Proofs.Tryd.prog T 126 [(1000, .box 3 [.d (.i .i64 r)])] [.d (.row [.i .i64 0] (l.map intC)), .fn 128 [.ptr 1000 0]] (fun v H => H = [(1000, .box 3 [.d (.i .i64 r)])] ∧ v = .d (.b (l.any (· != r)))) := by
  refine Cg_of [1000] Tm Go.Proofs.Tryd.func126 rfl rfl Go.Proofs.Tryd.ntmps126 (by simp) rfl (rs := [.tmp 4]) rfl fun E hP hn hT hpn => ?_
  (repeat (first | refine TS.imp ?_ | refine n9 (by decide) ?_))
  refine TR.imp ?_; intro K hK; simp only [go_sem, hP, hn]; (repeat refine vc ?_); refine hK _ ?_; clear K hK
  refine TR.imp ?_; intro K hK; simp only [go_sem, hP, hn]
  (repeat refine vc ?_)
  refine CallN_cx (Hi := [(1000, .box 3 [.d (.i .i64 r)])] ) (by rw [hP, hT]; exact  rateIdx_c Tm l r hl ) rfl rfl rfl trivial (by simp only [go_sem, hP, hn]; try trivial) (by simp only [go_sem, hP, hn]; try rfl) (by simp only [inH, go_sem, hP, hn]; try simp) (by rw [hn]; decide) (fun r Ho hr => ?_); obtain ⟨rfl, hr⟩ := hr; obtain  ⟨j, hj, rfl⟩ := hr; refine ⟨fun k hk => (by rw [newK_same] at hk; cases hk), ?_⟩; simp only [cgS, newK, touK, go_sem, hP, hn]; (repeat refine vc ?_)
  refine hK _ ?_; clear K hK
  rw [hj]
  (repeat (first | (refine TR.imp ?_; intro K hK; simp only [go_sem, hP, hn]; (repeat refine vc ?_); refine hK _ ?_; clear K hK) | refine TS.imp ?_ | refine n9 (by decide) ?_))
  simp only [RetG, go_sem]; (repeat with_reducible refine vc ?_)
theorem rate_k {T : World → Prop} (Tk : KT T) (n : Nd) (l : List Int) (h0 : 0 < l.length) (hl : l.length ≤ 65536) : Cg Go.Proofs.Tryd.prog T 121 [] [.agg n.cs, .d (.row [.i .i64 0] (l.map intC))] (fun r H => H = [] ∧ r = .tup [.d (.i .i64 (n.grate l).1), .d (.b (n.grate l).2)]) := by
  refine Cg_of [] Tk.m Go.Proofs.Tryd.func121 rfl rfl Go.Proofs.Tryd.ntmps121 (by simp) rfl (rs := [.tmp 4, .tmp 5]) rfl fun E hP hn hT hpn => ?_
  (repeat (first | (refine TR.imp ?_; intro K hK; simp only [go_sem, hP, hn]; (repeat refine vc ?_); refine hK _ ?_; clear K hK) | refine TS.imp ?_ | refine n9 (by decide) ?_))
  refine Tr.le (Le.keep [1, 2, 6]) ?_; simp only [List.map_cons, List.map_nil, lk, Nat.reduceEqDiff, reduceIte]
  refine Tr.le (Le.ren 6 1000 (by rw [hpn] <;> rfl) rfl rfl) ?_; simp only [renT, renH, renO, renS, renL, rn, go_sem, hP, hn]
  refine TR.imp ?_; intro K hK; simp only [go_sem, hP, hn]; (repeat refine vc ?_); refine c1 (by rw [hP, hT]; exact Span_k Tk n) rfl rfl rfl trivial (by simp only [go_sem, hP, hn]; try trivial) (by simp only [go_sem, hP, hn]; try rfl) (by rw [hn]; decide) (by rfl) ?_; simp only [go_sem, hP, hn]; (repeat refine vc ?_); refine hK _ ?_; clear K hK
  refine Tr.le (Le.keep [1, 2, 6, 7]) ?_; simp only [List.map_cons, List.map_nil, lk, Nat.reduceEqDiff, reduceIte]
  (repeat (first | refine TS.imp ?_ | refine n9 (by decide) ?_))
  refine TR.imp ?_; intro K hK; simp only [go_sem, hP, hn]
  (repeat refine vc ?_)
  refine CallN_cs (Hi := [(1000, .box 3 [.d (.i .i64 (rd l 0))])] ) (by rw [hP, hT]; exact  rateAny_c Tk.m l (rd l 0) hl) rfl rfl rfl trivial (by simp only [go_sem, hP, hn]; try trivial) (by simp only [go_sem, hP, hn]; try rfl) (by simp only [inH, go_sem, hP, hn]; try simp) (by rw [hn]; decide) ?_; simp only [go_sem, hP, hn]; (repeat refine vc ?_)
  refine hK _ ?_; clear K hK
  refine Tr.cond rfl (fun h1 => ?_) (fun h1 => ?_)
  · (repeat (first | (refine TR.imp ?_; intro K hK; simp only [go_sem, hP, hn]; (repeat refine vc ?_); refine hK _ ?_; clear K hK) | refine TS.imp ?_ | refine n9 (by decide) ?_))
    simp only [RetG, go_sem]; (repeat with_reducible refine vc ?_)
    rw [show n.grate l = (0, false) from if_pos h1]
  (repeat (first | (refine TR.imp ?_; intro K hK; simp only [go_sem, hP, hn]; (repeat refine vc ?_); refine hK _ ?_; clear K hK) | refine TS.imp ?_ | refine n9 (by decide) ?_))
  refine Tr.cond rfl (fun h2 => ?_) (fun h2 => ?_)
  · (repeat (first | (refine TR.imp ?_; intro K hK; simp only [go_sem, hP, hn]; (repeat refine vc ?_); refine hK _ ?_; clear K hK) | refine TS.imp ?_ | refine n9 (by decide) ?_))
    simp only [RetG, go_sem]; (repeat with_reducible refine vc ?_)
    rw [show n.grate l = (0, true) by unfold Nd.grate; rw [if_neg (by unfold Nd.gwin; rw [h1]; decide), if_pos h2]]
  (repeat (first | (refine TR.imp ?_; intro K hK; simp only [go_sem, hP, hn]; (repeat refine vc ?_); refine hK _ ?_; clear K hK) | refine TS.imp ?_ | refine n9 (by decide) ?_))
  (first | refine d1 (.p true 0 (.p true 1 (.alt 2 (.p false 3 (.p false 4 (.p true 5 .nil))) .nil))) [] (by rw [hP]; kernel_rfl) (by kernel_rfl) (by simp only [go_sem, hP, hn]; try simp) (fun _ _ h => h) fun K hK => ?_ | refine d2 (.p true 0 (.p true 1 (.alt 2 (.p false 3 (.p false 4 (.p true 5 .nil))) .nil))) [] (by rw [hP]; kernel_rfl) (by kernel_rfl) (by simp only [go_sem, hP, hn]; try simp) (fun _ _ h => h) fun K hK => ?_ | refine d4 (.p true 0 (.p true 1 (.alt 2 (.p false 3 (.p false 4 (.p true 5 .nil))) .nil))) [] (by rw [hP]; kernel_rfl) (by kernel_rfl) (by simp only [go_sem, hP, hn]; try simp) (fun _ _ h => h) fun K hK => ?_); simp only [go_sem, hP, hn]; (repeat refine vc ?_); refine p1 (by rw [hP, hT]; exact Step_k Tk n) rfl rfl rfl trivial (by simp only [go_sem, hP, hn]; try trivial) (by simp only [go_sem, hP, hn]; try rfl) (by rw [hn]; decide) (by rfl) ?_; simp only [go_sem, hP, hn]; (repeat refine vc ?_); refine hK _ ?_; clear K hK
  (repeat (first | (refine TR.imp ?_; intro K hK; simp only [go_sem, hP, hn]; (repeat refine vc ?_); refine hK _ ?_; clear K hK) | refine TS.imp ?_ | refine n9 (by decide) ?_))
  simp only [RetG, go_sem]; (repeat with_reducible refine vc ?_)
  rw [show n.grate l = (wrap64 (rd l 0 * n.stp), true) by unfold Nd.grate; rw [if_neg (by unfold Nd.gwin; rw [h1]; decide), if_neg (by rw [h2]; decide)]]
section
/-! graph.ordered's closure, and slices' functions over it -/
theorem und109 : (Go.Proofs.Tryd.prog).underlying 130 = some (.map 3 3) := Go.Proofs.Tryd.underlying130
theorem und3 : (Go.Proofs.Tryd.prog).underlying 3 = some (.int .i64) := Go.Proofs.Tryd.underlying3
theorem zero3 (w : World) : (zeroValue 3).run Go.Proofs.Tryd.prog w = .ok (.int .i64 0) w := by rfl
def OB (m : List (Int × Int)) (n : Nat) : Hp := [(1000, .box 130 [.own 1001]), (1001, .mp (mapR Go.Proofs.Tryd.prog 3 3 n m))]
attribute [local go_sem] OB
theorem map0 (i : Int) : (mlook [(0, 0)] i).isSome = (i == 0 || ([] : List Int).contains i) := by
  simp only [mlook]
  by_cases e : (0 : Int) = i
  · subst e; rfl
  · rw [if_neg e, show (i == 0) = false by simpa using fun h : i = 0 => e h.symm]; rfl
theorem ordF_c {T : World → Prop} (Tm : TP T) (x : Int) (m : List (Int × Int)) (n : Nat) (hx : (Lit.int .i64 x).wf = true) : Cg Go.Proofs.Tryd.prog T 127 (OB m n) [.d (.i .i64 x), .ptr 1000 0] (fun v H => H = OB m n ∧ v = .d (.b !(mlook m x).isSome)) := by
  refine Cg_of [1000, 1001] Tm Go.Proofs.Tryd.func127 rfl rfl Go.Proofs.Tryd.ntmps127 (by simp) rfl (rs := [.tmp 3]) rfl fun E hP hn hT hpn => ?_
  (repeat (first | refine TS.imp ?_ | refine n9 (by decide) ?_))
  refine TR.imp ?_; intro K hK; simp only [go_sem, hP, hn]; (repeat refine vc ?_); refine hK _ ?_; clear K hK
  refine TR.imp ?_; intro K hK; simp only [go_sem, hP, hn]
  (repeat refine vc ?_)
  refine CallN_look (k := 3) (e := 3) rfl rfl (by rw [hn]; decide) rfl (by simp only [go_sem, hP, hn]; try trivial) rfl (by simp only [go_sem, hP, hn]; try trivial) hx (by rw [hP]; rfl) (by rw [hP]; exact und109) (by rw [hP]; exact und3) (by rw [hP]; exact und3) (by rw [hP]; exact zero3) ?_; simp only [go_sem, hP, hn]; (repeat refine vc ?_)
  refine hK _ ?_; clear K hK
  (repeat (first | (refine TR.imp ?_; intro K hK; simp only [go_sem, hP, hn]; (repeat refine vc ?_); refine hK _ ?_; clear K hK) | refine TS.imp ?_ | refine n9 (by decide) ?_))
  simp only [RetG, go_sem]; (repeat with_reducible refine vc ?_)
theorem ordIdx_c {T : World → Prop} (Tm : TP T) (l : List Int) (m : List (Int × Int)) (n : Nat) (hl : l.length ≤ 65536) (hx : ∀ x ∈ l, (Lit.int .i64 x).wf = true) : Cg Go.Proofs.Tryd.prog T 130 (OB m n) [.d (.row [.i .i64 0] (l.map intC)), .fn 127 [.ptr 1000 0]] (fun v H => H = OB m n ∧ ∃ j : Int, decide (0 ≤ j) = l.any (fun x => !(mlook m x).isSome) ∧ v = .d (.i .i64 j)) := by
  refine Cg_of [1000, 1001] Tm Go.Proofs.Tryd.func130 rfl rfl Go.Proofs.Tryd.ntmps130 (by simp) rfl (rs := [.tmp 4]) rfl fun E hP hn hT hpn => ?_
  (repeat (first | (refine TR.imp ?_; intro K hK; simp only [go_sem, hP, hn]; (repeat refine vc ?_); refine hK _ ?_; clear K hK) | refine TS.imp ?_ | refine n9 (by decide) ?_))
  refine Tr.loop (fun m2 s => ∃ (j : Int), s = ⟨[(0, .d (.row [.i .i64 0] (l.map intC))), (1, .fn 127 [.ptr 1000 0]), (7, .d (.i .i64 l.length)), (8, .d (.i .i64 j))], OB m n⟩ ∧ 0 ≤ j ∧ j + m2 = l.length ∧ l.any (fun x => !(mlook m x).isSome) = (l.drop j.toNat).any (fun x => !(mlook m x).isSome)) l.length ⟨_, (Le.mv (by simp only [go_sem, hP, hn]; first | done | (simp; done) | (simp [intC]; done) | (repeat (first | rfl | constructor))) (by simp only [go_sem, hP, hn]; first | done | (simp; done) | (simp [intC]; done) | (repeat (first | rfl | constructor)))), 0, rfl, by omega, by omega, by simp⟩ ?_
  rintro m2 s ⟨j, rfl, hj0, hjm, hany⟩
  (repeat (first | (refine TR.imp ?_; intro K hK; simp only [go_sem, hP, hn]; (repeat refine vc ?_); refine hK _ ?_; clear K hK) | refine TS.imp ?_ | refine n9 (by decide) ?_))
  refine Tr.cond rfl (fun hb => ?_) (fun hb => ?_)
  · have hj : j < l.length := by simpa using hb
    rw [drop_rd hj0 hj, List.any_cons] at hany
    (repeat (first | refine TS.imp ?_ | refine n9 (by decide) ?_))
    refine TR.imp ?_; intro K hK; simp only [go_sem, hP, hn]; (repeat refine vc ?_); refine hK _ ?_; clear K hK
    (repeat (first | refine TS.imp ?_ | refine n9 (by decide) ?_))
    refine TR.imp ?_; intro K hK; simp only [go_sem, hP, hn]
    (repeat refine vc ?_)
    refine CallN_cs (Hi := OB m n ) (by rw [hP, hT]; exact  ordF_c Tm (rd l j) m n (hx _ (rd_mem hj0 hj))) rfl rfl rfl trivial (by simp only [go_sem, hP, hn]; try trivial) (by simp only [go_sem, hP, hn]; try rfl) (by simp only [inH, go_sem, hP, hn]; try simp) (by rw [hn]; decide) ?_; simp only [go_sem, hP, hn]; (repeat refine vc ?_)
    refine hK _ ?_; clear K hK
    refine Tr.cond rfl (fun hc => ?_) (fun hc => ?_)
    · (repeat (first | (refine TR.imp ?_; intro K hK; simp only [go_sem, hP, hn]; (repeat refine vc ?_); refine hK _ ?_; clear K hK) | refine TS.imp ?_ | refine n9 (by decide) ?_))
      simp only [RetG, go_sem]; (repeat with_reducible refine vc ?_)
      refine ⟨_, ?_, rfl⟩
      rw [hany, hc, Bool.true_or]; simpa using hj0
    · (repeat (first | (refine TR.imp ?_; intro K hK; simp only [go_sem, hP, hn]; (repeat refine vc ?_); refine hK _ ?_; clear K hK) | refine TS.imp ?_ | refine n9 (by decide) ?_))
      rw [w64 (x := j + 1) (by omega) (by omega)]
      refine ⟨m2 - 1, _, by omega, ?_, j + 1, rfl, by omega, by omega, ?_⟩
      · exact (Le.mv (by simp only [go_sem, hP, hn]; first | done | (simp; done) | (simp [intC]; done) | (repeat (first | rfl | constructor))) (by simp only [go_sem, hP, hn]; first | done | (simp; done) | (simp [intC]; done) | (repeat (first | rfl | constructor))))
      rw [hany, hc, Bool.false_or]
  · rw [drop_end (by simpa using hb)] at hany
    (repeat (first | (refine TR.imp ?_; intro K hK; simp only [go_sem, hP, hn]; (repeat refine vc ?_); refine hK _ ?_; clear K hK) | refine TS.imp ?_ | refine n9 (by decide) ?_))
    simp only [RetG, go_sem]; (repeat with_reducible refine vc ?_)
    refine ⟨_, ?_, rfl⟩
    rw [hany]; rfl
theorem ordAny_c {T : World → Prop} (Tm : TP T) (l : List Int) (m : List (Int × Int)) (n : Nat) (hl : l.length ≤ 65536) (hx : ∀ x ∈ l, (Lit.int .i64 x).wf = true) : Cg Go.Proofs.Tryd.prog T 126 (OB m n) [.d (.row [.i .i64 0] (l.map intC)), .fn 127 [.ptr 1000 0]] (fun v H => H = OB m n ∧ v = .d (.b (l.any (fun x => !(mlook m x).isSome)))) := by
  refine Cg_of [1000, 1001] Tm Go.Proofs.Tryd.func126 rfl rfl Go.Proofs.Tryd.ntmps126 (by simp) rfl (rs := [.tmp 4]) rfl fun E hP hn hT hpn => ?_
  (repeat (first | refine TS.imp ?_ | refine n9 (by decide) ?_))
  refine TR.imp ?_; intro K hK; simp only [go_sem, hP, hn]; (repeat refine vc ?_); refine hK _ ?_; clear K hK
  refine TR.imp ?_; intro K hK; simp only [go_sem, hP, hn]
  (repeat refine vc ?_)
  refine CallN_cx (Hi := OB m n ) (by rw [hP, hT]; exact  ordIdx_c Tm l m n hl hx ) rfl rfl rfl trivial (by simp only [go_sem, hP, hn]; try trivial) (by simp only [go_sem, hP, hn]; try rfl) (by simp only [inH, go_sem, hP, hn]; try simp) (by rw [hn]; decide) (fun r Ho hr => ?_); obtain ⟨rfl, hr⟩ := hr; obtain  ⟨j, hj, rfl⟩ := hr; refine ⟨fun k hk => (by rw [newK_same] at hk; cases hk), ?_⟩; simp only [cgS, newK, touK, go_sem, hP, hn]; (repeat refine vc ?_)
  refine hK _ ?_; clear K hK
  rw [hj]
  (repeat (first | (refine TR.imp ?_; intro K hK; simp only [go_sem, hP, hn]; (repeat refine vc ?_); refine hK _ ?_; clear K hK) | refine TS.imp ?_ | refine n9 (by decide) ?_))
  simp only [RetG, go_sem]; (repeat with_reducible refine vc ?_)
theorem ordered_c {T : World → Prop} (Tm : TP T) (ns : List Nd) (hn : ns.length ≤ 12) (hin : ∀ n ∈ ns, n.inn.length ≤ 65536 ∧ ∀ j ∈ n.inn, 0 ≤ j ∧ j ≤ ns.length) : Cg Go.Proofs.Tryd.prog T 119 [] [.d (rowN ns)] (fun r H => H = [] ∧ r = .tup [.d (.row [.i .i64 0] ((order ns).map intC)), .d (.b ((order ns).length == ns.length))]) := by
  refine Cg_of [] Tm Go.Proofs.Tryd.func119 rfl rfl Go.Proofs.Tryd.ntmps119 (by simp) rfl (rs := [.tmp 2, .tmp 3]) rfl fun E hP hn hT hpn => ?_
  (repeat (first | refine TS.imp ?_ | refine n9 (by decide) ?_))
  refine TR.imp ?_; intro K hK; simp only [go_sem, hP, hn]; (repeat refine vc ?_); refine hK _ ?_; clear K hK
  (repeat (first | refine TS.imp ?_ | refine n9 (by decide) ?_))
  refine TR.imp ?_; intro K hK; simp only [go_sem, hP, hn]
  refine CallN_mk (k := 3) (e := 3) rfl rfl (by rw [hn]; decide) ?_; simp only [go_sem, hP, hn]; (repeat refine vc ?_)
  refine CallN_put (k := 3) (e := 3) (by first | exact .inl rfl | exact .inr rfl) rfl rfl (by simp only [go_sem, hP, hn]; try trivial) rfl (by simp only [go_sem, hP, hn]; try trivial) (by decide) rfl (by simp only [go_sem, hP, hn]; try trivial) (by decide) (by rw [hP]; rfl) (by rw [hP]; exact und109) (by rw [hP]; exact und3) (by rw [hP]; exact und3) (by decide) ?_; simp only [hP]; simp only [go_sem, hP, hn]; (repeat refine vc ?_)
  refine hK _ ?_; clear K hK
  (repeat (first | (refine TR.imp ?_; intro K hK; simp only [go_sem, hP, hn]; (repeat refine vc ?_); refine hK _ ?_; clear K hK) | refine TS.imp ?_ | refine n9 (by decide) ?_))
  refine Tr.le (Le.keep [0, 4, 5, 12, 13, 14]) ?_; simp only [List.map_cons, List.map_nil, lk, Nat.reduceEqDiff, reduceIte]
  refine Tr.le (Le.ren 10 1001 (by rw [hpn] <;> rfl) rfl rfl) ?_; simp only [renT, renH, renO, renS, renL, rn, go_sem, hP, hn]
  refine Tr.le (Le.ren 4 1000 (by rw [hpn] <;> rfl) rfl rfl) ?_; simp only [renT, renH, renO, renS, renL, rn, go_sem, hP, hn]
  refine Tr.le (Le.nilslot 3001 5 3 [.i .i64 0] rfl (by rw [hpn] <;> rfl) rfl rfl) ?_
  refine Tr.loop (fun m s => ∃ (k : Int) (o : List Int) (mm : List (Int × Int)), s = ⟨[(0, .d (rowN ns)), (4, .ptr 1000 0), (5, .own 3001), (13, .d (.i .i64 ns.length)), (14, .d (.i .i64 k))], [(3001, .row 3 [.i .i64 0] (o.map intC)), (1000, .box 130 [.own 1001]), (1001, .mp (mapR Go.Proofs.Tryd.prog 3 3 (o.length + 1) mm))]⟩ ∧ 0 ≤ k ∧ k + m = ns.length ∧ order ns = ordR ns m o ∧ (∀ i, (mlook mm i).isSome = (i == 0 || o.contains i)) ∧ (o.length : Int) ≤ k) ns.length ⟨_, (Le.mv (by simp only [go_sem, hP, hn]; first | done | (simp; done) | (simp [intC]; done) | (repeat (first | rfl | constructor))) (by simp only [go_sem, hP, hn]; first | done | (simp; done) | (simp [intC]; done) | (repeat (first | rfl | constructor)))), 0, [], [(0, 0)], rfl, by omega, by omega, rfl, map0, by simp⟩ ?_
  rintro m s ⟨k, o, mm, rfl, hk0, hkm, hord, hmap, hok⟩
  (repeat (first | (refine TR.imp ?_; intro K hK; simp only [go_sem, hP, hn]; (repeat refine vc ?_); refine hK _ ?_; clear K hK) | refine TS.imp ?_ | refine n9 (by decide) ?_))
  refine Tr.cond rfl (fun hb => ?_) (fun hb => ?_)
  · have hk : k < ns.length := by simpa using hb
    (repeat (first | (refine TR.imp ?_; intro K hK; simp only [go_sem, hP, hn]; (repeat refine vc ?_); refine hK _ ?_; clear K hK) | refine TS.imp ?_ | refine n9 (by decide) ?_))
    refine Tr.le (Le.keep [0, 4, 5, 13, 14, 16, 17, 18]) ?_; simp only [List.map_cons, List.map_nil, lk, Nat.reduceEqDiff, reduceIte]
    have hnx0 : order ns = match nextO ns o ns.length 1 with
      | none => ordR ns (m - 1) o
      | some i => ordR ns (m - 1) (o ++ [i]) := by
      rw [hord]
      obtain ⟨m', rfl⟩ : ∃ m', m = m' + 1 := ⟨m - 1, by omega⟩
      rfl
    refine Tr.loop (fun m2 s => ∃ (i : Int), s = ⟨[(0, .d (rowN ns)), (4, .ptr 1000 0), (5, .own 3001), (13, .d (.i .i64 ns.length)), (14, .d (.i .i64 k)), (16, .d (rowN ns)), (17, .d (.i .i64 ns.length)), (18, .d (.i .i64 i))], [(3001, .row 3 [.i .i64 0] (o.map intC)), (1000, .box 130 [.own 1001]), (1001, .mp (mapR Go.Proofs.Tryd.prog 3 3 (o.length + 1) mm))]⟩ ∧ 0 ≤ i ∧ i + m2 = ns.length ∧ nextO ns o ns.length 1 = nextO ns o m2 (i + 1)) ns.length ⟨_, (Le.mv (by simp only [go_sem, hP, hn]; first | done | (simp; done) | (simp [intC]; done) | (repeat (first | rfl | constructor))) (by simp only [go_sem, hP, hn]; first | done | (simp; done) | (simp [intC]; done) | (repeat (first | rfl | constructor)))), 0, rfl, by omega, by omega, rfl⟩ ?_
    rintro m2 s ⟨i, rfl, hi0, him, hnx⟩
    (repeat (first | (refine TR.imp ?_; intro K hK; simp only [go_sem, hP, hn]; (repeat refine vc ?_); refine hK _ ?_; clear K hK) | refine TS.imp ?_ | refine n9 (by decide) ?_))
    refine Tr.cond rfl (fun hc => ?_) (fun hc => ?_)
    · have hin1 : i < ns.length := by simpa using hc
      obtain ⟨m3, rfl⟩ : ∃ m3, m2 = m3 + 1 := ⟨m2 - 1, by omega⟩
      have hnd := rw_nd ns i hi0 hin1
      have hq := hin _ (nd_mem hi0 hin1)
      have hmay : mayO ns o (i + 1) = (!o.contains (i + 1) && (nd ns i).inn.all fun j => j == 0 || o.contains j) := by unfold mayO; rw [show i + 1 - 1 = i by omega]
      have hi1 : wrap64 (i + 1) = i + 1 := w64 (by omega) (by omega)
      have hwf : ∀ x : Int, 0 ≤ x → x ≤ 100 → (Lit.int .i64 x).wf = true := fun x h0 h1 => by
        
        rw [show (Lit.int .i64 x).wf = (decide ((-9223372036854775808 : Int) ≤ x) && decide (x ≤ 9223372036854775807)) from rfl, Bool.and_eq_true, decide_eq_true_eq, decide_eq_true_eq]; omega
      have hB : ((mlook mm (i + 1)).isSome || (nd ns i).inn.any fun x => !(mlook mm x).isSome) = !mayO ns o (i + 1) := by
        rw [hmay, hmap, show (i + 1 == (0 : Int)) = false by simpa using (by omega : i + 1 ≠ 0)]
        simp only [hmap, Bool.false_or, ← List.not_all_eq_any_not]
        cases o.contains (i + 1) <;> cases ((nd ns i).inn.all fun j => j == 0 || o.contains j) <;> rfl
      clear hmay
      (repeat (first | refine TS.imp ?_ | refine n9 (by decide) ?_))
      refine TR.imp ?_; intro K hK; simp only [hnd, go_sem, hP, hn]; (repeat refine vc ?_); refine hK _ ?_; clear K hK
      generalize nd ns i = q at hq hB ⊢
      refine Tr.le (Le.keep [0, 4, 5, 6, 7, 13, 14, 16, 17, 18]) ?_; simp only [List.map_cons, List.map_nil, lk, Nat.reduceEqDiff, reduceIte]
      (repeat (first | refine TS.imp ?_ | refine n9 (by decide) ?_))
      refine TR.imp ?_; intro K hK; simp only [hi1, go_sem, hP, hn]
      (repeat refine vc ?_)
      refine CallN_look (k := 3) (e := 3) rfl rfl (by rw [hn]; decide) rfl (by simp only [go_sem, hP, hn]; try trivial) rfl (by simp only [go_sem, hP, hn]; try trivial) (hwf _ (by omega) (by omega)) (by rw [hP]; rfl) (by rw [hP]; exact und109) (by rw [hP]; exact und3) (by rw [hP]; exact und3) (by rw [hP]; exact zero3) ?_; simp only [go_sem, hP, hn]; (repeat refine vc ?_)
      refine hK _ ?_; clear K hK
      refine Tr.le (Le.keep [0, 4, 5, 6, 7, 9, 13, 14, 16, 17, 18]) ?_; simp only [List.map_cons, List.map_nil, lk, Nat.reduceEqDiff, reduceIte]
      (repeat (first | refine TS.imp ?_ | refine n9 (by decide) ?_))
      refine TR.imp ?_; intro K hK; simp only [go_sem, hP, hn]
      (repeat refine vc ?_)
      refine CallN_gs (Hi := OB mm (o.length + 1) ) (fun hg => by rw [hP, hT]; exact  ordAny_c Tm q.inn mm (o.length + 1) (by omega) (fun x hx => hwf x (by have := hq.2 x hx; omega) (by have := hq.2 x hx; omega))) rfl rfl rfl (fun hg => trivial) (fun hg => by clear hK; revert hg; simp only [go_sem, hP, hn] <;> first | trivial | omega | (simp; done) | (simp +contextual; done) | grind) (fun hg => by simp only [go_sem, hP, hn]; try rfl) (by simp only [inH, go_sem, hP, hn]; try simp) (by rw [hn]; decide) ?_; simp only [go_sem, hP, hn]; (repeat refine vc ?_)
      refine hK _ ?_; clear K hK
      refine Tr.cond rfl (fun hd => ?_) (fun hd => ?_)
      · (repeat (first | (refine TR.imp ?_; intro K hK; simp only [go_sem, hP, hn]; (repeat refine vc ?_); refine hK _ ?_; clear K hK) | refine TS.imp ?_ | refine n9 (by decide) ?_))
        rw [hi1]
        refine ⟨m3, _, by omega, ?_, i + 1, rfl, by omega, by omega, ?_⟩
        · exact (Le.mv (by simp only [go_sem, hP, hn]; first | done | (simp; done) | (simp [intC]; done) | (repeat (first | rfl | constructor))) (by simp only [go_sem, hP, hn]; first | done | (simp; done) | (simp [intC]; done) | (repeat (first | rfl | constructor))))
        · rw [hnx]; show (if mayO ns o (i + 1) = true then _ else _) = _; rw [if_neg (by rw [hB] at hd; intro h; rw [h] at hd; cases hd)]
      · (repeat (first | refine TS.imp ?_ | refine n9 (by decide) ?_))
        refine TR.imp ?_; intro K hK; simp only [hi1, go_sem, hP, hn]
        (repeat refine vc ?_)
        refine CallN_put (k := 3) (e := 3) (by first | exact .inl rfl | exact .inr rfl) rfl rfl (by simp only [go_sem, hP, hn]; try trivial) rfl (by simp only [go_sem, hP, hn]; try trivial) (hwf _ (by omega) (by omega)) rfl (by simp only [go_sem, hP, hn]; try trivial) (hwf _ (by omega) (by omega)) (by rw [hP]; rfl) (by rw [hP]; exact und109) (by rw [hP]; exact und3) (by rw [hP]; exact und3) (by have := mln; omega) ?_; simp only [hP]; simp only [go_sem, hP, hn]; (repeat refine vc ?_)
        refine hK _ ?_; clear K hK
        (repeat (first | (refine TR.imp ?_; intro K hK; simp only [go_sem, hP, hn]; (repeat refine vc ?_); refine hK _ ?_; clear K hK) | refine TS.imp ?_ | refine n9 (by decide) ?_))
        rw [w64 (x := k + 1) (by omega) (by omega), hi1]
        have hmy : mayO ns o (i + 1) = true := by rw [hB] at hd; cases h : mayO ns o (i + 1) <;> simp_all
        refine ⟨m - 1, _, by omega, ?_, k + 1, o ++ [i + 1], (i + 1, (o.length : Int)) :: mm, rfl, by omega, by omega, ?_, ?_, ?_⟩
        · rw [show (o ++ [i + 1]).length + 1 = o.length + 1 + 1 by simp]
          refine Le.trans (b := ⟨[(0, .d (rowN ns)), (4, .ptr 1000 0), (5, .own 46), (13, .d (.i .i64 ns.length)), (14, .d (.i .i64 (k + 1)))], [(46, .row 3 [.i .i64 0] ((o ++ [i + 1]).map intC)), (1000, .box 130 [.own 1001]), (1001, .mp (mapR Go.Proofs.Tryd.prog 3 3 (o.length + 1 + 1) ((i + 1, (o.length : Int)) :: mm)))]⟩) (Le.mv (by simp only [go_sem, hP, hn]; first | done | (simp; done) | (simp [intC]; done) | (repeat (first | rfl | constructor))) (by simp only [go_sem, hP, hn]; first | done | (simp; done) | (simp [intC]; done) | (repeat (first | rfl | constructor)))) ?_
          refine Le.trans (Le.ren 46 3001 (by rw [hpn] <;> rfl) rfl rfl) ?_; simp only [renT, renH, renO, renS, renL, rn, go_sem, hP, hn]
          exact (Le.mv (by simp only [go_sem, hP, hn]; first | done | (simp; done) | (simp [intC]; done) | (repeat (first | rfl | constructor))) (by simp only [go_sem, hP, hn]; first | done | (simp; done) | (simp [intC]; done) | (repeat (first | rfl | constructor))))
        · rw [hnx0, hnx]; show (match (if mayO ns o (i + 1) = true then some (i + 1) else _) with | none => _ | some i => _) = _; rw [if_pos hmy]
        · intro j
          simp only [mlook, List.contains_append, List.contains_cons, List.contains_nil, Bool.or_false]
          by_cases e : i + 1 = j
          · subst e; simp
          · rw [if_neg e, hmap j, show (j == i + 1) = false by simpa using fun h : j = i + 1 => e h.symm]; simp
        · simp; omega
    · (repeat (first | (refine TR.imp ?_; intro K hK; simp only [go_sem, hP, hn]; (repeat refine vc ?_); refine hK _ ?_; clear K hK) | refine TS.imp ?_ | refine n9 (by decide) ?_))
      rw [w64 (x := k + 1) (by omega) (by omega)]
      have hm2 : m2 = 0 := by have := of_decide_eq_false hc; omega
      subst hm2
      refine ⟨m - 1, _, by omega, ?_, k + 1, o, mm, rfl, by omega, by omega, ?_, hmap, by omega⟩
      · exact (Le.mv (by simp only [go_sem, hP, hn]; first | done | (simp; done) | (simp [intC]; done) | (repeat (first | rfl | constructor))) (by simp only [go_sem, hP, hn]; first | done | (simp; done) | (simp [intC]; done) | (repeat (first | rfl | constructor))))
      · rw [hnx0, hnx]; rfl
  · (repeat (first | (refine TR.imp ?_; intro K hK; simp only [go_sem, hP, hn]; (repeat refine vc ?_); refine hK _ ?_; clear K hK) | refine TS.imp ?_ | refine n9 (by decide) ?_))
    simp only [RetG, go_sem]; (repeat with_reducible refine vc ?_)
    have hm : m = 0 := by have := of_decide_eq_false hb; omega
    subst hm
    rw [hord, show ((o.length : Int) == (ns.length : Int)) = (o.length == ns.length) by rw [Bool.eq_iff_iff]; simp; omega]
    rfl
end
def ltup (q : Int × List Int × List Int × List Int) : S := .tup [.agg [.d (.row [.i .i64 0] (q.2.1.map intC)), .d (.row [.i .i64 0] (q.2.2.1.map intC)), .d (.row [.i .i64 0] (q.2.2.2.map intC))], .d (.i .i64 q.1)]
theorem lookL_cons (ns : List Nd) (i : Int) (r W R : List Int) : lookL ns (i :: r) W R = if ((nd ns (i - 1)).chk ((nd ns (i - 1)).inn.map (rd W)) != 0) = true then ((nd ns (i - 1)).chk ((nd ns (i - 1)).inn.map (rd W)), [], [])
    else if (!((nd ns (i - 1)).grate ((nd ns (i - 1)).inn.map (rd R))).2) = true then (15, [], [])
    else lookL ns r (W.set i.toNat ((nd ns (i - 1)).wide ((nd ns (i - 1)).inn.map (rd W)))) (R.set i.toNat ((nd ns (i - 1)).grate ((nd ns (i - 1)).inn.map (rd R))).1) := rfl
theorem look_c {T : World → Prop} (Tk : KT T) (wd lo hi out : Int) (ns : List Nd) (hns : ns.length ≤ 65536) (hin : ∀ n ∈ ns, n.inn.length ≤ 4096 ∧ n.ws.length ≤ 65536 ∧ n.bs.length ≤ 65536) : Cg Go.Proofs.Tryd.prog T 98 [] [.agg (gcs wd lo hi out (.d (rowN ns)))] (fun r H => H = [] ∧ r = ltup (lookG wd lo hi out ns)) := by
  refine Cg_of [] Tk.m Go.Proofs.Tryd.func98 rfl rfl Go.Proofs.Tryd.ntmps98 (by simp) rfl (rs := [.cell 2 110, .tmp 3]) rfl fun E hP hn hT hpn => ?_
  (repeat (first | refine TS.imp ?_ | refine n9 (by decide) ?_))
  refine TR.imp ?_; intro K hK; simp only [go_sem, hP, hn]; (repeat refine vc ?_); refine hK _ ?_; clear K hK
  (repeat (first | refine TS.imp ?_ | refine n9 (by decide) ?_))
  refine TR.imp ?_; intro K hK; simp only [go_sem, hP, hn]
  (repeat refine vc ?_)
  refine c1 (by rw [hP, hT]; exact may_c Tk.m wd lo hi out ns hns (fun n h => by have := hin n h; omega)) rfl rfl rfl trivial (by simp only [go_sem, hP, hn]; try trivial) (by simp only [go_sem, hP, hn]; try rfl) (by rw [hn]; decide) (by rfl) ?_; simp only [go_sem, hP, hn]; (repeat refine vc ?_)
  refine hK _ ?_; clear K hK
  (repeat (first | (refine TR.imp ?_; intro K hK; simp only [go_sem, hP, hn]; (repeat refine vc ?_); refine hK _ ?_; clear K hK) | refine TS.imp ?_ | refine n9 (by decide) ?_))
  refine Tr.cond rfl (fun h1 => ?_) (fun h1 => ?_)
  · (repeat (first | refine TS.imp ?_ | refine n9 (by decide) ?_))
    refine TR.imp ?_; intro K hK; simp only [go_sem, hP, hn]; (repeat refine vc ?_); refine hK _ ?_; clear K hK
    refine Tr.le (Le.wbox 2 [.d (.row [.i .i64 0] []), .d (.row [.i .i64 0] []), .d (.row [.i .i64 0] [])] rfl (by simp [wk])) ?_; simp only [go_sem, hP, hn]
    (repeat (first | (refine TR.imp ?_; intro K hK; simp only [go_sem, hP, hn]; (repeat refine vc ?_); refine hK _ ?_; clear K hK) | refine TS.imp ?_ | refine n9 (by decide) ?_))
    simp only [RetG, go_sem]; (repeat with_reducible refine vc ?_)
    rw [show lookG wd lo hi out ns = (mayG wd lo hi out ns, [], [], []) from if_pos h1]; rfl
  have hmay : mayG wd lo hi out ns = 0 := bne_eq_false_iff_eq.mp h1
  have hLG : lookG wd lo hi out ns = if (!((order ns).length == ns.length)) = true then (13, [], [], []) else match lookL ns (order ns) (wd :: List.replicate ns.length 0) (1 :: List.replicate ns.length 0) with | (e, W, R) => if (e != 0) = true then (e, [], [], []) else (0, order ns, W, R) := by
    unfold lookG; rw [if_neg (by rw [h1]; decide)]
  have hN := mayG_ok hmay
  clear h1
  (repeat (first | refine TS.imp ?_ | refine n9 (by decide) ?_))
  refine TR.imp ?_; intro K hK; simp only [go_sem, hP, hn]
  (repeat refine vc ?_)
  refine CallN_cs (Hi := [] ) (by rw [hP, hT]; exact  ordered_c Tk.m ns hN.2.1 (fun n h => ⟨by have := hin n h; omega, hN.2.2 n h⟩)) rfl rfl rfl trivial (by simp only [go_sem, hP, hn]; try trivial) (by simp only [go_sem, hP, hn]; try rfl) (by simp only [inH, go_sem, hP, hn]; try simp) (by rw [hn]; decide) ?_; simp only [go_sem, hP, hn]; (repeat refine vc ?_)
  refine hK _ ?_; clear K hK
  (repeat (first | (refine TR.imp ?_; intro K hK; simp only [go_sem, hP, hn]; (repeat refine vc ?_); refine hK _ ?_; clear K hK) | refine TS.imp ?_ | refine n9 (by decide) ?_))
  refine Tr.cond rfl (fun h2 => ?_) (fun h2 => ?_)
  · (repeat (first | refine TS.imp ?_ | refine n9 (by decide) ?_))
    refine TR.imp ?_; intro K hK; simp only [go_sem, hP, hn]; (repeat refine vc ?_); refine hK _ ?_; clear K hK
    refine Tr.le (Le.wbox 2 [.d (.row [.i .i64 0] []), .d (.row [.i .i64 0] []), .d (.row [.i .i64 0] [])] rfl (by simp [wk])) ?_; simp only [go_sem, hP, hn]
    (repeat (first | (refine TR.imp ?_; intro K hK; simp only [go_sem, hP, hn]; (repeat refine vc ?_); refine hK _ ?_; clear K hK) | refine TS.imp ?_ | refine n9 (by decide) ?_))
    simp only [RetG, go_sem]; (repeat with_reducible refine vc ?_)
    rw [hLG, if_pos h2]; rfl
  rw [if_neg (by rw [h2]; decide)] at hLG
  have hol : (order ns).length = ns.length := by simpa using h2
  have hor : ∀ x ∈ order ns, 1 ≤ x ∧ x ≤ ns.length := ordR_range (by simp)
  clear h2
  generalize hos : order ns = os at hLG hol hor ⊢
  (repeat (first | refine TS.imp ?_ | refine n9 (by decide) ?_))
  refine Tr.le (Le.keep [1, 2, 3, 4, 5]) ?_; simp only [List.map_cons, List.map_nil, lk, Nat.reduceEqDiff, reduceIte]
  refine Tr.meet (fun s => s = ⟨[(1, .ptr 1 0), (2, .ptr 2 0), (3, .d (.i .i64 0)), (5, .d (.row [.i .i64 0] (os.map intC))), (7, .ptr 7 0)], [(1, .box 47 (gcs wd lo hi out (.d (rowN ns)))), (2, .box 110 [.d .nil, .d .nil, .d .nil]), (7, .box 110 [.d (.row [.i .i64 0] (os.map intC)), .own 34, .own 39]), (34, .row 3 [.i .i64 0] ((List.replicate (ns.length + 1) 0).map intC)), (39, .row 3 [.i .i64 0] ((List.replicate (ns.length + 1) 0).map intC))]⟩) ?_ ?_
  rotate_left
  · (first | refine d1 (.p true 0 (.p true 1 (.p true 2 (.p true 3 (.p true 4 (.p true 6 (.p true 7 (.p true 8 (.p true 9 (.alt 5 (.alt 10 (.p false 11 (.alt 12 (.alt 13 .nil .nil) .nil)) (.alt 12 (.alt 10 (.p false 11 (.alt 13 .nil .nil)) .nil) .nil)) (.alt 10 (.alt 5 (.p false 11 (.alt 12 (.alt 13 .nil .nil) .nil)) (.alt 12 (.alt 5 (.p false 11 (.alt 13 .nil .nil)) .nil) .nil)) (.alt 12 (.alt 5 (.alt 10 (.p false 11 (.alt 13 .nil .nil)) .nil) (.alt 10 (.alt 5 (.p false 11 (.alt 13 .nil .nil)) .nil) .nil)) .nil)))))))))))) [] (by rw [hP]; kernel_rfl) (by kernel_rfl) (by simp only [go_sem, hP, hn]; try simp) (fun _ _ h => h) fun K hK => ?_ | refine d2 (.p true 0 (.p true 1 (.p true 2 (.p true 3 (.p true 4 (.p true 6 (.p true 7 (.p true 8 (.p true 9 (.alt 5 (.alt 10 (.p false 11 (.alt 12 (.alt 13 .nil .nil) .nil)) (.alt 12 (.alt 10 (.p false 11 (.alt 13 .nil .nil)) .nil) .nil)) (.alt 10 (.alt 5 (.p false 11 (.alt 12 (.alt 13 .nil .nil) .nil)) (.alt 12 (.alt 5 (.p false 11 (.alt 13 .nil .nil)) .nil) .nil)) (.alt 12 (.alt 5 (.alt 10 (.p false 11 (.alt 13 .nil .nil)) .nil) (.alt 10 (.alt 5 (.p false 11 (.alt 13 .nil .nil)) .nil) .nil)) .nil)))))))))))) [] (by rw [hP]; kernel_rfl) (by kernel_rfl) (by simp only [go_sem, hP, hn]; try simp) (fun _ _ h => h) fun K hK => ?_ | refine d4 (.p true 0 (.p true 1 (.p true 2 (.p true 3 (.p true 4 (.p true 6 (.p true 7 (.p true 8 (.p true 9 (.alt 5 (.alt 10 (.p false 11 (.alt 12 (.alt 13 .nil .nil) .nil)) (.alt 12 (.alt 10 (.p false 11 (.alt 13 .nil .nil)) .nil) .nil)) (.alt 10 (.alt 5 (.p false 11 (.alt 12 (.alt 13 .nil .nil) .nil)) (.alt 12 (.alt 5 (.p false 11 (.alt 13 .nil .nil)) .nil) .nil)) (.alt 12 (.alt 5 (.alt 10 (.p false 11 (.alt 13 .nil .nil)) .nil) (.alt 10 (.alt 5 (.p false 11 (.alt 13 .nil .nil)) .nil) .nil)) .nil)))))))))))) [] (by rw [hP]; kernel_rfl) (by kernel_rfl) (by simp only [go_sem, hP, hn]; try simp) (fun _ _ h => h) fun K hK => ?_); simp only [go_sem, hP, hn]
    simp only [show wrap64 ((ns.length : Int) + 1) = ((ns.length + 1 : Nat) : Int) from w64 (by omega) (by omega), Int.toNat_natCast]
    (repeat' (refine And.intro ?_ ?_)); all_goals (first | (refine hK _ ?_; (refine ⟨_, ?_, rfl⟩; exact (Le.mv (by simp only [go_sem, hP, hn]; first | done | (simp; done) | (simp [intC]; done) | (repeat (first | rfl | constructor))) (by simp only [go_sem, hP, hn]; first | done | (simp; done) | (simp [intC]; done) | (repeat (first | rfl | constructor)))))) | (first | trivial | omega | (simp <;> omega) | (simp +contextual; done) | (clear hK; grind)))
  rintro s rfl
  (first | refine d1 (.p true 0 (.p true 1 (.p true 2 (.p true 3 (.p true 4 (.p true 5 (.p true 6 (.alt 7 (.p true 8 (.alt 9 .nil .nil)) .nil)))))))) [34, 39] (by rw [hP]; kernel_rfl) (by kernel_rfl) (by simp only [go_sem, hP, hn]; try simp) (fun _ _ h => h) fun K hK => ?_ | refine d2 (.p true 0 (.p true 1 (.p true 2 (.p true 3 (.p true 4 (.p true 5 (.p true 6 (.alt 7 (.p true 8 (.alt 9 .nil .nil)) .nil)))))))) [34, 39] (by rw [hP]; kernel_rfl) (by kernel_rfl) (by simp only [go_sem, hP, hn]; try simp) (fun _ _ h => h) fun K hK => ?_ | refine d4 (.p true 0 (.p true 1 (.p true 2 (.p true 3 (.p true 4 (.p true 5 (.p true 6 (.alt 7 (.p true 8 (.alt 9 .nil .nil)) .nil)))))))) [34, 39] (by rw [hP]; kernel_rfl) (by kernel_rfl) (by simp only [go_sem, hP, hn]; try simp) (fun _ _ h => h) fun K hK => ?_); simp only [go_sem, hP, hn]
  (repeat refine vc ?_)
  rw [show (List.replicate (ns.length + 1) (0 : Int)).set 0 1 = 1 :: List.replicate ns.length 0 from rfl, show (List.replicate (ns.length + 1) (0 : Int)).set 0 wd = wd :: List.replicate ns.length 0 from rfl]
  refine hK _ ?_; clear K hK
  (repeat (first | (refine TR.imp ?_; intro K hK; simp only [go_sem, hP, hn]; (repeat refine vc ?_); refine hK _ ?_; clear K hK) | refine TS.imp ?_ | refine n9 (by decide) ?_))
  refine Tr.le (Le.keep [1, 2, 3, 5, 7, 49, 50, 51]) ?_; simp only [List.map_cons, List.map_nil, lk, Nat.reduceEqDiff, reduceIte]
  refine Tr.loop (fun m s => ∃ (k : Int) (W R : List Int), s = ⟨[(1, .ptr 1 0), (2, .ptr 2 0), (3, .d (.i .i64 0)), (7, .ptr 7 0), (49, .d (.row [.i .i64 0] (os.map intC))), (50, .d (.i .i64 os.length)), (51, .d (.i .i64 k))], [(1, .box 47 (gcs wd lo hi out (.d (rowN ns)))), (2, .box 110 [.d .nil, .d .nil, .d .nil]), (7, .box 110 [.d (.row [.i .i64 0] (os.map intC)), .own 34, .own 39]), (34, .row 3 [.i .i64 0] (W.map intC)), (39, .row 3 [.i .i64 0] (R.map intC))]⟩ ∧ 0 ≤ k ∧ k + m = os.length ∧ W.length = ns.length + 1 ∧ R.length = ns.length + 1 ∧ lookL ns os (wd :: List.replicate ns.length 0) (1 :: List.replicate ns.length 0) = lookL ns (os.drop k.toNat) W R) os.length ⟨_, (Le.mv (by simp only [go_sem, hP, hn]; first | done | (simp; done) | (simp [intC]; done) | (repeat (first | rfl | constructor))) (by simp only [go_sem, hP, hn]; first | done | (simp; done) | (simp [intC]; done) | (repeat (first | rfl | constructor)))), 0, wd :: List.replicate ns.length 0, 1 :: List.replicate ns.length 0, rfl, by omega, by omega, by simp, by simp, rfl⟩ ?_
  rintro m s ⟨k, W, R, rfl, hk0, hkm, hWl, hRl, hL⟩
  (repeat (first | (refine TR.imp ?_; intro K hK; simp only [go_sem, hP, hn]; (repeat refine vc ?_); refine hK _ ?_; clear K hK) | refine TS.imp ?_ | refine n9 (by decide) ?_))
  refine Tr.cond rfl (fun hb => ?_) (fun hb => ?_)
  · have hk1 : k < os.length := by simpa using hb
    rw [drop_rd hk0 hk1] at hL
    have hi := hor _ (rd_mem hk0 hk1)
    have hiw : wrap64 (rd os k - 1) = rd os k - 1 := w64 (by omega) (by omega)
    have hnd := rw_nd ns (rd os k - 1) (by omega) (by omega)
    have hmem := nd_mem (ns := ns) (i := rd os k - 1) (by omega) (by omega)
    have hq := hin _ hmem
    have hqi := hN.2.2 _ hmem
    rw [lookL_cons] at hL
    (repeat (first | refine TS.imp ?_ | refine n9 (by decide) ?_))
    refine TR.imp ?_; intro K hK; simp only [go_sem, hP, hn]; (repeat refine vc ?_); refine hK _ ?_; clear K hK
    generalize rd os k = i at hi hiw hnd hmem hq hqi hL ⊢
    (repeat (first | refine TS.imp ?_ | refine n9 (by decide) ?_))
    refine TR.imp ?_; intro K hK; simp only [hiw, hnd, go_sem, hP, hn]
    (repeat refine vc ?_)
    generalize nd ns (i - 1) = q at hq hqi hL ⊢
    refine hK _ ?_; clear K hK
    refine Tr.le (Le.keep [1, 2, 3, 7, 9, 10, 49, 50, 51]) ?_; simp only [List.map_cons, List.map_nil, lk, Nat.reduceEqDiff, reduceIte]
    (repeat (first | refine TS.imp ?_ | refine n9 (by decide) ?_))
    have hqW : ∀ x ∈ q.inn, 0 ≤ x ∧ x < W.length := fun x hx => by have := hqi x hx; omega
    have hml : (q.inn.map (rd W)).length ≤ 65536 := by rw [List.length_map]; omega
    have hmr : (q.inn.map (rd R)).length ≤ 65536 := by rw [List.length_map]; omega
    have hqR : ∀ x ∈ q.inn, 0 ≤ x ∧ x < R.length := fun x hx => by have := hqi x hx; omega
    refine TR.imp ?_; intro K hK; simp only [go_sem, hP, hn]; (repeat refine vc ?_); refine c1 (by rw [hP, hT]; exact pick_c Tk.m W q.inn (by omega) (by omega) hqW) rfl rfl rfl trivial (by simp only [go_sem, hP, hn]; try trivial) (by simp only [go_sem, hP, hn]; try rfl) (by rw [hn]; decide) (by rfl) ?_; simp only [go_sem, hP, hn]; (repeat refine vc ?_); refine hK _ ?_; clear K hK
    (repeat (first | refine TS.imp ?_ | refine n9 (by decide) ?_))
    refine TR.imp ?_; intro K hK; simp only [go_sem, hP, hn]; (repeat refine vc ?_); refine c1 (by rw [hP, hT]; exact Check_k Tk q (q.inn.map (rd W)) (by omega) (by omega) hml (by omega)) rfl rfl rfl trivial (by simp only [go_sem, hP, hn]; try trivial) (by simp only [go_sem, hP, hn]; try rfl) (by rw [hn]; decide) (by rfl) ?_; simp only [go_sem, hP, hn]; (repeat refine vc ?_); refine hK _ ?_; clear K hK
    (repeat (first | (refine TR.imp ?_; intro K hK; simp only [go_sem, hP, hn]; (repeat refine vc ?_); refine hK _ ?_; clear K hK) | refine TS.imp ?_ | refine n9 (by decide) ?_))
    refine Tr.cond rfl (fun hc => ?_) (fun hc => ?_)
    · rw [if_pos hc] at hL
      (repeat (first | refine TS.imp ?_ | refine n9 (by decide) ?_))
      refine TR.imp ?_; intro K hK; simp only [go_sem, hP, hn]; (repeat refine vc ?_); refine hK _ ?_; clear K hK
      refine Tr.le (Le.wbox 2 [.d (.row [.i .i64 0] []), .d (.row [.i .i64 0] []), .d (.row [.i .i64 0] [])] rfl (by simp [wk])) ?_; simp only [go_sem, hP, hn]
      (repeat (first | (refine TR.imp ?_; intro K hK; simp only [go_sem, hP, hn]; (repeat refine vc ?_); refine hK _ ?_; clear K hK) | refine TS.imp ?_ | refine n9 (by decide) ?_))
      simp only [RetG, go_sem]; (repeat with_reducible refine vc ?_)
      rw [hLG, hL]; simp only [if_pos hc]; rfl
    rw [if_neg (by rw [hc]; decide)] at hL
    have hc0 : q.chk (q.inn.map (rd W)) = 0 := bne_eq_false_iff_eq.mp hc
    have hpos : 0 < q.inn.length := by
      rcases Nat.eq_zero_or_pos q.inn.length with h | h
      · rw [List.eq_nil_of_length_eq_zero h] at hc0; exact absurd hc0 (Nd.chk_ne q)
      · exact h
    (repeat (first | refine TS.imp ?_ | refine n9 (by decide) ?_))
    refine Tr.le (Le.keep [1, 2, 3, 7, 9, 10, 11, 49, 50, 51]) ?_; simp only [List.map_cons, List.map_nil, lk, Nat.reduceEqDiff, reduceIte]
    (first | refine d1 (.p true 0 (.p true 1 (.p true 2 (.p true 3 (.p true 4 (.alt 5 (.alt 6 (.p false 7 (.p false 8 (.p false 9 (.p false 10 (.p false 11 .nil))))) .nil) .nil)))))) [] (by rw [hP]; kernel_rfl) (by kernel_rfl) (by simp only [go_sem, hP, hn]; try simp) (fun _ _ h => h) fun K hK => ?_ | refine d2 (.p true 0 (.p true 1 (.p true 2 (.p true 3 (.p true 4 (.alt 5 (.alt 6 (.p false 7 (.p false 8 (.p false 9 (.p false 10 (.p false 11 .nil))))) .nil) .nil)))))) [] (by rw [hP]; kernel_rfl) (by kernel_rfl) (by simp only [go_sem, hP, hn]; try simp) (fun _ _ h => h) fun K hK => ?_ | refine d4 (.p true 0 (.p true 1 (.p true 2 (.p true 3 (.p true 4 (.alt 5 (.alt 6 (.p false 7 (.p false 8 (.p false 9 (.p false 10 (.p false 11 .nil))))) .nil) .nil)))))) [] (by rw [hP]; kernel_rfl) (by kernel_rfl) (by simp only [go_sem, hP, hn]; try simp) (fun _ _ h => h) fun K hK => ?_); simp only [go_sem, hP, hn]
    (repeat refine vc ?_)
    refine p1 (by rw [hP, hT]; exact pick_c Tk.m R q.inn (by omega) (by omega) hqR) rfl rfl rfl trivial (by simp only [go_sem, hP, hn]; try trivial) (by simp only [go_sem, hP, hn]; try rfl) (by rw [hn]; decide) (by rfl) ?_; simp only [go_sem, hP, hn]; (repeat refine vc ?_)
    refine CallP_cs (by rw [hP, hT]; exact rate_k Tk q (q.inn.map (rd R)) (by simpa using hpos) hmr) rfl rfl rfl trivial (by simp only [go_sem, hP, hn]; try trivial) (by simp only [go_sem, hP, hn]; try rfl) (by rw [hn]; decide) ?_; simp only [go_sem, hP, hn]; (repeat refine vc ?_)
    refine hK _ ?_; clear K hK
    (repeat (first | (refine TR.imp ?_; intro K hK; simp only [go_sem, hP, hn]; (repeat refine vc ?_); refine hK _ ?_; clear K hK) | refine TS.imp ?_ | refine n9 (by decide) ?_))
    refine Tr.cond rfl (fun hd => ?_) (fun hd => ?_)
    · rw [if_pos hd] at hL
      (repeat (first | refine TS.imp ?_ | refine n9 (by decide) ?_))
      refine TR.imp ?_; intro K hK; simp only [go_sem, hP, hn]; (repeat refine vc ?_); refine hK _ ?_; clear K hK
      refine Tr.le (Le.wbox 2 [.d (.row [.i .i64 0] []), .d (.row [.i .i64 0] []), .d (.row [.i .i64 0] [])] rfl (by simp [wk])) ?_; simp only [go_sem, hP, hn]
      (repeat (first | (refine TR.imp ?_; intro K hK; simp only [go_sem, hP, hn]; (repeat refine vc ?_); refine hK _ ?_; clear K hK) | refine TS.imp ?_ | refine n9 (by decide) ?_))
      simp only [RetG, go_sem]; (repeat with_reducible refine vc ?_)
      rw [hLG, hL]; rfl
    rw [if_neg (by rw [hd]; decide)] at hL
    (repeat (first | refine TS.imp ?_ | refine n9 (by decide) ?_))
    refine Tr.le (Le.keep [1, 2, 3, 7, 9, 10, 11, 12, 49, 50, 51]) ?_; simp only [List.map_cons, List.map_nil, lk, Nat.reduceEqDiff, reduceIte]
    (first | refine d1 (.p true 0 (.p true 1 (.p true 2 (.p true 3 (.p true 4 (.p true 5 (.p true 6 (.p true 7 (.p true 9 (.alt 8 (.p true 10 (.alt 11 (.p true 12 (.alt 13 .nil .nil)) .nil)) .nil)))))))))) [34, 39] (by rw [hP]; kernel_rfl) (by kernel_rfl) (by simp only [go_sem, hP, hn]; try simp) (fun _ _ h => h) fun K hK => ?_ | refine d2 (.p true 0 (.p true 1 (.p true 2 (.p true 3 (.p true 4 (.p true 5 (.p true 6 (.p true 7 (.p true 9 (.alt 8 (.p true 10 (.alt 11 (.p true 12 (.alt 13 .nil .nil)) .nil)) .nil)))))))))) [34, 39] (by rw [hP]; kernel_rfl) (by kernel_rfl) (by simp only [go_sem, hP, hn]; try simp) (fun _ _ h => h) fun K hK => ?_ | refine d4 (.p true 0 (.p true 1 (.p true 2 (.p true 3 (.p true 4 (.p true 5 (.p true 6 (.p true 7 (.p true 9 (.alt 8 (.p true 10 (.alt 11 (.p true 12 (.alt 13 .nil .nil)) .nil)) .nil)))))))))) [34, 39] (by rw [hP]; kernel_rfl) (by kernel_rfl) (by simp only [go_sem, hP, hn]; try simp) (fun _ _ h => h) fun K hK => ?_); simp only [go_sem, hP, hn]
    (repeat refine vc ?_)
    refine p1 (by rw [hP, hT]; exact Width_k Tk q (q.inn.map (rd W)) (by omega) (by omega) hml (by omega)) rfl rfl rfl trivial (by simp only [go_sem, hP, hn]; try trivial) (by simp only [go_sem, hP, hn]; try rfl) (by rw [hn]; decide) (by rfl) ?_; simp only [go_sem, hP, hn]; (repeat refine vc ?_)
    refine hK _ ?_; clear K hK
    (repeat (first | (refine TR.imp ?_; intro K hK; simp only [go_sem, hP, hn]; (repeat refine vc ?_); refine hK _ ?_; clear K hK) | refine TS.imp ?_ | refine n9 (by decide) ?_))
    rw [w64 (x := k + 1) (by omega) (by omega)]
    refine ⟨m - 1, _, by omega, ?_, k + 1, W.set i.toNat (q.wide (q.inn.map (rd W))), R.set i.toNat (q.grate (q.inn.map (rd R))).1, rfl, by omega, by omega, by simpa using hWl, by simpa using hRl, hL⟩
    exact (Le.mv (by simp only [go_sem, hP, hn]; first | done | (simp; done) | (simp [intC]; done) | (repeat (first | rfl | constructor))) (by simp only [go_sem, hP, hn]; first | done | (simp; done) | (simp [intC]; done) | (repeat (first | rfl | constructor))))
  rw [drop_end (by simpa using hb)] at hL
  (repeat (first | (refine TR.imp ?_; intro K hK; simp only [go_sem, hP, hn]; (repeat refine vc ?_); refine hK _ ?_; clear K hK) | refine TS.imp ?_ | refine n9 (by decide) ?_))
  simp only [RetG, go_sem]; (repeat with_reducible refine vc ?_)
  rw [hLG, hL]; rfl
theorem Order_c {T : World → Prop} (Tk : KT T) (wd lo hi out : Int) (ns : List Nd) (hns : ns.length ≤ 65536) (hin : ∀ n ∈ ns, n.inn.length ≤ 4096 ∧ n.ws.length ≤ 65536 ∧ n.bs.length ≤ 65536) : Cg Go.Proofs.Tryd.prog T 59 [] [.agg (gcs wd lo hi out (.d (rowN ns)))] (fun r H => H = [] ∧ r = .d (.row [.i .i64 0] ((lookG wd lo hi out ns).2.1.map intC))) := by
  refine Cg_of [] Tk.m Go.Proofs.Tryd.func59 rfl rfl Go.Proofs.Tryd.ntmps59 (by simp) rfl (rs := [.tmp 2]) rfl fun E hP hn hT hpn => ?_
  (repeat (first | refine TS.imp ?_ | refine n9 (by decide) ?_))
  refine TR.imp ?_; intro K hK; simp only [go_sem, hP, hn]; (repeat refine vc ?_); refine hK _ ?_; clear K hK
  (repeat (first | refine TS.imp ?_ | refine n9 (by decide) ?_))
  refine TR.imp ?_; intro K hK; simp only [go_sem, hP, hn]
  (repeat refine vc ?_)
  refine CallN_cs (Hi := [] ) (by rw [hP, hT]; exact  look_c Tk wd lo hi out ns hns hin) rfl rfl rfl trivial (by simp only [go_sem, hP, hn]; try trivial) (by simp only [go_sem, hP, hn]; try rfl) (by simp only [inH, go_sem, hP, hn]; try simp) (by rw [hn]; decide) ?_; simp only [go_sem, hP, hn]; (repeat refine vc ?_)
  simp only [ltup]
  simp only [go_sem, hP, hn]
  (repeat refine vc ?_)
  refine hK _ ?_; clear K hK
  (repeat (first | (refine TR.imp ?_; intro K hK; simp only [go_sem, hP, hn]; (repeat refine vc ?_); refine hK _ ?_; clear K hK) | refine TS.imp ?_ | refine n9 (by decide) ?_))
  simp only [RetG, go_sem]; (repeat with_reducible refine vc ?_)
theorem Widths_c {T : World → Prop} (Tk : KT T) (wd lo hi out : Int) (ns : List Nd) (hns : ns.length ≤ 65536) (hin : ∀ n ∈ ns, n.inn.length ≤ 4096 ∧ n.ws.length ≤ 65536 ∧ n.bs.length ≤ 65536) : Cg Go.Proofs.Tryd.prog T 57 [] [.agg (gcs wd lo hi out (.d (rowN ns)))] (fun r H => H = [] ∧ r = .d (.row [.i .i64 0] ((lookG wd lo hi out ns).2.2.1.map intC))) := by
  refine Cg_of [] Tk.m Go.Proofs.Tryd.func57 rfl rfl Go.Proofs.Tryd.ntmps57 (by simp) rfl (rs := [.tmp 2]) rfl fun E hP hn hT hpn => ?_
  (repeat (first | refine TS.imp ?_ | refine n9 (by decide) ?_))
  refine TR.imp ?_; intro K hK; simp only [go_sem, hP, hn]; (repeat refine vc ?_); refine hK _ ?_; clear K hK
  (repeat (first | refine TS.imp ?_ | refine n9 (by decide) ?_))
  refine TR.imp ?_; intro K hK; simp only [go_sem, hP, hn]
  (repeat refine vc ?_)
  refine CallN_cs (Hi := [] ) (by rw [hP, hT]; exact  look_c Tk wd lo hi out ns hns hin) rfl rfl rfl trivial (by simp only [go_sem, hP, hn]; try trivial) (by simp only [go_sem, hP, hn]; try rfl) (by simp only [inH, go_sem, hP, hn]; try simp) (by rw [hn]; decide) ?_; simp only [go_sem, hP, hn]; (repeat refine vc ?_)
  simp only [ltup]
  simp only [go_sem, hP, hn]
  (repeat refine vc ?_)
  refine hK _ ?_; clear K hK
  (repeat (first | (refine TR.imp ?_; intro K hK; simp only [go_sem, hP, hn]; (repeat refine vc ?_); refine hK _ ?_; clear K hK) | refine TS.imp ?_ | refine n9 (by decide) ?_))
  simp only [RetG, go_sem]; (repeat with_reducible refine vc ?_)
theorem Check_c {T : World → Prop} (Tk : KT T) (wd lo hi out : Int) (ns : List Nd) (hns : ns.length ≤ 65536) (hin : ∀ n ∈ ns, n.inn.length ≤ 4096 ∧ n.ws.length ≤ 65536 ∧ n.bs.length ≤ 65536) : Cg Go.Proofs.Tryd.prog T 56 [] [.agg (gcs wd lo hi out (.d (rowN ns)))] (fun r H => H = [] ∧ r = .d (.i .i64 (lookG wd lo hi out ns).1)) := by
  refine Cg_of [] Tk.m Go.Proofs.Tryd.func56 rfl rfl Go.Proofs.Tryd.ntmps56 (by simp) rfl (rs := [.tmp 2]) rfl fun E hP hn hT hpn => ?_
  (repeat (first | refine TS.imp ?_ | refine n9 (by decide) ?_))
  refine TR.imp ?_; intro K hK; simp only [go_sem, hP, hn]; (repeat refine vc ?_); refine hK _ ?_; clear K hK
  (repeat (first | refine TS.imp ?_ | refine n9 (by decide) ?_))
  refine TR.imp ?_; intro K hK; simp only [go_sem, hP, hn]
  (repeat refine vc ?_)
  refine CallN_cs (Hi := [] ) (by rw [hP, hT]; exact  look_c Tk wd lo hi out ns hns hin) rfl rfl rfl trivial (by simp only [go_sem, hP, hn]; try trivial) (by simp only [go_sem, hP, hn]; try rfl) (by simp only [inH, go_sem, hP, hn]; try simp) (by rw [hn]; decide) ?_; simp only [go_sem, hP, hn]; (repeat refine vc ?_)
  simp only [ltup]
  simp only [go_sem, hP, hn]
  (repeat refine vc ?_)
  refine hK _ ?_; clear K hK
  (repeat (first | (refine TR.imp ?_; intro K hK; simp only [go_sem, hP, hn]; (repeat refine vc ?_); refine hK _ ?_; clear K hK) | refine TS.imp ?_ | refine n9 (by decide) ?_))
  simp only [RetG, go_sem]; (repeat with_reducible refine vc ?_)
section
attribute [local go_sem] Rg.cs Rg.ds e0R rgS
def eachW (n : Nd) : Nat := n.ws.length / n.bs.length
def overR (x : Rg) : Bool := decide (x.al < -68719476736) || decide (68719476736 < x.ah)
def stepR (ns : List Nd) (W : List Int) (i : Int) (out : List Rg) : Rg := nodeR (nd ns (i - 1)) (rd W (rd (nd ns (i - 1)).inn 0)) ((nd ns (i - 1)).inn.map (rg out)) (eachW (nd ns (i - 1)))
/-- ends along an order -/
def rgL (ns : List Nd) (W : List Int) : List Int → List Rg → Option (List Rg)
  | [], out => some out
  | i :: r, out => if overR (stepR ns W i out) = true then none else rgL ns W r (out.set i.toNat (stepR ns W i out))
def rangesV (wd lo hi out : Int) (ns : List Nd) : Int × List Rg :=
  if ((lookG wd lo hi out ns).1 != 0) = true then ((lookG wd lo hi out ns).1, [])
  else match rgL ns (lookG wd lo hi out ns).2.2.1 (lookG wd lo hi out ns).2.1 (rgS lo hi :: List.replicate ns.length ⟨0, 0, 0, 0⟩) with
    | none => (16, [])
    | some o => (0, o)
/-- a node that ends may go over -/
structure NG (N : Int) (n : Nd) : Prop where
  i0 : 1 ≤ n.inn.length ∧ n.inn.length ≤ 4
  ij : ∀ j ∈ n.inn, 0 ≤ j ∧ j ≤ N
  bw : rWeighs n.k = true → BW n (eachW n)
  s27 : n.s27 = true
structure LG (lo hi : Int) (ns : List Nd) (os W : List Int) : Prop where
  lo0 : in32 lo ∧ in32 hi
  wl : W.length = ns.length + 1
  w16 : ∀ x ∈ W, 0 ≤ x ∧ x ≤ 16
  osn : ∀ i ∈ os, (1 ≤ i ∧ i ≤ ns.length) ∧ NG ns.length (nd ns (i - 1))
  ol : os.length ≤ 65536
theorem s27' {n : Nd} (h : n.s27 = true) : (0 ≤ n.mult ∧ n.mult ≤ 32767) ∧ (0 ≤ n.shift ∧ n.shift ≤ 30) ∧ -2147483648 ≤ n.low ∧ n.low ≤ n.high ∧ n.high ≤ 2147483647 := by
  unfold Nd.s27 at h
  simp only [Bool.and_eq_true, inB_iff, decide_eq_true_eq] at h
  omega
theorem scale32' (x m s : Int) : in32 (scaleV x m s) := by
  unfold scaleV
  split
  · exact clamp32 _
  · decide
theorem pst32' (n : Nd) (x : Int) (h : n.s27 = true) : in32 (n.pst x) := by
  obtain ⟨_, _, a, b, c⟩ := s27' h
  unfold Nd.pst
  split
  · have := clampV_in (x := if (Go.bits .and .i64 n.post 1 != 0) = true then scaleV (clampV x (-2147483648) 2147483647) n.mult n.shift else clampV x (-2147483648) 2147483647) b
    unfold in32; omega
  · split
    · exact scale32' _ _ _
    · exact clamp32 _
theorem nodeR32 {n : Nd} {width : Int} {ins : List Rg} {each : Nat} (h : NOk n ins each) (hs : n.s27 = true) (hw : 0 ≤ width ∧ width ≤ 16) : in32 (nodeR n width ins each).lo ∧ in32 (nodeR n width ins each).hi := by
  have hl := nodeLH32 h
  obtain ⟨_, _, a, b, c⟩ := s27' hs
  unfold nodeR
  split
  · exact ⟨pst32' n _ hs, pst32' n _ hs⟩
  split
  · exact hl
  split
  · exact ⟨add_in _, add_in _⟩
  split
  · have h1 := clampV_in (x := nodeL n ins) b
    have h2 := clampV_in (x := nodeH n ins) b
    exact ⟨by show in32 (clampV _ _ _); unfold in32; omega, by show in32 (clampV _ _ _); unfold in32; omega⟩
  split
  · exact ⟨scale32' _ _ _, scale32' _ _ _⟩
  split
  · refine ⟨by show in32 0; decide, ?_⟩
    show in32 (wrap64 (width - 1))
    rw [w64 (by omega) (by omega)]; unfold in32; omega
  · exact hl
theorem rg_in {out : List Rg} (h : ∀ r ∈ out, in32 r.lo ∧ in32 r.hi) {j : Int} (h0 : 0 ≤ j) (h1 : j < out.length) : in32 (rg out j).lo ∧ in32 (rg out j).hi := h _ (rg_mem h0 h1)
theorem rw_rgset (l : List Rg) (i : Nat) (x : Rg) : setE (l.map Rg.ds) i 0 [.i .i64 x.lo, .i .i64 x.hi, .i .i64 x.al, .i .i64 x.ah] = (l.set i x).map Rg.ds := by
  unfold setE
  apply List.ext_getElem?
  intro j
  rw [List.getElem?_modify, List.getElem?_map, List.getElem?_map, List.getElem?_set]
  by_cases h : i = j
  · subst h
    by_cases h2 : i < l.length
    · simp [h2, Rg.ds]
    · simp [h2]
  · simp [h]
theorem rw_rgrep (n : Nat) : List.replicate n [D.i .i64 0, D.i .i64 0, D.i .i64 0, D.i .i64 0] = (List.replicate n (⟨0, 0, 0, 0⟩ : Rg)).map Rg.ds := by simp [Rg.ds]
attribute [local go_sem] rw_rgset rw_rgrep
theorem Ranges_c {T : World → Prop} (Tk : KT T) (wd lo hi out : Int) (ns : List Nd) (hns : ns.length ≤ 65536) (hin : ∀ n ∈ ns, n.inn.length ≤ 4096 ∧ n.ws.length ≤ 65536 ∧ n.bs.length ≤ 65536) (hL : (lookG wd lo hi out ns).1 = 0 → LG lo hi ns (lookG wd lo hi out ns).2.1 (lookG wd lo hi out ns).2.2.1) :
    Cg Go.Proofs.Tryd.prog T 26 [] [.agg (gcs wd lo hi out (.d (rowN ns)))] (fun r H => H = [] ∧ r = .tup [.d (.row e0R ((rangesV wd lo hi out ns).2.map Rg.ds)), .d (.i .i64 (rangesV wd lo hi out ns).1)]) := by
  refine Cg_of [] Tk.m Go.Proofs.Tryd.func26 rfl rfl Go.Proofs.Tryd.ntmps26 (by simp) rfl (rs := [.tmp 2, .tmp 3]) rfl fun E hP hn hT hpn => ?_
  (repeat (first | refine TS.imp ?_ | refine n9 (by decide) ?_))
  refine TR.imp ?_; intro K hK; simp only [go_sem, hP, hn]; (repeat refine vc ?_); refine hK _ ?_; clear K hK
  (repeat (first | refine TS.imp ?_ | refine n9 (by decide) ?_))
  refine TR.imp ?_; intro K hK; simp only [go_sem, hP, hn]
  (repeat refine vc ?_)
  refine CallN_cs (Hi := [] ) (by rw [hP, hT]; exact  Check_c Tk wd lo hi out ns hns hin) rfl rfl rfl trivial (by simp only [go_sem, hP, hn]; try trivial) (by simp only [go_sem, hP, hn]; try rfl) (by simp only [inH, go_sem, hP, hn]; try simp) (by rw [hn]; decide) ?_; simp only [go_sem, hP, hn]; (repeat refine vc ?_)
  refine hK _ ?_; clear K hK
  (repeat (first | refine TS.imp ?_ | refine n9 (by decide) ?_))
  refine TR.imp ?_; intro K hK; simp only [go_sem, hP, hn]; (repeat refine vc ?_); refine hK _ ?_; clear K hK
  (repeat (first | refine TS.imp ?_ | refine n9 (by decide) ?_))
  refine Tr.cond rfl (fun he => ?_) (fun he => ?_)
  · (repeat (first | refine TS.imp ?_ | refine n9 (by decide) ?_))
    refine TR.imp ?_; intro K hK; simp only [go_sem, hP, hn]; (repeat refine vc ?_); refine hK _ ?_; clear K hK
    refine Tr.le (Le.nilrow 2 e0R rfl) ?_
    (repeat (first | (refine TR.imp ?_; intro K hK; simp only [go_sem, hP, hn]; (repeat refine vc ?_); refine hK _ ?_; clear K hK) | refine TS.imp ?_ | refine n9 (by decide) ?_))
    simp only [RetG, go_sem]; (repeat with_reducible refine vc ?_)
    unfold rangesV
    rw [if_pos he]
    rfl
  have he0 : (lookG wd lo hi out ns).1 = 0 := by simpa using he
  have hG := hL he0
  have hR : rangesV wd lo hi out ns = match rgL ns (lookG wd lo hi out ns).2.2.1 (lookG wd lo hi out ns).2.1 (rgS lo hi :: List.replicate ns.length ⟨0, 0, 0, 0⟩) with
    | none => (16, [])
    | some o => (0, o) := by unfold rangesV; rw [if_neg (by rw [he]; decide)]
  have hWc := Widths_c Tk wd lo hi out ns hns hin
  have hOc := Order_c Tk wd lo hi out ns hns hin
  rw [hR]
  clear hL he hR
  generalize (lookG wd lo hi out ns).2.2.1 = W at *
  generalize (lookG wd lo hi out ns).2.1 = os at *
  clear he0
  generalize hV : rgL ns W os (rgS lo hi :: List.replicate ns.length ⟨0, 0, 0, 0⟩) = V
  have hwl := hG.wl
  have hol := hG.ol
  refine Tr.le (Le.keep [1, 2, 3]) ?_; simp only [List.map_cons, List.map_nil, lk, Nat.reduceEqDiff, reduceIte]
  (repeat (first | refine TS.imp ?_ | refine n9 (by decide) ?_))
  refine TR.imp ?_; intro K hK; simp only [go_sem, hP, hn]
  (repeat refine vc ?_)
  refine CallN_cs (Hi := [] ) (by rw [hP, hT]; exact  hWc) rfl rfl rfl trivial (by simp only [go_sem, hP, hn]; try trivial) (by simp only [go_sem, hP, hn]; try rfl) (by simp only [inH, go_sem, hP, hn]; try simp) (by rw [hn]; decide) ?_; simp only [go_sem, hP, hn]; (repeat refine vc ?_)
  refine hK _ ?_; clear K hK
  (repeat (first | refine TS.imp ?_ | refine n9 (by decide) ?_))
  refine TR.imp ?_; intro K hK; simp only [go_sem, hP, hn]
  rw [hwl]
  (repeat refine vc ?_)
  refine hK _ ?_; clear K hK
  (repeat (first | refine TS.imp ?_ | refine n9 (by decide) ?_))
  refine TR.imp ?_; intro K hK; simp only [go_sem, hP, hn]; (repeat refine vc ?_); refine c1 (by rw [hP, hT]; exact same20_c Tk.m lo hi) rfl rfl rfl trivial (by simp only [go_sem, hP, hn]; try trivial) (by simp only [go_sem, hP, hn]; try rfl) (by rw [hn]; decide) (by rfl) ?_; simp only [go_sem, hP, hn]; (repeat refine vc ?_); refine hK _ ?_; clear K hK
  rw [show setE ((List.replicate (ns.length + 1) (⟨0, 0, 0, 0⟩ : Rg)).map Rg.ds) 0 0 [.i .i64 lo, .i .i64 hi, .i .i64 lo, .i .i64 hi] = (rgS lo hi :: List.replicate ns.length ⟨0, 0, 0, 0⟩).map Rg.ds from rw_rgset _ 0 (rgS lo hi)]
  (repeat (first | refine TS.imp ?_ | refine n9 (by decide) ?_))
  refine TR.imp ?_; intro K hK; simp only [go_sem, hP, hn]
  (repeat refine vc ?_)
  refine CallN_cs (Hi := [] ) (by rw [hP, hT]; exact  hOc) rfl rfl rfl trivial (by simp only [go_sem, hP, hn]; try trivial) (by simp only [go_sem, hP, hn]; try rfl) (by simp only [inH, go_sem, hP, hn]; try simp) (by rw [hn]; decide) ?_; simp only [go_sem, hP, hn]; (repeat refine vc ?_)
  refine hK _ ?_; clear K hK
  (repeat (first | refine TS.imp ?_ | refine n9 (by decide) ?_))
  refine Tr.le (Le.keep [1, 5, 6, 31, 32, 33]) ?_; simp only [List.map_cons, List.map_nil, lk, Nat.reduceEqDiff, reduceIte]
  have h0l : ∀ r ∈ rgS lo hi :: List.replicate ns.length ⟨0, 0, 0, 0⟩, in32 r.lo ∧ in32 r.hi := fun r hr => by
    rcases List.mem_cons.1 hr with rfl | hr
    · exact hG.lo0
    · obtain rfl := List.eq_of_mem_replicate hr; exact ⟨by show in32 0; decide, by show in32 0; decide⟩
  refine Tr.loop (fun q s => ∃ (k : Int) (o : List Rg), s = ⟨[(1, .ptr 1 0), (5, .d (.row [.i .i64 0] (W.map intC))), (6, .own 22), (31, .d (.row [.i .i64 0] (os.map intC))), (32, .d (.i .i64 os.length)), (33, .d (.i .i64 k))], [(1, .box 47 (gcs wd lo hi out (.d (rowN ns)))), (22, .row 61 e0R (o.map Rg.ds))]⟩ ∧ 0 ≤ k ∧ k + q = os.length ∧ o.length = ns.length + 1 ∧ (∀ r ∈ o, in32 r.lo ∧ in32 r.hi) ∧ V = rgL ns W (os.drop k.toNat) o) os.length ⟨_, (Le.mv (by simp only [go_sem, hP, hn]; first | done | (simp; done) | (simp [intC]; done) | (repeat (first | rfl | constructor))) (by simp only [go_sem, hP, hn]; first | done | (simp; done) | (simp [intC]; done) | (repeat (first | rfl | constructor)))), 0, rgS lo hi :: List.replicate ns.length ⟨0, 0, 0, 0⟩, rfl, by omega, by omega, by simp, h0l, hV.symm⟩ ?_
  rintro q s ⟨k, o, rfl, k0, kq, hol2, ho32, hst⟩
  (repeat (first | refine TS.imp ?_ | refine n9 (by decide) ?_))
  refine TR.imp ?_; intro K hK; simp only [go_sem, hP, hn]; (repeat refine vc ?_); refine hK _ ?_; clear K hK
  (repeat (first | refine TS.imp ?_ | refine n9 (by decide) ?_))
  refine Tr.cond rfl (fun hb => ?_) (fun hb => ?_)
  · have hk : k < os.length := by simpa using hb
    clear hb
    obtain ⟨⟨hi1, hi2⟩, hN⟩ := hG.osn _ (rd_mem k0 hk)
    rw [drop_rd k0 hk] at hst
    simp only [rgL] at hst
    generalize hii : rd os k = i at *
    have hnd := rw_nd ns (i - 1) (by omega) (by omega)
    have g1 : wrap64 (i - 1) = i - 1 := w64 (by omega) (by omega)
    have hini := hin _ (nd_mem (ns := ns) (i := i - 1) (by omega) (by omega))
    unfold stepR at hst
    generalize nd ns (i - 1) = n at *
    have hil := hN.i0
    have hw0 := hG.w16
    have hj0 := hN.ij _ (rd_mem (l := n.inn) (j := 0) (by decide) (by omega))
    have hwj := hG.w16 _ (rd_mem (l := W) (j := rd n.inn 0) hj0.1 (by omega))
    have hNO : NOk n (n.inn.map (rg o)) (eachW n) := ⟨by rw [List.length_map]; omega, fun r hr => by
      obtain ⟨j, hj, rfl⟩ := List.mem_map.1 hr
      have := hN.ij j hj
      exact rg_in ho32 this.1 (by omega), hN.bw⟩
    have hx32 := nodeR32 (width := rd W (rd n.inn 0)) hNO hN.s27 hwj
    have hnc := node20_c Tk n (rd W (rd n.inn 0)) (n.inn.map (rg o)) (eachW n) hNO
    generalize nodeR n (rd W (rd n.inn 0)) (n.inn.map (rg o)) (eachW n) = x at *
    (repeat (first | refine TS.imp ?_ | refine n9 (by decide) ?_))
    refine TR.imp ?_; intro K hK; simp only [go_sem, hP, hn]
    rw [hii]
    (repeat refine vc ?_)
    refine hK _ ?_; clear K hK
    (repeat (first | refine TS.imp ?_ | refine n9 (by decide) ?_))
    refine TR.imp ?_; intro K hK; simp only [g1, go_sem, hP, hn]
    rw [hnd]
    simp only [go_sem, hP, hn]
    (repeat refine vc ?_)
    refine hK _ ?_; clear K hK
    refine Tr.le (Le.keep [1, 5, 6, 8, 9, 31, 32, 33]) ?_; simp only [List.map_cons, List.map_nil, lk, Nat.reduceEqDiff, reduceIte]
    (repeat (first | refine TS.imp ?_ | refine n9 (by decide) ?_))
    refine TR.imp ?_; intro K hK; simp only [go_sem, hP, hn]; (repeat refine vc ?_); refine hK _ ?_; clear K hK
    (repeat (first | refine TS.imp ?_ | refine n9 (by decide) ?_))
    refine TR.imp ?_; intro K hK; simp only [go_sem, hP, hn]; (repeat refine vc ?_); refine hK _ ?_; clear K hK
    (repeat (first | refine TS.imp ?_ | refine n9 (by decide) ?_))
    refine Tr.le (Le.keep [1, 5, 6, 8, 9, 10, 31, 32, 33, 48, 49, 50]) ?_; simp only [List.map_cons, List.map_nil, lk, Nat.reduceEqDiff, reduceIte]
    refine Tr.loop (fun p s => ∃ (j : Int) (I : List Rg), s = ⟨[(1, .ptr 1 0), (5, .d (.row [.i .i64 0] (W.map intC))), (6, .own 22), (8, .d (.i .i64 i)), (9, .ptr 9 0), (10, .own 46), (31, .d (.row [.i .i64 0] (os.map intC))), (32, .d (.i .i64 os.length)), (33, .d (.i .i64 k)), (48, .d (.row [.i .i64 0] (n.inn.map intC))), (49, .d (.i .i64 n.inn.length)), (50, .d (.i .i64 j))], [(1, .box 47 (gcs wd lo hi out (.d (rowN ns)))), (22, .row 61 e0R (o.map Rg.ds)), (9, .box 27 n.cs), (46, .row 61 e0R (I.map Rg.ds))]⟩ ∧ 0 ≤ j ∧ j + p = n.inn.length ∧ I.length = n.inn.length ∧ I.take j.toNat = (n.inn.map (rg o)).take j.toNat) n.inn.length ⟨_, (Le.mv (by simp only [go_sem, hP, hn]; first | done | (simp; done) | (simp [intC]; done) | (repeat (first | rfl | constructor))) (by simp only [go_sem, hP, hn]; first | done | (simp; done) | (simp [intC]; done) | (repeat (first | rfl | constructor)))), 0, List.replicate n.inn.length ⟨0, 0, 0, 0⟩, rfl, by omega, by omega, by simp, by simp⟩ ?_
    rintro p s ⟨j, I, rfl, j0, jp, hI, hIt⟩
    (repeat (first | refine TS.imp ?_ | refine n9 (by decide) ?_))
    refine TR.imp ?_; intro K hK; simp only [go_sem, hP, hn]; (repeat refine vc ?_); refine hK _ ?_; clear K hK
    (repeat (first | refine TS.imp ?_ | refine n9 (by decide) ?_))
    refine Tr.cond rfl (fun hb => ?_) (fun hb => ?_)
    · have hj : j < n.inn.length := by simpa using hb
      have hjo := hN.ij _ (rd_mem j0 hj)
      have hrj := rw_rg o (rd n.inn j) hjo.1 (by omega)
      clear hb
      (repeat (first | refine TS.imp ?_ | refine n9 (by decide) ?_))
      refine TR.imp ?_; intro K hK; simp only [go_sem, hP, hn]; (repeat refine vc ?_); refine hK _ ?_; clear K hK
      (repeat (first | refine TS.imp ?_ | refine n9 (by decide) ?_))
      refine TR.imp ?_; intro K hK; simp only [go_sem, hP, hn]
      rw [hrj]
      simp only [go_sem, hP, hn]
      (repeat refine vc ?_)
      refine hK _ ?_; clear K hK
      (repeat (first | refine TS.imp ?_ | refine n9 (by decide) ?_))
      refine TR.imp ?_; intro K hK; simp only [go_sem, hP, hn]; (repeat refine vc ?_); refine hK _ ?_; clear K hK
      (repeat (first | refine TS.imp ?_ | refine n9 (by decide) ?_))
      rw [w64 (x := j + 1) (by omega) (by omega)]
      refine ⟨p - 1, _, by omega, ?_, j + 1, I.set j.toNat (rg o (rd n.inn j)), rfl, by omega, by omega, by simpa using hI, ?_⟩
      · exact (Le.mv (by simp only [go_sem, hP, hn]; first | done | (simp; done) | (simp [intC]; done) | (repeat (first | rfl | constructor))) (by simp only [go_sem, hP, hn]; first | done | (simp; done) | (simp [intC]; done) | (repeat (first | rfl | constructor))))
      · have hk1 : j.toNat < I.length := by omega
        have hk2 : j.toNat < n.inn.length := by omega
        rw [show (j + 1).toNat = j.toNat + 1 by omega, List.take_succ_eq_append_getElem (by simpa using hk1), List.take_succ_eq_append_getElem (by simpa using hk2), List.take_set_of_le (Nat.le_refl _), hIt]
        simp [rd, List.getD, hk2]
    · have hj : j = n.inn.length := by have := of_decide_eq_false hb; omega
      clear hb
      have hII : I = n.inn.map (rg o) := by
        rw [hj, Int.toNat_natCast, List.take_of_length_le (by omega), List.take_of_length_le (by simp)] at hIt
        exact hIt
      subst hII
      clear hI hIt j0 jp hj
      refine Tr.le (Le.keep [1, 5, 6, 8, 9, 10, 31, 32, 33]) ?_; simp only [List.map_cons, List.map_nil, lk, Nat.reduceEqDiff, reduceIte]
      refine Tr.le (Le.freeze 46) ?_
      simp only [go_sem, hP, hn]
      (repeat (first | refine TS.imp ?_ | refine n9 (by decide) ?_))
      (first | refine d1 (.p true 0 (.p true 1 (.p true 2 (.p true 3 (.p true 4 (.p true 5 (.p true 6 (.p true 7 (.p true 8 (.p true 9 (.p true 10 (.alt 11 (.p true 12 (.alt 13 .nil .nil)) .nil)))))))))))) [22] (by rw [hP]; kernel_rfl) (by kernel_rfl) (by simp only [go_sem, hP, hn]; try simp) (fun _ _ h => h) fun K hK => ?_ | refine d2 (.p true 0 (.p true 1 (.p true 2 (.p true 3 (.p true 4 (.p true 5 (.p true 6 (.p true 7 (.p true 8 (.p true 9 (.p true 10 (.alt 11 (.p true 12 (.alt 13 .nil .nil)) .nil)))))))))))) [22] (by rw [hP]; kernel_rfl) (by kernel_rfl) (by simp only [go_sem, hP, hn]; try simp) (fun _ _ h => h) fun K hK => ?_ | refine d4 (.p true 0 (.p true 1 (.p true 2 (.p true 3 (.p true 4 (.p true 5 (.p true 6 (.p true 7 (.p true 8 (.p true 9 (.p true 10 (.alt 11 (.p true 12 (.alt 13 .nil .nil)) .nil)))))))))))) [22] (by rw [hP]; kernel_rfl) (by kernel_rfl) (by simp only [go_sem, hP, hn]; try simp) (fun _ _ h => h) fun K hK => ?_); simp only [go_sem, hP, hn]
      (repeat refine vc ?_)
      refine CallP_cs (by rw [hP, hT]; exact hnc) rfl rfl rfl trivial (by simp only [go_sem, hP, hn]; try trivial) (by simp only [go_sem, hP, hn]; try rfl) (by rw [hn]; decide) ?_; simp only [go_sem, hP, hn]; (repeat refine vc ?_)
      refine hK _ ?_; clear K hK
      refine Tr.le (Le.keep [1, 5, 6, 8, 31, 32, 33]) ?_; simp only [List.map_cons, List.map_nil, lk, Nat.reduceEqDiff, reduceIte]
      have hrx : ((o.set i.toNat x).map Rg.ds).getD i.toNat [.i .i64 0, .i .i64 0, .i .i64 0, .i .i64 0] = [.i .i64 x.lo, .i .i64 x.hi, .i .i64 x.al, .i .i64 x.ah] := by
        have hk : i.toNat < o.length := by omega
        simp [List.getD, hk, Rg.ds]
      (repeat (first | refine TS.imp ?_ | refine n9 (by decide) ?_))
      refine TR.imp ?_; intro K hK; simp only [go_sem, hP, hn]
      rw [hrx]
      simp only [go_sem, hP, hn]
      (repeat refine vc ?_)
      refine hK _ ?_; clear K hK
      refine Tr.le (Le.keep [1, 5, 6, 31, 32, 33, 89]) ?_; simp only [List.map_cons, List.map_nil, lk, Nat.reduceEqDiff, reduceIte]
      (repeat (first | refine TS.imp ?_ | refine n9 (by decide) ?_))
      refine Tr.cond rfl (fun hc => ?_) (fun hc => ?_)
      · have hov : overR x = true := hc
        rw [if_pos hov] at hst
        subst hst
        (repeat (first | refine TS.imp ?_ | refine n9 (by decide) ?_))
        refine TR.imp ?_; intro K hK; simp only [go_sem, hP, hn]; (repeat refine vc ?_); refine hK _ ?_; clear K hK
        refine Tr.le (Le.nilrow 2 e0R rfl) ?_
        (repeat (first | (refine TR.imp ?_; intro K hK; simp only [go_sem, hP, hn]; (repeat refine vc ?_); refine hK _ ?_; clear K hK) | refine TS.imp ?_ | refine n9 (by decide) ?_))
        simp only [RetG, go_sem]; (repeat with_reducible refine vc ?_)
      · have hov : ¬ overR x = true := by
          have : overR x = false := hc
          rw [this]; decide
        rw [if_neg hov] at hst
        (repeat (first | refine TS.imp ?_ | refine n9 (by decide) ?_))
        refine TR.imp ?_; intro K hK; simp only [go_sem, hP, hn]; (repeat refine vc ?_); refine hK _ ?_; clear K hK
        (repeat (first | refine TS.imp ?_ | refine n9 (by decide) ?_))
        rw [w64 (x := k + 1) (by omega) (by omega)]
        refine ⟨q - 1, _, by omega, ?_, k + 1, o.set i.toNat x, rfl, by omega, by omega, by simpa using hol2, fun r hr => ?_, hst⟩
        · exact (Le.mv (by simp only [go_sem, hP, hn]; first | done | (simp; done) | (simp [intC]; done) | (repeat (first | rfl | constructor))) (by simp only [go_sem, hP, hn]; first | done | (simp; done) | (simp [intC]; done) | (repeat (first | rfl | constructor))))
        · rcases List.mem_or_eq_of_mem_set hr with h | rfl
          · exact ho32 r h
          · exact hx32
  · rw [drop_end (by simpa using hb)] at hst
    simp only [rgL] at hst
    subst hst
    refine Tr.le (Le.keep [1, 5, 6]) ?_; simp only [List.map_cons, List.map_nil, lk, Nat.reduceEqDiff, reduceIte]
    refine Tr.le (Le.freeze 22) ?_
    simp only [go_sem, hP, hn]
    (repeat (first | (refine TR.imp ?_; intro K hK; simp only [go_sem, hP, hn]; (repeat refine vc ?_); refine hK _ ?_; clear K hK) | refine TS.imp ?_ | refine n9 (by decide) ?_))
    simp only [RetG, go_sem]; (repeat with_reducible refine vc ?_)
theorem Fits20_c {T : World → Prop} (Tk : KT T) (wd lo hi out : Int) (ns : List Nd) (hns : ns.length ≤ 65536) (hin : ∀ n ∈ ns, n.inn.length ≤ 4096 ∧ n.ws.length ≤ 65536 ∧ n.bs.length ≤ 65536) (hL : (lookG wd lo hi out ns).1 = 0 → LG lo hi ns (lookG wd lo hi out ns).2.1 (lookG wd lo hi out ns).2.2.1) :
    Cg Go.Proofs.Tryd.prog T 52 [] [.agg (gcs wd lo hi out (.d (rowN ns)))] (fun r H => H = [] ∧ r = .d (.b ((rangesV wd lo hi out ns).1 == 0))) := by
  refine Cg_of [] Tk.m Go.Proofs.Tryd.func52 rfl rfl Go.Proofs.Tryd.ntmps52 (by simp) rfl (rs := [.tmp 2]) rfl fun E hP hn hT hpn => ?_
  (repeat (first | refine TS.imp ?_ | refine n9 (by decide) ?_))
  refine TR.imp ?_; intro K hK; simp only [go_sem, hP, hn]; (repeat refine vc ?_); refine hK _ ?_; clear K hK
  (repeat (first | refine TS.imp ?_ | refine n9 (by decide) ?_))
  refine TR.imp ?_; intro K hK; simp only [go_sem, hP, hn]
  (repeat refine vc ?_)
  refine CallN_cs (Hi := [] ) (by rw [hP, hT]; exact  Ranges_c Tk wd lo hi out ns hns hin hL) rfl rfl rfl trivial (by simp only [go_sem, hP, hn]; try trivial) (by simp only [go_sem, hP, hn]; try rfl) (by simp only [inH, go_sem, hP, hn]; try simp) (by rw [hn]; decide) ?_; simp only [go_sem, hP, hn]; (repeat refine vc ?_)
  refine hK _ ?_; clear K hK
  (repeat (first | (refine TR.imp ?_; intro K hK; simp only [go_sem, hP, hn]; (repeat refine vc ?_); refine hK _ ?_; clear K hK) | refine TS.imp ?_ | refine n9 (by decide) ?_))
  simp only [RetG, go_sem]; (repeat with_reducible refine vc ?_)
end
theorem next_num (x n : Int) (hn : 0 < n) (h1 : n ≤ 1000000) : 0 ≤ Int.tmod (wrap64 (Int.tmod x n + n)) n ∧ Int.tmod (wrap64 (Int.tmod x n + n)) n < n := by
  have a1 : -n < Int.tmod x n := by have := Int.lt_tmod_of_pos x hn; omega
  have a2 : Int.tmod x n < n := Int.tmod_lt_of_pos x hn
  rw [w64 (by omega) (by omega)]
  exact ⟨Int.tmod_nonneg _ (by omega), Int.tmod_lt_of_pos _ hn⟩
theorem Next_c {T : World → Prop} (Tm : TP T) (l : List Int) (i n : Int) (hl : l.length ≤ 4096) (h0 : 0 ≤ i) (h1 : i ≤ l.length) (n0 : 0 < n) (n1 : n ≤ 1000000) : C1 Go.Proofs.Tryd.prog T 61 1000 (rowO l i) [.ptr 1000 0, .d (.i .i64 n)] (fun r o => ∃ v j : Int, r = .d (.i .i64 v) ∧ o = rowO l j ∧ 0 ≤ v ∧ v < n ∧ 0 ≤ j ∧ j ≤ l.length) := by
  refine Cg_of [1000] Tm Go.Proofs.Tryd.func61 rfl rfl Go.Proofs.Tryd.ntmps61 (by simp) rfl (rs := [.tmp 4]) rfl fun E hP hn hT hpn => ?_
  (repeat (first | (refine TR.imp ?_; intro K hK; simp only [go_sem, hP, hn]; (repeat refine vc ?_); refine hK _ ?_; clear K hK) | refine TS.imp ?_ | refine n9 (by decide) ?_))
  (first | refine d1 (.p true 0 (.p true 1 (.p true 2 (.p true 3 (.p true 4 (.p true 5 (.p true 6 (.p true 7 (.p true 8 (.p true 9 .nil)))))))))) [] (by rw [hP]; kernel_rfl) (by kernel_rfl) (by simp only [go_sem, hP, hn]; try simp) (fun _ _ h => h) fun K hK => ?_ | refine d2 (.p true 0 (.p true 1 (.p true 2 (.p true 3 (.p true 4 (.p true 5 (.p true 6 (.p true 7 (.p true 8 (.p true 9 .nil)))))))))) [] (by rw [hP]; kernel_rfl) (by kernel_rfl) (by simp only [go_sem, hP, hn]; try simp) (fun _ _ h => h) fun K hK => ?_ | refine d4 (.p true 0 (.p true 1 (.p true 2 (.p true 3 (.p true 4 (.p true 5 (.p true 6 (.p true 7 (.p true 8 (.p true 9 .nil)))))))))) [] (by rw [hP]; kernel_rfl) (by kernel_rfl) (by simp only [go_sem, hP, hn]; try simp) (fun _ _ h => h) fun K hK => ?_); simp only [go_sem, hP, hn]; (repeat refine vc ?_); refine hK _ ?_; clear K hK
  refine Tr.cond rfl (fun hb => ?_) (fun hb => ?_)
  · (repeat (first | (refine TR.imp ?_; intro K hK; simp only [go_sem, hP, hn]; (repeat refine vc ?_); refine hK _ ?_; clear K hK) | refine TS.imp ?_ | refine n9 (by decide) ?_))
    simp only [RetG, go_sem]; (repeat with_reducible refine vc ?_)
    exact ⟨_, rfl, 0, i, rfl, rfl, by omega, by omega, h0, h1⟩
  · have hj : i < l.length := by have := of_decide_eq_false hb; omega
    (repeat (first | (refine TR.imp ?_; intro K hK; simp only [go_sem, hP, hn]; (repeat refine vc ?_); refine hK _ ?_; clear K hK) | refine TS.imp ?_ | refine n9 (by decide) ?_))
    rw [w64 (x := i + 1) (by omega) (by omega)]
    (first | refine d1 (.p true 0 (.p true 1 (.p true 2 (.p true 3 (.p true 4 (.p true 5 (.p true 6 (.p true 7 (.p true 8 (.p true 9 (.p true 10 (.p true 11 (.p true 12 (.p true 13 (.p true 14 (.p true 15 (.p true 16 (.p true 17 .nil)))))))))))))))))) [] (by rw [hP]; kernel_rfl) (by kernel_rfl) (by simp only [go_sem, hP, hn]; try simp) (fun _ _ h => h) fun K hK => ?_ | refine d2 (.p true 0 (.p true 1 (.p true 2 (.p true 3 (.p true 4 (.p true 5 (.p true 6 (.p true 7 (.p true 8 (.p true 9 (.p true 10 (.p true 11 (.p true 12 (.p true 13 (.p true 14 (.p true 15 (.p true 16 (.p true 17 .nil)))))))))))))))))) [] (by rw [hP]; kernel_rfl) (by kernel_rfl) (by simp only [go_sem, hP, hn]; try simp) (fun _ _ h => h) fun K hK => ?_ | refine d4 (.p true 0 (.p true 1 (.p true 2 (.p true 3 (.p true 4 (.p true 5 (.p true 6 (.p true 7 (.p true 8 (.p true 9 (.p true 10 (.p true 11 (.p true 12 (.p true 13 (.p true 14 (.p true 15 (.p true 16 (.p true 17 .nil)))))))))))))))))) [] (by rw [hP]; kernel_rfl) (by kernel_rfl) (by simp only [go_sem, hP, hn]; try simp) (fun _ _ h => h) fun K hK => ?_); simp only [go_sem, hP, hn]
    rw [w64 (x := i + 1 - 1) (by omega) (by omega)]
    (repeat refine vc ?_)
    refine hK _ ?_; clear K hK
    (repeat (first | (refine TR.imp ?_; intro K hK; simp only [go_sem, hP, hn]; (repeat refine vc ?_); refine hK _ ?_; clear K hK) | refine TS.imp ?_ | refine n9 (by decide) ?_))
    simp only [RetG, go_sem]; (repeat with_reducible refine vc ?_)
    trace_state
    exact ⟨_, rfl, _, i + 1, rfl, rfl, (next_num _ n n0 n1).1, (next_num _ n n0 n1).2, by omega, by omega⟩
theorem row_c {T : World → Prop} (Tm : TP T) (l : List Int) (i m lo most : Int) (hl : l.length ≤ 4096) (h0 : 0 ≤ i) (h1 : i ≤ l.length) (m0 : 0 ≤ m) (m1 : m ≤ 4096) (n0 : 0 < most) (n1 : most ≤ 1000000) (lo0 : -1000000 ≤ lo) (lo1 : lo ≤ 1000000) : C1 Go.Proofs.Tryd.prog T 63 1000 (rowO l i) [.ptr 1000 0, .d (.i .i64 m), .d (.i .i64 lo), .d (.i .i64 most)] (fun r o => ∃ (xs : List Int) (j : Int), r = .d (.row [.i .i64 0] (xs.map intC)) ∧ o = rowO l j ∧ (xs.length : Int) = m ∧ (∀ x ∈ xs, lo ≤ x ∧ x < lo + most) ∧ 0 ≤ j ∧ j ≤ l.length) := by
  refine Cg_of [1000] Tm Go.Proofs.Tryd.func63 rfl rfl Go.Proofs.Tryd.ntmps63 (by simp) rfl (rs := [.tmp 8]) rfl fun E hP hn hT hpn => ?_
  (repeat (first | (refine TR.imp ?_; intro K hK; simp only [go_sem, hP, hn]; (repeat refine vc ?_); refine hK _ ?_; clear K hK) | refine TS.imp ?_ | refine n9 (by decide) ?_))
  refine Tr.loop (fun n s => ∃ (xs : List Int) (k j : Int) (x : S) (H : Hp), s = ⟨[(0, .ptr 1000 0), (1, .d (.i .i64 m)), (2, .d (.i .i64 lo)), (3, .d (.i .i64 most)), (10, .d (.i .i64 k)), (9, x)], H⟩ ∧ ((x = .d .nil ∧ H = [(1000, rowO l j)] ∧ xs = []) ∨ (x = .own 23 ∧ H = [(23, .row 3 [.i .i64 0] (xs.map intC)), (1000, rowO l j)])) ∧ k = xs.length ∧ k + n = m ∧ (∀ x ∈ xs, lo ≤ x ∧ x < lo + most) ∧ 0 ≤ j ∧ j ≤ l.length) m.toNat ⟨_, (Le.mv (by simp only [go_sem, hP, hn]; first | done | (simp; done) | (simp [intC]; done) | (repeat (first | rfl | constructor))) (by simp only [go_sem, hP, hn]; first | done | (simp; done) | (simp [intC]; done) | (repeat (first | rfl | constructor)))), [], 0, i, _, _, rfl, .inl ⟨rfl, rfl, rfl⟩, by simp, by omega, by simp, h0, h1⟩ ?_
  rintro n s ⟨xs, k, j, x, H, rfl, (⟨rfl, rfl, rfl⟩ | ⟨rfl, rfl⟩), hk, hn1, hx, hj0, hj1⟩
  · simp only [List.length_nil] at hk
    (repeat (first | (refine TR.imp ?_; intro K hK; simp only [go_sem, hP, hn]; (repeat refine vc ?_); refine hK _ ?_; clear K hK) | refine TS.imp ?_ | refine n9 (by decide) ?_))
    refine Tr.cond rfl (fun hb => ?_) (fun hb => ?_)
    · have hkm : k < m := by simpa using hb
      (repeat (first | (refine TR.imp ?_; intro K hK; simp only [go_sem, hP, hn]; (repeat refine vc ?_); refine hK _ ?_; clear K hK) | refine TS.imp ?_ | refine n9 (by decide) ?_))
      refine TR.imp ?_; intro K hK; simp only [go_sem, hP, hn]
      (repeat refine vc ?_)
      refine CallN_c1 (by rw [hP, hT]; exact Next_c Tm l j most hl hj0 hj1 n0 n1 ) rfl rfl rfl trivial (by simp only [go_sem, hP, hn]; try trivial) (by simp only [go_sem, hP, hn]; try rfl) (by simp only [go_sem, hP, hn]; try rfl) (by rw [hn]; decide) (fun r ob' hr => ?_); obtain  ⟨v, j', rfl, rfl, hv0, hv1, hj0', hj1'⟩ := hr; simp only [go_sem, hP, hn]; (repeat refine vc ?_)
      refine hK _ ?_; clear K hK
      (repeat (first | (refine TR.imp ?_; intro K hK; simp only [go_sem, hP, hn]; (repeat refine vc ?_); refine hK _ ?_; clear K hK) | refine TS.imp ?_ | refine n9 (by decide) ?_))
      rw [w64 (x := k + 1) (by omega) (by omega), w64 (x := lo + v) (by omega) (by omega)]
      refine ⟨n - 1, _, by omega, ?_, [lo + v], k + 1, j', .own 23, [(23, .row 3 [.i .i64 0] (([lo + v]).map intC)), (1000, rowO l j')], rfl, .inr ⟨rfl, rfl⟩, by simp; omega, by omega, ?_, hj0', hj1'⟩
      · exact (Le.mv (by simp only [go_sem, hP, hn]; first | done | (simp; done) | (simp [intC]; done) | (repeat (first | rfl | constructor))) (by simp only [go_sem, hP, hn]; first | done | (simp; done) | (simp [intC]; done) | (repeat (first | rfl | constructor))))
      · intro x hx'
        simp only [List.mem_append, List.mem_cons, List.not_mem_nil, or_false, false_or] at hx'
        subst hx'; omega
    · refine Tr.le (Le.nilrow 9 [.i .i64 0] rfl) ?_
      (repeat (first | (refine TR.imp ?_; intro K hK; simp only [go_sem, hP, hn]; (repeat refine vc ?_); refine hK _ ?_; clear K hK) | refine TS.imp ?_ | refine n9 (by decide) ?_))
      simp only [RetG, go_sem]; (repeat with_reducible refine vc ?_)
      exact ⟨_, rfl, [], j, rfl, rfl, by have := of_decide_eq_false hb; simp at hk ⊢; omega, by simp, hj0, hj1⟩
  · skip
    (repeat (first | (refine TR.imp ?_; intro K hK; simp only [go_sem, hP, hn]; (repeat refine vc ?_); refine hK _ ?_; clear K hK) | refine TS.imp ?_ | refine n9 (by decide) ?_))
    refine Tr.cond rfl (fun hb => ?_) (fun hb => ?_)
    · have hkm : k < m := by simpa using hb
      (repeat (first | (refine TR.imp ?_; intro K hK; simp only [go_sem, hP, hn]; (repeat refine vc ?_); refine hK _ ?_; clear K hK) | refine TS.imp ?_ | refine n9 (by decide) ?_))
      refine TR.imp ?_; intro K hK; simp only [go_sem, hP, hn]
      (repeat refine vc ?_)
      refine CallN_c1 (by rw [hP, hT]; exact Next_c Tm l j most hl hj0 hj1 n0 n1 ) rfl rfl rfl trivial (by simp only [go_sem, hP, hn]; try trivial) (by simp only [go_sem, hP, hn]; try rfl) (by simp only [go_sem, hP, hn]; try rfl) (by rw [hn]; decide) (fun r ob' hr => ?_); obtain  ⟨v, j', rfl, rfl, hv0, hv1, hj0', hj1'⟩ := hr; simp only [go_sem, hP, hn]; (repeat refine vc ?_)
      refine hK _ ?_; clear K hK
      (repeat (first | (refine TR.imp ?_; intro K hK; simp only [go_sem, hP, hn]; (repeat refine vc ?_); refine hK _ ?_; clear K hK) | refine TS.imp ?_ | refine n9 (by decide) ?_))
      rw [w64 (x := k + 1) (by omega) (by omega), w64 (x := lo + v) (by omega) (by omega)]
      refine ⟨n - 1, _, by omega, ?_, xs ++ [(lo + v)], k + 1, j', .own 23, [(23, .row 3 [.i .i64 0] ((xs ++ [(lo + v)]).map intC)), (1000, rowO l j')], rfl, .inr ⟨rfl, rfl⟩, by simp; omega, by omega, ?_, hj0', hj1'⟩
      · exact (Le.mv (by simp only [go_sem, hP, hn]; first | done | (simp; done) | (simp [intC]; done) | (repeat (first | rfl | constructor))) (by simp only [go_sem, hP, hn]; first | done | (simp; done) | (simp [intC]; done) | (repeat (first | rfl | constructor))))
      · intro x hx'
        simp only [List.mem_append, List.mem_cons, List.not_mem_nil, or_false, false_or] at hx'
        rcases hx' with hx' | rfl
        · exact hx x hx'
        · omega
    · (repeat (first | (refine TR.imp ?_; intro K hK; simp only [go_sem, hP, hn]; (repeat refine vc ?_); refine hK _ ?_; clear K hK) | refine TS.imp ?_ | refine n9 (by decide) ?_))
      simp only [RetG, go_sem]; (repeat with_reducible refine vc ?_)
      exact ⟨_, rfl, xs, j, rfl, rfl, by have := of_decide_eq_false hb; omega, hx, hj0, hj1⟩
theorem Windows_r {T : World → Prop} (Tm : TP T) (k : Int) : Ct Go.Proofs.Tryd.prog T 28 [.d (.i .i64 k)] true (fun r => r = .d (.b (rWin k))) := by
  refine Ct_of Tm Go.Proofs.Tryd.func28 rfl rfl Go.Proofs.Tryd.ntmps28 (by simp) (rs := [.tmp 2]) rfl fun E hP hn hT => ?_
  (repeat (first | (refine TR.imp ?_; intro K hK; simp only [go_sem, hP, hn]; (repeat refine vc ?_); refine hK _ ?_; clear K hK) | refine TS.imp ?_ | refine n9 (by decide) ?_))
  simp only [RetQ, go_sem]
  rfl
theorem four_r {T : World → Prop} (Tm : TP T) (k : Int) : Ct Go.Proofs.Tryd.prog T 110 [.d (.i .i64 k)] true (fun r => r = .d (.b (rFour k))) := by
  refine Ct_of Tm Go.Proofs.Tryd.func110 rfl rfl Go.Proofs.Tryd.ntmps110 (by simp) (rs := [.tmp 2]) rfl fun E hP hn hT => ?_
  (repeat (first | (refine TR.imp ?_; intro K hK; simp only [go_sem, hP, hn]; (repeat refine vc ?_); refine hK _ ?_; clear K hK) | refine TS.imp ?_ | refine n9 (by decide) ?_))
  simp only [RetQ, go_sem]
  rfl
theorem weighs_r {T : World → Prop} (Tm : TP T) (k : Int) : Ct Go.Proofs.Tryd.prog T 83 [.d (.i .i64 k)] true (fun r => r = .d (.b (rWeighs k))) := by
  refine Ct_of Tm Go.Proofs.Tryd.func83 rfl rfl Go.Proofs.Tryd.ntmps83 (by simp) (rs := [.tmp 2]) rfl fun E hP hn hT => ?_
  (repeat (first | (refine TR.imp ?_; intro K hK; simp only [go_sem, hP, hn]; (repeat refine vc ?_); refine hK _ ?_; clear K hK) | refine TS.imp ?_ | refine n9 (by decide) ?_))
  simp only [RetQ, go_sem]
  rfl
theorem Many_r {T : World → Prop} (Tm : TP T) (k : Int) : Ct Go.Proofs.Tryd.prog T 72 [.d (.i .i64 k)] true (fun r => r = .d (.b (rMany k))) := by
  refine Ct_of Tm Go.Proofs.Tryd.func72 rfl rfl Go.Proofs.Tryd.ntmps72 (by simp) (rs := [.tmp 2]) rfl fun E hP hn hT => ?_
  (repeat (first | (refine TR.imp ?_; intro K hK; simp only [go_sem, hP, hn]; (repeat refine vc ?_); refine hK _ ?_; clear K hK) | refine TS.imp ?_ | refine n9 (by decide) ?_))
  simp only [RetQ, go_sem]
  rfl
theorem in_r {T : World → Prop} (Tm : TP T) (x lo hi : Int) : Ct Go.Proofs.Tryd.prog T 82 [.d (.i .i64 x), .d (.i .i64 lo), .d (.i .i64 hi)] true (fun r => r = .d (.b (inB x lo hi))) := by
  refine Ct_of Tm Go.Proofs.Tryd.func82 rfl rfl Go.Proofs.Tryd.ntmps82 (by simp) (rs := [.tmp 6]) rfl fun E hP hn hT => ?_
  (repeat (first | (refine TR.imp ?_; intro K hK; simp only [go_sem, hP, hn]; (repeat refine vc ?_); refine hK _ ?_; clear K hK) | refine TS.imp ?_ | refine n9 (by decide) ?_))
  simp only [RetQ, go_sem]
  rfl
theorem all_r {T : World → Prop} (Tm : TP T) (l : List Int) (lo hi : Int) (hl : l.length ≤ 65536) : Ct Go.Proofs.Tryd.prog T 81 [.d (.row [.i .i64 0] (l.map intC)), .d (.i .i64 lo), .d (.i .i64 hi)] true (fun r => r = .d (.b (l.all (inB · lo hi)))) := by
  refine Ct_of Tm Go.Proofs.Tryd.func81 rfl rfl Go.Proofs.Tryd.ntmps81 (by simp) (rs := [.tmp 6]) rfl fun E hP hn hT => ?_
  (repeat (first | (refine TR.imp ?_; intro K hK; simp only [go_sem, hP, hn]; (repeat refine vc ?_); refine hK _ ?_; clear K hK) | refine TS.imp ?_ | refine n9 (by decide) ?_))
  refine Tr.loop (fun n s => ∃ j : Int, s = ⟨[(0, .d (.row [.i .i64 0] (l.map intC))), (1, .d (.i .i64 lo)), (2, .d (.i .i64 hi)), (7, .d (.i .i64 j))], []⟩ ∧ 0 ≤ j ∧ j + n = l.length ∧ l.all (inB · lo hi) = (l.drop j.toNat).all (inB · lo hi)) l.length ⟨_, (Le.mv (by simp only [go_sem, hP, hn]; first | done | (simp; done) | (simp [intC]; done) | (repeat (first | rfl | constructor))) (by simp only [go_sem, hP, hn]; first | done | (simp; done) | (simp [intC]; done) | (repeat (first | rfl | constructor)))), 0, rfl, by omega, by omega, by simp⟩ ?_
  rintro n s ⟨j, rfl, h0, h1, h2⟩
  (repeat (first | (refine TR.imp ?_; intro K hK; simp only [go_sem, hP, hn]; (repeat refine vc ?_); refine hK _ ?_; clear K hK) | refine TS.imp ?_ | refine n9 (by decide) ?_))
  refine Tr.cond rfl (fun hb => ?_) (fun hb => ?_)
  · have hj : j < l.length := by simpa using hb
    (repeat (first | (refine TR.imp ?_; intro K hK; simp only [go_sem, hP, hn]; (repeat refine vc ?_); refine hK _ ?_; clear K hK) | refine TS.imp ?_ | refine n9 (by decide) ?_))
    refine Tr.cond rfl (fun hc => ?_) (fun hc => ?_)
    · (repeat (first | (refine TR.imp ?_; intro K hK; simp only [go_sem, hP, hn]; (repeat refine vc ?_); refine hK _ ?_; clear K hK) | refine TS.imp ?_ | refine n9 (by decide) ?_))
      simp only [RetQ, go_sem]
      have e : inB (rd l j) lo hi = false := by
        unfold inB
        simp only [Bool.or_eq_true, decide_eq_true_eq] at hc
        rw [Bool.and_eq_false_iff, decide_eq_false_iff_not, decide_eq_false_iff_not]
        omega
      rw [h2, drop_rd h0 hj, List.all_cons, e, Bool.false_and]
    · (repeat (first | (refine TR.imp ?_; intro K hK; simp only [go_sem, hP, hn]; (repeat refine vc ?_); refine hK _ ?_; clear K hK) | refine TS.imp ?_ | refine n9 (by decide) ?_))
      rw [w64 (by omega) (by omega)]
      refine ⟨n - 1, _, by omega, ?_, j + 1, rfl, by omega, by omega, ?_⟩
      · exact (Le.mv (by simp only [go_sem, hP, hn]; first | done | (simp; done) | (simp [intC]; done) | (repeat (first | rfl | constructor))) (by simp only [go_sem, hP, hn]; first | done | (simp; done) | (simp [intC]; done) | (repeat (first | rfl | constructor))))
      have e : inB (rd l j) lo hi = true := by
        unfold inB
        simp only [Bool.or_eq_false_iff, decide_eq_false_iff_not] at hc
        rw [Bool.and_eq_true, decide_eq_true_eq, decide_eq_true_eq]
        omega
      rw [h2, drop_rd h0 hj, List.all_cons, e, Bool.true_and]
  · (repeat (first | (refine TR.imp ?_; intro K hK; simp only [go_sem, hP, hn]; (repeat refine vc ?_); refine hK _ ?_; clear K hK) | refine TS.imp ?_ | refine n9 (by decide) ?_))
    simp only [RetQ, go_sem]
    rw [h2, drop_end (by simpa using hb)]
    rfl
theorem Span_r {T : World → Prop} (Tm : TP T) (n : Nd) : Ct Go.Proofs.Tryd.prog T 101 [.agg n.cs] true (fun r => r = .d (.i .i64 n.rSpan)) := by
  refine Ct_of Tm Go.Proofs.Tryd.func101 rfl rfl Go.Proofs.Tryd.ntmps101 (by simp) (rs := [.tmp 2]) rfl fun E hP hn hT => ?_
  (repeat (first | (refine TR.imp ?_; intro K hK; simp only [go_sem, hP, hn]; (repeat refine vc ?_); refine hK _ ?_; clear K hK) | refine TS.imp ?_ | refine n9 (by decide) ?_))
  refine Tr.cond rfl (fun h1 => ?_) (fun h1 => ?_)
  · (repeat (first | (refine TR.imp ?_; intro K hK; simp only [go_sem, hP, hn]; (repeat refine vc ?_); refine hK _ ?_; clear K hK) | refine TS.imp ?_ | refine n9 (by decide) ?_))
    simp only [RetQ, go_sem]
    unfold Nd.rSpan; rw [h1]; rfl
  (repeat (first | (refine TR.imp ?_; intro K hK; simp only [go_sem, hP, hn]; (repeat refine vc ?_); refine hK _ ?_; clear K hK) | refine TS.imp ?_ | refine n9 (by decide) ?_))
  refine TR.imp ?_; intro K hK; simp only [go_sem, hP, hn]; (repeat refine vc ?_); refine c1 (by rw [hP, hT]; exact Windows_r Tm n.k) rfl rfl rfl trivial (by simp only [go_sem, hP, hn]; try trivial) (by simp only [go_sem, hP, hn]; try rfl) (by rw [hn]; decide) (by rfl) ?_; simp only [go_sem, hP, hn]; (repeat refine vc ?_); refine hK _ ?_; clear K hK
  (repeat (first | (refine TR.imp ?_; intro K hK; simp only [go_sem, hP, hn]; (repeat refine vc ?_); refine hK _ ?_; clear K hK) | refine TS.imp ?_ | refine n9 (by decide) ?_))
  refine Tr.cond rfl (fun h2 => ?_) (fun h2 => ?_)
  · (repeat (first | (refine TR.imp ?_; intro K hK; simp only [go_sem, hP, hn]; (repeat refine vc ?_); refine hK _ ?_; clear K hK) | refine TS.imp ?_ | refine n9 (by decide) ?_))
    simp only [RetQ, go_sem]
    unfold Nd.rSpan; rw [h1, h2]; rfl
  · (repeat (first | (refine TR.imp ?_; intro K hK; simp only [go_sem, hP, hn]; (repeat refine vc ?_); refine hK _ ?_; clear K hK) | refine TS.imp ?_ | refine n9 (by decide) ?_))
    simp only [RetQ, go_sem]
    unfold Nd.rSpan; rw [h1, h2]; rfl
theorem Step_r {T : World → Prop} (Tm : TP T) (n : Nd) : Ct Go.Proofs.Tryd.prog T 113 [.agg n.cs] true (fun r => r = .d (.i .i64 n.rStp)) := by
  refine Ct_of Tm Go.Proofs.Tryd.func113 rfl rfl Go.Proofs.Tryd.ntmps113 (by simp) (rs := [.tmp 2]) rfl fun E hP hn hT => ?_
  (repeat (first | (refine TR.imp ?_; intro K hK; simp only [go_sem, hP, hn]; (repeat refine vc ?_); refine hK _ ?_; clear K hK) | refine TS.imp ?_ | refine n9 (by decide) ?_))
  refine TR.imp ?_; intro K hK; simp only [go_sem, hP, hn]; (repeat refine vc ?_); refine c1 (by rw [hP, hT]; exact four_r Tm n.k) rfl rfl rfl trivial (by simp only [go_sem, hP, hn]; try trivial) (by simp only [go_sem, hP, hn]; try rfl) (by rw [hn]; decide) (by rfl) ?_; simp only [go_sem, hP, hn]; (repeat refine vc ?_); refine hK _ ?_; clear K hK
  (repeat (first | (refine TR.imp ?_; intro K hK; simp only [go_sem, hP, hn]; (repeat refine vc ?_); refine hK _ ?_; clear K hK) | refine TS.imp ?_ | refine n9 (by decide) ?_))
  refine Tr.cond rfl (fun h2 => ?_) (fun h2 => ?_)
  · (repeat (first | (refine TR.imp ?_; intro K hK; simp only [go_sem, hP, hn]; (repeat refine vc ?_); refine hK _ ?_; clear K hK) | refine TS.imp ?_ | refine n9 (by decide) ?_))
    simp only [RetQ, go_sem]
    unfold Nd.rStp; rw [h2]; rfl
  · (repeat (first | (refine TR.imp ?_; intro K hK; simp only [go_sem, hP, hn]; (repeat refine vc ?_); refine hK _ ?_; clear K hK) | refine TS.imp ?_ | refine n9 (by decide) ?_))
    simp only [RetQ, go_sem]
    unfold Nd.rStp; rw [h2]; rfl
theorem weights_r {T : World → Prop} (Tm : TP T) (n : Nd) (v : Int) : Ct Go.Proofs.Tryd.prog T 111 [.agg n.cs, .d (.i .i64 v)] true (fun r => r = .d (.i .i64 (n.rWeights v))) := by
  refine Ct_of Tm Go.Proofs.Tryd.func111 rfl rfl Go.Proofs.Tryd.ntmps111 (by simp) (rs := [.tmp 4]) rfl fun E hP hn hT => ?_
  (repeat (first | (refine TR.imp ?_; intro K hK; simp only [go_sem, hP, hn]; (repeat refine vc ?_); refine hK _ ?_; clear K hK) | refine TS.imp ?_ | refine n9 (by decide) ?_))
  refine Tr.cond rfl (fun h1 => ?_) (fun h1 => ?_)
  · (repeat (first | (refine TR.imp ?_; intro K hK; simp only [go_sem, hP, hn]; (repeat refine vc ?_); refine hK _ ?_; clear K hK) | refine TS.imp ?_ | refine n9 (by decide) ?_))
    simp only [RetQ, go_sem]
    unfold Nd.rWeights; rw [h1]; rfl
  (repeat (first | (refine TR.imp ?_; intro K hK; simp only [go_sem, hP, hn]; (repeat refine vc ?_); refine hK _ ?_; clear K hK) | refine TS.imp ?_ | refine n9 (by decide) ?_))
  refine Tr.cond rfl (fun h2 => ?_) (fun h2 => ?_)
  · (repeat (first | (refine TR.imp ?_; intro K hK; simp only [go_sem, hP, hn]; (repeat refine vc ?_); refine hK _ ?_; clear K hK) | refine TS.imp ?_ | refine n9 (by decide) ?_))
    simp only [RetQ, go_sem]
    unfold Nd.rWeights; rw [h1, h2]; rfl
  · (repeat (first | (refine TR.imp ?_; intro K hK; simp only [go_sem, hP, hn]; (repeat refine vc ?_); refine hK _ ?_; clear K hK) | refine TS.imp ?_ | refine n9 (by decide) ?_))
    simp only [RetQ, go_sem]
    unfold Nd.rWeights; rw [h1, h2]; rfl
end Go.Proofs.YtgijboakaodcgaaDoor.Aw
