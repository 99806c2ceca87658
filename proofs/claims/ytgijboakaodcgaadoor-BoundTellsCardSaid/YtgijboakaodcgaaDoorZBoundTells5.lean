/- The abstract walk, and contracts of Go functions: each call returns what the Lean function named tells. Conditions: those that each theorem names, none else. -/
import Derived.Test.YtgijboakaodcgaaDoorZBoundTells4
set_option linter.unusedVariables false
set_option linter.unusedSimpArgs false
set_option maxRecDepth 100000
set_option linter.unusedSectionVars false
set_option maxHeartbeats 4000000
namespace Go.Proofs.YtgijboakaodcgaaDoor.Aw
open Go.RowKit
attribute [local go_sem_proc] Nat.reduceAdd Nat.reduceMul Nat.reduceSub Nat.reduceEqDiff Nat.reduceLeDiff Nat.reduceBEq Nat.reduceBNe Int.reduceToNat reduceIte reduceCtorEq
attribute [local go_sem] initT SQ so pe he ev lk constS stp stc gdS nth pickS pickD loadS cellsAt okAt fieldAddrS fieldS partS indexAddrS indexS extractS binS binD binI isShift unS convS lenS sliceS bndI bndC mmS mm2 mmD builtS fillS okCells cellsS splS solid aliveL alive okS boxS allocS makeS bsliceS elemsOf dcells stF storeS frzA frz frzT frzS frzL frzO frzH appS srcS appVC killS killT killC killH killO k1 k2 S.has S.hasL St.add St.upd dropH lh cond_or cond_and rw_intC rw_intC0 rw_set rw_app rw_apps rw_rep rw_slice wr64 cond_true cond_false true_and and_true List.map_cons List.map_nil List.length_cons List.length_nil List.drop_succ_cons List.drop_zero List.take_succ_cons List.take_zero List.nil_append List.cons_append List.getD_cons_zero List.getD_cons_succ List.headD_cons List.length_map ite_true ite_false if_true if_false Bool.false_eq_true and_self forall_const List.drop_nil List.take_nil List.append_nil Option.map_some Option.map_none List.mapM_cons List.mapM_nil Option.bind_eq_bind Option.bind_some Option.pure_def knows resL resV oneS freshS freshL cv cvL stpL stcL or_true true_or or_false false_or List.all_cons List.all_nil Bool.and_self Bool.or_self Bool.true_and Bool.and_true Bool.or_false Bool.false_or implies_true flatD allm_nil allm_cons List.getElem?_cons_zero List.getElem?_cons_succ Nd.cs Nd.ds ml mln Option.isSome_some Option.isSome_none eq_self Int.toNat_natCast AP ldOk isLd inL subL crt chg chgS chgP idxs aliveW Option.toList_some Option.toList_none Option.toList RetG Nd.win frzA offK keepH aliveK nkH closedH closedO keysK inH St.upd rowO List.contains_cons List.contains_nil Bool.or_self Option.isNone_none Option.isNone_some Bool.not_true Bool.not_false gcs rowN e0N frzC
attribute [local go_sem] sz2 ag2 ok2 kk2 iu2 zc2 zd2 by2 sz3 ag3 ok3 kk3 iu3 zc3 zd3 by3 sz4 ag4 ok4 bo4 zc4 zd4 by4 sz5 ag5 ok5 kk5 iu5 zc5 zd5 by5 sz9 ag9 ok9 st9 zc9 zd9 by9 sz12 ag12 ok12 kk12 iu12 zc12 zd12 by12 sz15 ag15 ok15 zc15 by15 sz16 ag16 ok16 zc16 by16 sz21 ag21 ok21 kk21 iu21 zc21 zd21 by21 sz22 ag22 ok22 sl22 zc22 zd22 by22 sz23 ag23 ok23 zc23 zd23 pl23 by23 fl23_0 fl23_1 fl23_2 fl23_3 fl23_4 fl23_5 sz24 ag24 ok24 zc24 zd24 pl24 by24 fl24_0 fl24_1 fl24_2 fl24_3 fl24_4 fl24_5 sz26 ag26 ok26 zc26 zd26 pl26 by26 fl26_0 fl26_1 fl26_2 fl26_3 fl26_4 fl26_5 fl26_6 fl26_7 fl26_8 fl26_9 fl26_10 fl26_11 fl26_12 fl26_13 fl26_14 sz27 ag27 ok27 zc27 zd27 pl27 by27 fl27_0 fl27_1 fl27_2 fl27_3 fl27_4 fl27_5 fl27_6 fl27_7 fl27_8 fl27_9 fl27_10 fl27_11 fl27_12 fl27_13 fl27_14 sz28 ag28 ok28 sl28 zc28 zd28 by28 sz38 ag38 ok38 sl38 ar38 zc38 zd38 pl38 by38 sz44 ag44 ok44 sl44 ar44 zc44 zd44 pl44 by44 sz45 ag45 ok45 sl45 zc45 zd45 by45 sz46 ag46 ok46 zc46 zd46 pl46 by46 fl46_0 fl46_1 fl46_2 fl46_3 fl46_4 sz47 ag47 ok47 zc47 zd47 pl47 by47 fl47_0 fl47_1 fl47_2 fl47_3 fl47_4 sz49 ag49 ok49 kk49 iu49 zc49 zd49 by49 sz53 ag53 ok53 sl53 ar53 zc53 zd53 pl53 by53 sz54 ag54 ok54 kk54 iu54 zc54 zd54 by54 sz55 ag55 ok55 kk55 iu55 zc55 zd55 by55 sz56 ag56 ok56 sl56 zc56 zd56 by56 sz57 ag57 ok57 kk57 iu57 zc57 zd57 by57 sz60 ag60 ok60 zc60 zd60 pl60 by60 fl60_0 fl60_1 fl60_2 fl60_3 sz61 ag61 ok61 zc61 zd61 pl61 by61 fl61_0 fl61_1 fl61_2 fl61_3 sz64 ag64 ok64 zc64 by64 sz65 ag65 ok65 zc65 zd65 pl65 by65 fl65_0 fl65_1 sz66 ag66 ok66 zc66 zd66 pl66 by66 fl66_0 fl66_1 sz78 ag78 ok78 sl78 ar78 zc78 zd78 pl78 by78 sz79 ag79 ok79 sl79 ar79 zc79 zd79 pl79 by79 sz81 ag81 ok81 zc81 zd81 pl81 by81 fl81_0 fl81_1 sz82 ag82 ok82 zc82 zd82 pl82 by82 fl82_0 fl82_1 sz84 ag84 ok84 zc84 zd84 pl84 by84 fl84_0 fl84_1 fl84_2 fl84_3 sz85 ag85 ok85 zc85 zd85 pl85 by85 fl85_0 fl85_1 fl85_2 fl85_3 sz92 ag92 ok92 sl92 ar92 zc92 zd92 pl92 by92 sz101 ag101 ok101 zc101 zd101 pl101 by101 fl101_0 fl101_1 sz102 ag102 ok102 zc102 zd102 pl102 by102 fl102_0 fl102_1 sz109 ag109 ok109 zc109 zd109 pl109 by109 fl109_0 fl109_1 fl109_2 sz110 ag110 ok110 zc110 zd110 pl110 by110 fl110_0 fl110_1 fl110_2 sz120 ag120 ok120 sl120 ar120 zc120 zd120 pl120 by120 sz121 ag121 ok121 zc121 zd121 pl121 by121 fl121_0 fl121_1 sz122 ag122 ok122 sl122 ar122 zc122 zd122 pl122 by122 sz130 ag130 ok130 zc130 by130 sz140 ag140 ok140 kk140 iu140 zc140 zd140 by140 sz144 ag144 ok144 zc144 by144
/-! the document's sat and round, over words -/
theorem May32_c {T : World → Prop} (Tm : TP T) : Ct Go.Proofs.Tryd.prog T 107 [.d (.i .i64 32)] true (fun r => r = .d (.b true)) := by
  refine Ct_of Tm Go.Proofs.Tryd.func107 rfl rfl Go.Proofs.Tryd.ntmps107 (by simp) (rs := [.tmp 2]) rfl fun E hP hn hT => ?_
  (repeat (first | (refine TR.imp ?_; intro K hK; simp only [go_sem, hP, hn]; (repeat refine vc ?_); refine hK _ ?_; clear K hK) | refine TS.imp ?_ | refine n9 (by decide) ?_))
  simp only [RetQ, go_sem]
  rfl
theorem pw_step : ∀ n : Fin 62, wrap64 (-(2 ^ n.val) * 2) = -(2 ^ (n.val + 1)) ∧ wrap64 (2 ^ n.val * 2) = 2 ^ (n.val + 1) := by decide +kernel
theorem Low32_c {T : World → Prop} (Tm : TP T) : Ct Go.Proofs.Tryd.prog T 108 [.d (.i .i64 32)] true (fun r => r = .d (.i .i64 (-2147483648))) := by
  refine Ct_of Tm Go.Proofs.Tryd.func108 rfl rfl Go.Proofs.Tryd.ntmps108 (by simp) (rs := [.tmp 2]) rfl fun E hP hn hT => ?_
  (repeat (first | (refine TR.imp ?_; intro K hK; simp only [go_sem, hP, hn]; (repeat refine vc ?_); refine hK _ ?_; clear K hK) | refine TS.imp ?_ | refine n9 (by decide) ?_))
  refine Tr.loop (fun m s => ∃ (k : Nat), s = ⟨[(0, .d (.i .i64 32)), (3, .d (.i .i64 (-(2 ^ k)))), (4, .d (.i .i64 (k + 1 : Int)))], []⟩ ∧ k + m = 31) 31 ⟨_, (Le.mv (by simp only [go_sem, hP, hn]; first | done | (simp; done) | (simp [intC]; done) | (repeat (first | rfl | constructor))) (by simp only [go_sem, hP, hn]; first | done | (simp; done) | (simp [intC]; done) | (repeat (first | rfl | constructor)))), 0, rfl, rfl⟩ ?_
  rintro m s ⟨k, rfl, hk⟩
  (repeat (first | (refine TR.imp ?_; intro K hK; simp only [go_sem, hP, hn]; (repeat refine vc ?_); refine hK _ ?_; clear K hK) | refine TS.imp ?_ | refine n9 (by decide) ?_))
  refine Tr.cond rfl (fun hb => ?_) (fun hb => ?_)
  · have hk1 : (k : Int) + 1 < 32 := by simpa using hb
    have hs := (pw_step ⟨k, by omega⟩).1
    simp only at hs
    (repeat (first | (refine TR.imp ?_; intro K hK; simp only [go_sem, hP, hn]; (repeat refine vc ?_); refine hK _ ?_; clear K hK) | refine TS.imp ?_ | refine n9 (by decide) ?_))
    rw [w64 (x := (k : Int) + 1 + 1) (by omega) (by omega)]
    refine ⟨m - 1, _, by omega, ?_, k + 1, rfl, by omega⟩
    rw [← hs]
    exact (Le.mv (by simp only [go_sem, hP, hn]; first | done | (simp; done) | (simp [intC]; done) | (repeat (first | rfl | constructor))) (by simp only [go_sem, hP, hn]; first | done | (simp; done) | (simp [intC]; done) | (repeat (first | rfl | constructor))))
  · have hk1 : k = 31 := by have := of_decide_eq_false hb; omega
    subst hk1
    (repeat (first | (refine TR.imp ?_; intro K hK; simp only [go_sem, hP, hn]; (repeat refine vc ?_); refine hK _ ?_; clear K hK) | refine TS.imp ?_ | refine n9 (by decide) ?_))
    simp only [RetQ, go_sem]
    rfl
theorem rClamp_c {T : World → Prop} (Tm : TP T) (x l h : Int) : Ct Go.Proofs.Tryd.prog T 48 [.d (.i .i64 x), .d (.i .i64 l), .d (.i .i64 h)] true (fun r => r = .d (.i .i64 (clampV x l h))) := by
  refine Ct_of Tm Go.Proofs.Tryd.func48 rfl rfl Go.Proofs.Tryd.ntmps48 (by simp) (rs := [.tmp 6]) rfl fun E hP hn hT => ?_
  (repeat (first | (refine TR.imp ?_; intro K hK; simp only [go_sem, hP, hn]; (repeat refine vc ?_); refine hK _ ?_; clear K hK) | refine TS.imp ?_ | refine n9 (by decide) ?_))
  unfold clampV
  refine Tr.cond rfl (fun hb => ?_) (fun hb => ?_)
  · have h1 : x < l := by simpa using hb
    (repeat (first | (refine TR.imp ?_; intro K hK; simp only [go_sem, hP, hn]; (repeat refine vc ?_); refine hK _ ?_; clear K hK) | refine TS.imp ?_ | refine n9 (by decide) ?_))
    simp only [RetQ, go_sem]
    simp [h1]
  · have h1 : ¬ x < l := by simpa using hb
    (repeat (first | (refine TR.imp ?_; intro K hK; simp only [go_sem, hP, hn]; (repeat refine vc ?_); refine hK _ ?_; clear K hK) | refine TS.imp ?_ | refine n9 (by decide) ?_))
    refine Tr.cond rfl (fun hc => ?_) (fun hc => ?_)
    · have h2 : h < x := by simpa using hc
      (repeat (first | (refine TR.imp ?_; intro K hK; simp only [go_sem, hP, hn]; (repeat refine vc ?_); refine hK _ ?_; clear K hK) | refine TS.imp ?_ | refine n9 (by decide) ?_))
      simp only [RetQ, go_sem]
      simp [h1, h2]
    · have h2 : ¬ h < x := by simpa using hc
      (repeat (first | (refine TR.imp ?_; intro K hK; simp only [go_sem, hP, hn]; (repeat refine vc ?_); refine hK _ ?_; clear K hK) | refine TS.imp ?_ | refine n9 (by decide) ?_))
      simp only [RetQ, go_sem]
      simp [h1, h2]
theorem rSat_c {T : World → Prop} (Tm : TP T) (x : Int) : Ct Go.Proofs.Tryd.prog T 77 [.d (.i .i64 x), .d (.i .i64 32)] true (fun r => r = .d (.i .i64 (clampV x (-2147483648) 2147483647))) := by
  have e1 : wrap64 (-1 - -2147483648) = 2147483647 := w64 (by decide) (by decide)
  refine Ct_of Tm Go.Proofs.Tryd.func77 rfl rfl Go.Proofs.Tryd.ntmps77 (by simp) (rs := [.tmp 4]) rfl fun E hP hn hT => ?_
  (repeat (first | refine TS.imp ?_ | refine n9 (by decide) ?_))
  refine TR.imp ?_; intro K hK; simp only [go_sem, hP, hn]; (repeat refine vc ?_); refine hK _ ?_; clear K hK
  (repeat (first | refine TS.imp ?_ | refine n9 (by decide) ?_))
  refine TR.imp ?_; intro K hK; simp only [go_sem, hP, hn]; (repeat refine vc ?_); refine c1 (by rw [hP, hT]; exact May32_c Tm) rfl rfl rfl trivial (by simp only [go_sem, hP, hn]; try trivial) (by simp only [go_sem, hP, hn]; try rfl) (by rw [hn]; decide) (by rfl) ?_; simp only [go_sem, hP, hn]; (repeat refine vc ?_); refine hK _ ?_; clear K hK
  (repeat (first | refine TS.imp ?_ | refine n9 (by decide) ?_))
  refine TR.imp ?_; intro K hK; simp only [go_sem, hP, hn]; (repeat refine vc ?_); refine hK _ ?_; clear K hK
  (repeat (first | refine TS.imp ?_ | refine n9 (by decide) ?_))
  refine Tr.cond rfl (fun hb => ?_) (fun hb => ?_)
  · exact absurd hb (by decide)
  (repeat (first | refine TS.imp ?_ | refine n9 (by decide) ?_))
  refine TR.imp ?_; intro K hK; simp only [go_sem, hP, hn]; (repeat refine vc ?_); refine c1 (by rw [hP, hT]; exact Low32_c Tm) rfl rfl rfl trivial (by simp only [go_sem, hP, hn]; try trivial) (by simp only [go_sem, hP, hn]; try rfl) (by rw [hn]; decide) (by rfl) ?_; simp only [go_sem, hP, hn]; (repeat refine vc ?_); refine hK _ ?_; clear K hK
  (repeat (first | refine TS.imp ?_ | refine n9 (by decide) ?_))
  refine TR.imp ?_; intro K hK; simp only [e1, go_sem, hP, hn]
  (repeat refine vc ?_)
  refine c1 (by rw [hP, hT]; exact rClamp_c Tm x (-2147483648) 2147483647) rfl rfl rfl trivial (by simp only [go_sem, hP, hn]; try trivial) (by simp only [go_sem, hP, hn]; try rfl) (by rw [hn]; decide) (by rfl) ?_; simp only [go_sem, hP, hn]; (repeat refine vc ?_)
  refine hK _ ?_; clear K hK
  (repeat (first | refine TS.imp ?_ | refine n9 (by decide) ?_))
  simp only [RetQ, go_sem]
theorem plus_c {T : World → Prop} (Tm : TP T) (x n : Int) (hx : in32 x) (hn' : in32 n) : Ct Go.Proofs.Tryd.prog T 78 [.d (.i .i64 n), .d (.i .i64 x)] true (fun r => r = .d (.i .i64 (n + x))) := by
  obtain ⟨hx0, hx1⟩ := hx
  obtain ⟨hn0, hn1⟩ := hn'
  have e1 : wrap64 (9223372036854775807 - x) = if 0 ≤ x then 9223372036854775807 - x else wrap64 (9223372036854775807 - x) := by
    split
    · exact w64 (by omega) (by omega)
    · rfl
  have e2 : wrap64 (-9223372036854775808 - x) = if x ≤ 0 then -9223372036854775808 - x else wrap64 (-9223372036854775808 - x) := by
    split
    · exact w64 (by omega) (by omega)
    · rfl
  refine Ct_of Tm Go.Proofs.Tryd.func78 rfl rfl Go.Proofs.Tryd.ntmps78 (by simp) (rs := [.tmp 4]) rfl fun E hP hn hT => ?_
  (repeat (first | refine TS.imp ?_ | refine n9 (by decide) ?_))
  refine TR.imp ?_; intro K hK; simp only [go_sem, hP, hn]; (repeat refine vc ?_); refine hK _ ?_; clear K hK
  (repeat (first | refine TS.imp ?_ | refine n9 (by decide) ?_))
  refine TR.imp ?_; intro K hK; simp only [go_sem, hP, hn]; (repeat refine vc ?_); refine hK _ ?_; clear K hK
  (repeat (first | refine TS.imp ?_ | refine n9 (by decide) ?_))
  refine Tr.cond rfl (fun hb => ?_) (fun hb => ?_)
  · exfalso
    simp only [Bool.and_eq_true, decide_eq_true_eq] at hb
    rw [e1, if_pos (by omega)] at hb
    omega
  (repeat (first | refine TS.imp ?_ | refine n9 (by decide) ?_))
  refine TR.imp ?_; intro K hK; simp only [go_sem, hP, hn]; (repeat refine vc ?_); refine hK _ ?_; clear K hK
  (repeat (first | refine TS.imp ?_ | refine n9 (by decide) ?_))
  refine Tr.cond rfl (fun hc => ?_) (fun hc => ?_)
  · exfalso
    simp only [Bool.and_eq_true, decide_eq_true_eq] at hc
    rw [e2, if_pos (by omega)] at hc
    omega
  (repeat (first | (refine TR.imp ?_; intro K hK; simp only [go_sem, hP, hn]; (repeat refine vc ?_); refine hK _ ?_; clear K hK) | refine TS.imp ?_ | refine n9 (by decide) ?_))
  simp only [RetQ, go_sem]
  rw [w64 (x := n + x) (by omega) (by omega)]
theorem rAdd_c {T : World → Prop} (Tm : TP T) (xs : List Int) (hl : xs.length ≤ 65536) (hx : ∀ x ∈ xs, in32 x) : Ct Go.Proofs.Tryd.prog T 47 [.d (.i .i64 32), .d (.row [.i .i64 0] (xs.map intC))] true (fun r => r = .d (.i .i64 (addV xs))) := by
  refine Ct_of Tm Go.Proofs.Tryd.func47 rfl rfl Go.Proofs.Tryd.ntmps47 (by simp) (rs := [.tmp 4]) rfl fun E hP hn hT => ?_
  (repeat (first | (refine TR.imp ?_; intro K hK; simp only [go_sem, hP, hn]; (repeat refine vc ?_); refine hK _ ?_; clear K hK) | refine TS.imp ?_ | refine n9 (by decide) ?_))
  refine Tr.loop (fun m s => ∃ (i : Int), s = ⟨[(0, .d (.i .i64 32)), (1, .d (.row [.i .i64 0] (xs.map intC))), (5, .d (.i .i64 (addV (xs.take i.toNat)))), (6, .d (.i .i64 i))], []⟩ ∧ 0 ≤ i ∧ i + m = xs.length) xs.length ⟨_, (Le.mv (by simp only [go_sem, hP, hn]; first | done | (simp; done) | (simp [intC]; done) | (repeat (first | rfl | constructor))) (by simp only [go_sem, hP, hn]; first | done | (simp; done) | (simp [intC]; done) | (repeat (first | rfl | constructor)))), 0, rfl, by omega, by omega⟩ ?_
  rintro m s ⟨i, rfl, hi, him⟩
  (repeat (first | (refine TR.imp ?_; intro K hK; simp only [go_sem, hP, hn]; (repeat refine vc ?_); refine hK _ ?_; clear K hK) | refine TS.imp ?_ | refine n9 (by decide) ?_))
  refine Tr.cond rfl (fun hb => ?_) (fun hb => ?_)
  · have hi1 : i < xs.length := by simpa using hb
    have hk : i.toNat < xs.length := by omega
    have hrd : rd xs i = xs[i.toNat] := by unfold rd; simp [hk]
    have hxi := hx xs[i.toNat] (List.getElem_mem hk)
    clear hb
    (repeat (first | refine TS.imp ?_ | refine n9 (by decide) ?_))
    refine TR.imp ?_; intro K hK; simp only [go_sem, hP, hn]; (repeat refine vc ?_); refine c1 (by rw [hP, hT]; exact plus_c Tm (rd xs i) (addV (xs.take i.toNat)) (hrd ▸ hxi) (add_in _)) rfl rfl rfl trivial (by simp only [go_sem, hP, hn]; try trivial) (by simp only [go_sem, hP, hn]; try rfl) (by rw [hn]; decide) (by rfl) ?_; simp only [go_sem, hP, hn]; (repeat refine vc ?_); refine c1 (by rw [hP, hT]; exact rSat_c Tm (addV (xs.take i.toNat) + rd xs i)) rfl rfl rfl trivial (by simp only [go_sem, hP, hn]; try trivial) (by simp only [go_sem, hP, hn]; try rfl) (by rw [hn]; decide) (by rfl) ?_; simp only [go_sem, hP, hn]; (repeat refine vc ?_); refine hK _ ?_; clear K hK
    (repeat (first | (refine TR.imp ?_; intro K hK; simp only [go_sem, hP, hn]; (repeat refine vc ?_); refine hK _ ?_; clear K hK) | refine TS.imp ?_ | refine n9 (by decide) ?_))
    rw [w64 (x := i + 1) (by omega) (by omega), hrd, ← add_take xs i.toNat hk]
    refine ⟨m - 1, _, by omega, ?_, i + 1, rfl, by omega, by omega⟩
    rw [show (i + 1).toNat = i.toNat + 1 by omega]
    exact (Le.mv (by simp only [go_sem, hP, hn]; first | done | (simp; done) | (simp [intC]; done) | (repeat (first | rfl | constructor))) (by simp only [go_sem, hP, hn]; first | done | (simp; done) | (simp [intC]; done) | (repeat (first | rfl | constructor))))
  · have hie : i = xs.length := by have := of_decide_eq_false hb; omega
    subst hie
    rw [Int.toNat_natCast, List.take_length]
    (repeat (first | (refine TR.imp ?_; intro K hK; simp only [go_sem, hP, hn]; (repeat refine vc ?_); refine hK _ ?_; clear K hK) | refine TS.imp ?_ | refine n9 (by decide) ?_))
    simp only [RetQ, go_sem]
theorem rSum_c {T : World → Prop} (Tm : TP T) (xs : List Int) (hl : xs.length ≤ 65536) (hx : ∀ x ∈ xs, in32 x) : Ct Go.Proofs.Tryd.prog T 75 [.d (.row [.i .i64 0] (xs.map intC))] true (fun r => r = .agg [.d (.i .i64 xs.sum), .d (.b true)]) := by
  refine Ct_of Tm Go.Proofs.Tryd.func75 rfl rfl Go.Proofs.Tryd.ntmps75 (by simp) (rs := [.cell 2 102]) rfl fun E hP hn hT => ?_
  (repeat (first | (refine TR.imp ?_; intro K hK; simp only [go_sem, hP, hn]; (repeat refine vc ?_); refine hK _ ?_; clear K hK) | refine TS.imp ?_ | refine n9 (by decide) ?_))
  refine Tr.loop (fun m s => ∃ (i : Int), s = ⟨[(0, .d (.row [.i .i64 0] (xs.map intC))), (2, .ptr 2 0), (5, .d (.i .i64 i)), (3, .d (.i .i64 (hiS (xs.take i.toNat)))), (4, .d (.i .i64 (loS (xs.take i.toNat))))], [(2, .box 102 [.d (.i .i64 0), .d (.b false)])]⟩ ∧ 0 ≤ i ∧ i + m = xs.length) xs.length ⟨_, (Le.mv (by simp only [go_sem, hP, hn]; first | done | (simp; done) | (simp [intC]; done) | (repeat (first | rfl | constructor))) (by simp only [go_sem, hP, hn]; first | done | (simp; done) | (simp [intC]; done) | (repeat (first | rfl | constructor)))), 0, rfl, by omega, by omega⟩ ?_
  rintro m s ⟨i, rfl, hi, him⟩
  (repeat (first | (refine TR.imp ?_; intro K hK; simp only [go_sem, hP, hn]; (repeat refine vc ?_); refine hK _ ?_; clear K hK) | refine TS.imp ?_ | refine n9 (by decide) ?_))
  refine Tr.cond rfl (fun hb => ?_) (fun hb => ?_)
  · have hi1 : i < xs.length := by simpa using hb
    have hk : i.toNat < xs.length := by omega
    have h1 := hi_take xs i.toNat hk
    have h2 := lo_take xs i.toNat hk
    have h3 := hi32 (xs.take i.toNat) (fun x h => hx x (List.mem_of_mem_take h))
    have h4 := lo_range (xs.take i.toNat)
    have hlt : (xs.take i.toNat).length ≤ 65536 := by rw [List.length_take]; omega
    have hrd : rd xs i = xs[i.toNat] := by unfold rd; simp [hk]
    have hxi := hx xs[i.toNat] (List.getElem_mem hk)
    unfold in32 at hxi
    (repeat (first | (refine TR.imp ?_; intro K hK; simp only [go_sem, hP, hn]; (repeat refine vc ?_); refine hK _ ?_; clear K hK) | refine TS.imp ?_ | refine n9 (by decide) ?_))
    rw [hrd, fd32, am32, w64 (x := i + 1) (by omega) (by omega), w64 (x := hiS (xs.take i.toNat) + xs[i.toNat] / 4294967296) (by omega) (by omega), w64 (x := loS (xs.take i.toNat) + xs[i.toNat] % 4294967296) (by omega) (by omega), ← h1, ← h2]
    refine ⟨m - 1, _, by omega, ?_, i + 1, rfl, by omega, by omega⟩
    rw [show (i + 1).toNat = i.toNat + 1 by omega]
    exact (Le.mv (by simp only [go_sem, hP, hn]; first | done | (simp; done) | (simp [intC]; done) | (repeat (first | rfl | constructor))) (by simp only [go_sem, hP, hn]; first | done | (simp; done) | (simp [intC]; done) | (repeat (first | rfl | constructor))))
  · have hie : i = xs.length := by have := of_decide_eq_false hb; omega
    subst hie
    rw [Int.toNat_natCast, List.take_length]
    have h3 := hi32 xs hx
    have h4 := lo_range xs
    have h5 := hi_lo xs
    have h6 : wrap64 (hiS xs + loS xs / 4294967296) = hiS xs + loS xs / 4294967296 := w64 (by omega) (by omega)
    (repeat (first | refine TS.imp ?_ | refine n9 (by decide) ?_))
    refine TR.imp ?_; intro K hK; simp only [fd32, am32, h6, go_sem, hP, hn]; (repeat refine vc ?_); refine hK _ ?_; clear K hK
    (repeat (first | refine TS.imp ?_ | refine n9 (by decide) ?_))
    refine TR.imp ?_; intro K hK; simp only [fd32, am32, h6, go_sem, hP, hn]; (repeat refine vc ?_); refine hK _ ?_; clear K hK
    (repeat (first | refine TS.imp ?_ | refine n9 (by decide) ?_))
    refine TR.imp ?_; intro K hK; simp only [fd32, am32, h6, go_sem, hP, hn]; (repeat refine vc ?_); refine hK _ ?_; clear K hK
    (repeat (first | refine TS.imp ?_ | refine n9 (by decide) ?_))
    refine Tr.cond rfl (fun hc => ?_) (fun hc => ?_)
    · exfalso
      simp at hc
      omega
    clear hc
    (repeat (first | (refine TR.imp ?_; intro K hK; simp only [go_sem, hP, hn]; (repeat refine vc ?_); refine hK _ ?_; clear K hK) | refine TS.imp ?_ | refine n9 (by decide) ?_))
    simp only [RetQ, go_sem]
    rw [show (hiS xs + loS xs / 4294967296) * 2 ^ min 32 64 = (hiS xs + loS xs / 4294967296) * 4294967296 by rw [show (2 : Int) ^ min 32 64 = 4294967296 by decide], w64 (x := (hiS xs + loS xs / 4294967296) * 4294967296) (by omega) (by omega), show (hiS xs + loS xs / 4294967296) * 4294967296 + loS xs % 4294967296 = xs.sum by omega]
    rw [w64 (x := xs.sum) (by omega) (by omega)]
    exact ⟨by decide, rfl⟩
theorem Quot_c {T : World → Prop} (Tm : TP T) (x n : Int) (h0 : -4611686018427387904 ≤ x) (h1 : x ≤ 4611686018427387904) (n0 : 1 ≤ n) (n1 : n ≤ 4611686018427387904) : Ct Go.Proofs.Tryd.prog T 105 [.d (.i .i64 x), .d (.i .i64 n)] true (fun r => r = .d (.i .i64 (x / n))) := by
  have hb2 := ediv_bounds (x := x) n0
  have hp := parts_t (x := x) n0
  have hq : wrap64 (Int.tdiv x n) = Int.tdiv x n := by
    rcases Decidable.em (Int.tmod x n < 0) with h | h
    · have := hp.1 h; exact w64 (by omega) (by omega)
    · have := hp.2 h; exact w64 (by omega) (by omega)
  refine Ct_of Tm Go.Proofs.Tryd.func105 rfl rfl Go.Proofs.Tryd.ntmps105 (by simp) (rs := [.tmp 4]) rfl fun E hP hn hT => ?_
  (repeat (first | refine TS.imp ?_ | refine n9 (by decide) ?_))
  refine TR.imp ?_; intro K hK; simp only [go_sem, hP, hn]; (repeat refine vc ?_); refine hK _ ?_; clear K hK
  (repeat (first | refine TS.imp ?_ | refine n9 (by decide) ?_))
  refine TR.imp ?_; intro K hK; simp only [hq, go_sem, hP, hn]; (repeat refine vc ?_); refine hK _ ?_; clear K hK
  (repeat (first | refine TS.imp ?_ | refine n9 (by decide) ?_))
  refine TR.imp ?_; intro K hK; simp only [hq, go_sem, hP, hn]; (repeat refine vc ?_); refine hK _ ?_; clear K hK
  (repeat (first | refine TS.imp ?_ | refine n9 (by decide) ?_))
  refine Tr.cond rfl (fun hb => ?_) (fun hb => ?_)
  · have hc : Int.tmod x n < 0 := by simpa using hb
    have := hp.1 hc
    (repeat (first | (refine TR.imp ?_; intro K hK; simp only [go_sem, hP, hn]; (repeat refine vc ?_); refine hK _ ?_; clear K hK) | refine TS.imp ?_ | refine n9 (by decide) ?_))
    simp only [RetQ, go_sem]
    rw [w64 (x := Int.tdiv x n - 1) (by omega) (by omega), this.1]
  · have hc : ¬ Int.tmod x n < 0 := by simpa using hb
    have := hp.2 hc
    (repeat (first | (refine TR.imp ?_; intro K hK; simp only [go_sem, hP, hn]; (repeat refine vc ?_); refine hK _ ?_; clear K hK) | refine TS.imp ?_ | refine n9 (by decide) ?_))
    simp only [RetQ, go_sem]
    rw [this.1]
theorem Rest_c {T : World → Prop} (Tm : TP T) (x n : Int) (h0 : -4611686018427387904 ≤ x) (h1 : x ≤ 4611686018427387904) (n0 : 1 ≤ n) (n1 : n ≤ 4611686018427387904) : Ct Go.Proofs.Tryd.prog T 106 [.d (.i .i64 x), .d (.i .i64 n)] true (fun r => r = .d (.i .i64 (x % n))) := by
  have e := Int.emod_add_mul_ediv x n
  have m1 := Int.emod_nonneg x (show n ≠ 0 by omega)
  have m2 := Int.emod_lt_of_pos x (show 0 < n by omega)
  have e2 : x / n * n = x - x % n := by rw [Int.mul_comm]; omega
  refine Ct_of Tm Go.Proofs.Tryd.func106 rfl rfl Go.Proofs.Tryd.ntmps106 (by simp) (rs := [.tmp 4]) rfl fun E hP hn hT => ?_
  (repeat (first | refine TS.imp ?_ | refine n9 (by decide) ?_))
  refine TR.imp ?_; intro K hK; simp only [go_sem, hP, hn]; (repeat refine vc ?_); refine hK _ ?_; clear K hK
  (repeat (first | refine TS.imp ?_ | refine n9 (by decide) ?_))
  refine TR.imp ?_; intro K hK; simp only [go_sem, hP, hn]; (repeat refine vc ?_); refine c1 (by rw [hP, hT]; exact Quot_c Tm x n h0 h1 n0 n1) rfl rfl rfl trivial (by simp only [go_sem, hP, hn]; try trivial) (by simp only [go_sem, hP, hn]; try rfl) (by rw [hn]; decide) (by rfl) ?_; simp only [go_sem, hP, hn]; (repeat refine vc ?_); refine hK _ ?_; clear K hK
  (repeat (first | (refine TR.imp ?_; intro K hK; simp only [go_sem, hP, hn]; (repeat refine vc ?_); refine hK _ ?_; clear K hK) | refine TS.imp ?_ | refine n9 (by decide) ?_))
  simp only [RetQ, go_sem]
  rw [e2, w64 (x := x - x % n) (by omega) (by omega), w64 (by omega) (by omega)]
  congr 2
  omega
theorem rDiv_c {T : World → Prop} (Tm : TP T) (x n : Int) (h0 : -4611686018427387904 ≤ x) (h1 : x ≤ 4611686018427387904) (n0 : 1 ≤ n) (n1 : n ≤ 4611686018427387904) : Ct Go.Proofs.Tryd.prog T 76 [.d (.i .i64 x), .d (.i .i64 n)] true (fun r => r = .d (.i .i64 (divV x n))) := by
  have hb2 := ediv_bounds (x := x) n0
  have m1 := Int.emod_nonneg x (show n ≠ 0 by omega)
  have m2 := Int.emod_lt_of_pos x (show 0 < n by omega)
  have e1 : wrap64 (n - x % n) = n - x % n := w64 (by omega) (by omega)
  refine Ct_of Tm Go.Proofs.Tryd.func76 rfl rfl Go.Proofs.Tryd.ntmps76 (by simp) (rs := [.tmp 4]) rfl fun E hP hn hT => ?_
  (repeat (first | refine TS.imp ?_ | refine n9 (by decide) ?_))
  refine TR.imp ?_; intro K hK; simp only [go_sem, hP, hn]; (repeat refine vc ?_); refine hK _ ?_; clear K hK
  (repeat (first | refine TS.imp ?_ | refine n9 (by decide) ?_))
  refine TR.imp ?_; intro K hK; simp only [go_sem, hP, hn]; (repeat refine vc ?_); refine hK _ ?_; clear K hK
  (repeat (first | refine TS.imp ?_ | refine n9 (by decide) ?_))
  refine Tr.cond rfl (fun hb => ?_) (fun hb => ?_)
  · have := of_decide_eq_true hb; omega
  clear hb
  (repeat (first | refine TS.imp ?_ | refine n9 (by decide) ?_))
  refine TR.imp ?_; intro K hK; simp only [go_sem, hP, hn]; (repeat refine vc ?_); refine c1 (by rw [hP, hT]; exact Quot_c Tm x n h0 h1 n0 n1) rfl rfl rfl trivial (by simp only [go_sem, hP, hn]; try trivial) (by simp only [go_sem, hP, hn]; try rfl) (by rw [hn]; decide) (by rfl) ?_; simp only [go_sem, hP, hn]; (repeat refine vc ?_); refine hK _ ?_; clear K hK
  (repeat (first | refine TS.imp ?_ | refine n9 (by decide) ?_))
  refine TR.imp ?_; intro K hK; simp only [go_sem, hP, hn]; (repeat refine vc ?_); refine c1 (by rw [hP, hT]; exact Rest_c Tm x n h0 h1 n0 n1) rfl rfl rfl trivial (by simp only [go_sem, hP, hn]; try trivial) (by simp only [go_sem, hP, hn]; try rfl) (by rw [hn]; decide) (by rfl) ?_; simp only [go_sem, hP, hn]; (repeat refine vc ?_); refine hK _ ?_; clear K hK
  (repeat (first | refine TS.imp ?_ | refine n9 (by decide) ?_))
  refine TR.imp ?_; intro K hK; simp only [e1, go_sem, hP, hn]; (repeat refine vc ?_); refine hK _ ?_; clear K hK
  (repeat (first | refine TS.imp ?_ | refine n9 (by decide) ?_))
  unfold divV
  rw [if_neg (show ¬ n < 1 by omega), div_split n0]
  refine Tr.cond rfl (fun hb => ?_) (fun hb => ?_)
  · have hc : n ≤ 2 * (x % n) := by have := of_decide_eq_true hb; omega
    (repeat (first | (refine TR.imp ?_; intro K hK; simp only [go_sem, hP, hn]; (repeat refine vc ?_); refine hK _ ?_; clear K hK) | refine TS.imp ?_ | refine n9 (by decide) ?_))
    simp only [RetQ, go_sem]
    rw [w64 (x := x / n + 1) (by omega) (by omega), if_pos hc]
  · have hc : ¬ n ≤ 2 * (x % n) := by have := of_decide_eq_false hb; omega
    (repeat (first | (refine TR.imp ?_; intro K hK; simp only [go_sem, hP, hn]; (repeat refine vc ?_); refine hK _ ?_; clear K hK) | refine TS.imp ?_ | refine n9 (by decide) ?_))
    simp only [RetQ, go_sem]
    rw [if_neg hc, Int.add_zero]
theorem power_c {T : World → Prop} (Tm : TP T) (n : Int) (h0 : 0 ≤ n) (h1 : n ≤ 30) : Ct Go.Proofs.Tryd.prog T 109 [.d (.i .i64 n)] true (fun r => r = .d (.i .i64 (2 ^ n.toNat))) := by
  refine Ct_of Tm Go.Proofs.Tryd.func109 rfl rfl Go.Proofs.Tryd.ntmps109 (by simp) (rs := [.tmp 2]) rfl fun E hP hn hT => ?_
  (repeat (first | (refine TR.imp ?_; intro K hK; simp only [go_sem, hP, hn]; (repeat refine vc ?_); refine hK _ ?_; clear K hK) | refine TS.imp ?_ | refine n9 (by decide) ?_))
  refine Tr.loop (fun m s => ∃ (k : Nat), s = ⟨[(0, .d (.i .i64 n)), (3, .d (.i .i64 (2 ^ k))), (4, .d (.i .i64 (k : Int)))], []⟩ ∧ (k + m : Int) = n) n.toNat ⟨_, (Le.mv (by simp only [go_sem, hP, hn]; first | done | (simp; done) | (simp [intC]; done) | (repeat (first | rfl | constructor))) (by simp only [go_sem, hP, hn]; first | done | (simp; done) | (simp [intC]; done) | (repeat (first | rfl | constructor)))), 0, rfl, by omega⟩ ?_
  rintro m s ⟨k, rfl, hk⟩
  (repeat (first | (refine TR.imp ?_; intro K hK; simp only [go_sem, hP, hn]; (repeat refine vc ?_); refine hK _ ?_; clear K hK) | refine TS.imp ?_ | refine n9 (by decide) ?_))
  refine Tr.cond rfl (fun hb => ?_) (fun hb => ?_)
  · have hk1 : (k : Int) < n := by simpa using hb
    have hs := (pw_step ⟨k, by omega⟩).2
    simp only at hs
    (repeat (first | (refine TR.imp ?_; intro K hK; simp only [go_sem, hP, hn]; (repeat refine vc ?_); refine hK _ ?_; clear K hK) | refine TS.imp ?_ | refine n9 (by decide) ?_))
    rw [w64 (x := (k : Int) + 1) (by omega) (by omega)]
    refine ⟨m - 1, _, by omega, ?_, k + 1, rfl, by omega⟩
    rw [← hs]
    exact (Le.mv (by simp only [go_sem, hP, hn]; first | done | (simp; done) | (simp [intC]; done) | (repeat (first | rfl | constructor))) (by simp only [go_sem, hP, hn]; first | done | (simp; done) | (simp [intC]; done) | (repeat (first | rfl | constructor))))
  · have hk1 : n = k := by have := of_decide_eq_false hb; omega
    subst hk1
    (repeat (first | (refine TR.imp ?_; intro K hK; simp only [go_sem, hP, hn]; (repeat refine vc ?_); refine hK _ ?_; clear K hK) | refine TS.imp ?_ | refine n9 (by decide) ?_))
    simp only [RetQ, go_sem]
theorem rHalf_c {T : World → Prop} (Tm : TP T) (p k : Int) (h0 : -4611686018427387904 ≤ p) (h1 : p ≤ 4611686018427387904) (k0 : 0 ≤ k) (k1 : k ≤ 30) : Ct Go.Proofs.Tryd.prog T 80 [.d (.i .i64 p), .d (.i .i64 k)] true (fun r => r = .d (.i .i64 (halfV p k))) := by
  have hp := pow_two_le k0 k1
  refine Ct_of Tm Go.Proofs.Tryd.func80 rfl rfl Go.Proofs.Tryd.ntmps80 (by simp) (rs := [.tmp 4]) rfl fun E hP hn hT => ?_
  (repeat (first | (refine TR.imp ?_; intro K hK; simp only [go_sem, hP, hn]; (repeat refine vc ?_); refine hK _ ?_; clear K hK) | refine TS.imp ?_ | refine n9 (by decide) ?_))
  refine Tr.cond rfl (fun hb => ?_) (fun hb => ?_)
  · exfalso; simp at hb; omega
  (repeat (first | refine TS.imp ?_ | refine n9 (by decide) ?_))
  refine TR.imp ?_; intro K hK; simp only [go_sem, hP, hn]; (repeat refine vc ?_); refine c1 (by rw [hP, hT]; exact power_c Tm k k0 k1) rfl rfl rfl trivial (by simp only [go_sem, hP, hn]; try trivial) (by simp only [go_sem, hP, hn]; try rfl) (by rw [hn]; decide) (by rfl) ?_; simp only [go_sem, hP, hn]; (repeat refine vc ?_); refine c1 (by rw [hP, hT]; exact rDiv_c Tm p (2 ^ k.toNat) h0 h1 hp.1 (by omega)) rfl rfl rfl trivial (by simp only [go_sem, hP, hn]; try trivial) (by simp only [go_sem, hP, hn]; try rfl) (by rw [hn]; decide) (by rfl) ?_; simp only [go_sem, hP, hn]; (repeat refine vc ?_); refine hK _ ?_; clear K hK
  (repeat (first | (refine TR.imp ?_; intro K hK; simp only [go_sem, hP, hn]; (repeat refine vc ?_); refine hK _ ?_; clear K hK) | refine TS.imp ?_ | refine n9 (by decide) ?_))
  simp only [RetQ, go_sem]
  unfold halfV
  rw [if_pos (by omega)]
theorem rMul_c {T : World → Prop} (Tm : TP T) (x m : Int) (hx : in32 x) (m0 : 0 ≤ m) (m1 : m ≤ 32767) : Ct Go.Proofs.Tryd.prog T 79 [.d (.i .i64 x), .d (.i .i64 m)] true (fun r => r = .agg [.d (.i .i64 (x * m)), .d (.b true)]) := by
  obtain ⟨hx0, hx1⟩ := hx
  have hm : -2147483648 * 32767 ≤ x * m ∧ x * m ≤ 2147483647 * 32767 := by
    constructor
    · have a1 : -2147483648 * m ≤ x * m := Int.mul_le_mul_of_nonneg_right hx0 m0
      omega
    · have a1 : x * m ≤ 2147483647 * m := Int.mul_le_mul_of_nonneg_right hx1 m0
      omega
  refine Ct_of Tm Go.Proofs.Tryd.func79 rfl rfl Go.Proofs.Tryd.ntmps79 (by simp) (rs := [.cell 4 102]) rfl fun E hP hn hT => ?_
  (repeat (first | (refine TR.imp ?_; intro K hK; simp only [go_sem, hP, hn]; (repeat refine vc ?_); refine hK _ ?_; clear K hK) | refine TS.imp ?_ | refine n9 (by decide) ?_))
  refine Tr.cond rfl (fun hb => ?_) (fun hb => ?_)
  · have hz : x * m = 0 := by
      simp at hb
      rcases hb with h | h <;> simp [h]
    (repeat (first | (refine TR.imp ?_; intro K hK; simp only [go_sem, hP, hn]; (repeat refine vc ?_); refine hK _ ?_; clear K hK) | refine TS.imp ?_ | refine n9 (by decide) ?_))
    simp only [RetQ, go_sem]
    rw [hz]
    exact ⟨by decide, rfl⟩
  · have hz : x ≠ 0 ∧ m ≠ 0 := by
      simp at hb; exact hb
    obtain ⟨hz1, hz2⟩ := hz
    have hw : wrap64 (x * m) = x * m := w64 (by omega) (by omega)
    have hq : Int.tdiv (x * m) m = x := Int.mul_tdiv_cancel x hz2
    clear hb
    (repeat (first | refine TS.imp ?_ | refine n9 (by decide) ?_))
    refine TR.imp ?_; intro K hK; simp only [go_sem, hP, hn]; (repeat refine vc ?_); refine hK _ ?_; clear K hK
    (repeat (first | refine TS.imp ?_ | refine n9 (by decide) ?_))
    refine Tr.cond rfl (fun hc => ?_) (fun hc => ?_)
    · exfalso
      simp only [Bool.or_eq_true, Bool.and_eq_true, beq_iff_eq] at hc
      omega
    clear hc
    (repeat (first | refine TS.imp ?_ | refine n9 (by decide) ?_))
    refine TR.imp ?_; intro K hK; simp only [hw, go_sem, hP, hn]; (repeat refine vc ?_); refine hK _ ?_; clear K hK
    (repeat (first | refine TS.imp ?_ | refine n9 (by decide) ?_))
    refine TR.imp ?_; intro K hK; simp only [hw, hq, go_sem, hP, hn]; (repeat refine vc ?_); refine hK _ ?_; clear K hK
    (repeat (first | refine TS.imp ?_ | refine n9 (by decide) ?_))
    rw [w64 (x := x) (by omega) (by omega)]
    refine Tr.cond rfl (fun hc => ?_) (fun hc => ?_)
    · exfalso; simp at hc
    (repeat (first | (refine TR.imp ?_; intro K hK; simp only [go_sem, hP, hn]; (repeat refine vc ?_); refine hK _ ?_; clear K hK) | refine TS.imp ?_ | refine n9 (by decide) ?_))
    simp only [RetQ, go_sem]
    decide
theorem rScale_c {T : World → Prop} (Tm : TP T) (x m s : Int) (hx : in32 x) : Ct Go.Proofs.Tryd.prog T 49 [.d (.i .i64 x), .d (.i .i64 m), .d (.i .i64 s)] true (fun r => r = .d (.i .i64 (scaleV x m s))) := by
  refine Ct_of Tm Go.Proofs.Tryd.func49 rfl rfl Go.Proofs.Tryd.ntmps49 (by simp) (rs := [.tmp 6]) rfl fun E hP hn hT => ?_
  (repeat (first | (refine TR.imp ?_; intro K hK; simp only [go_sem, hP, hn]; (repeat refine vc ?_); refine hK _ ?_; clear K hK) | refine TS.imp ?_ | refine n9 (by decide) ?_))
  unfold scaleV
  refine Tr.cond rfl (fun hb => ?_) (fun hb => ?_)
  · have h : ¬ (0 ≤ m ∧ m ≤ 32767 ∧ 0 ≤ s ∧ s ≤ 30) := by
      intro h
      simp only [Bool.or_eq_true, decide_eq_true_eq] at hb
      omega
    (repeat (first | (refine TR.imp ?_; intro K hK; simp only [go_sem, hP, hn]; (repeat refine vc ?_); refine hK _ ?_; clear K hK) | refine TS.imp ?_ | refine n9 (by decide) ?_))
    simp only [RetQ, go_sem]
    rw [if_neg h]
  · have h : 0 ≤ m ∧ m ≤ 32767 ∧ 0 ≤ s ∧ s ≤ 30 := by
      simp only [Bool.or_eq_false_iff, decide_eq_false_iff_not] at hb
      omega
    clear hb
    have hm : -2147483648 * 32767 ≤ x * m ∧ x * m ≤ 2147483647 * 32767 := by
      constructor
      · have a1 : -2147483648 * m ≤ x * m := Int.mul_le_mul_of_nonneg_right hx.1 h.1
        omega
      · have a1 : x * m ≤ 2147483647 * m := Int.mul_le_mul_of_nonneg_right hx.2 h.1
        omega
    rw [if_pos h]
    (repeat (first | refine TS.imp ?_ | refine n9 (by decide) ?_))
    refine TR.imp ?_; intro K hK; simp only [go_sem, hP, hn]; (repeat refine vc ?_); refine c1 (by rw [hP, hT]; exact rMul_c Tm x m hx h.1 h.2.1) rfl rfl rfl trivial (by simp only [go_sem, hP, hn]; try trivial) (by simp only [go_sem, hP, hn]; try rfl) (by rw [hn]; decide) (by rfl) ?_; simp only [go_sem, hP, hn]; (repeat refine vc ?_); refine hK _ ?_; clear K hK
    generalize x * m = p at hm ⊢
    (repeat (first | refine TS.imp ?_ | refine n9 (by decide) ?_))
    refine TR.imp ?_; intro K hK; simp only [go_sem, hP, hn]; (repeat refine vc ?_); refine hK _ ?_; clear K hK
    (repeat (first | refine TS.imp ?_ | refine n9 (by decide) ?_))
    refine Tr.cond rfl (fun hb => ?_) (fun hb => ?_)
    · exact absurd hb (by simp)
    (repeat (first | refine TS.imp ?_ | refine n9 (by decide) ?_))
    refine TR.imp ?_; intro K hK; simp only [go_sem, hP, hn]; (repeat refine vc ?_); refine hK _ ?_; clear K hK
    (repeat (first | refine TS.imp ?_ | refine n9 (by decide) ?_))
    refine Tr.cond rfl (fun hc => ?_) (fun hc => ?_)
    · exact absurd hc (by simp)
    (repeat (first | refine TS.imp ?_ | refine n9 (by decide) ?_))
    refine TR.imp ?_; intro K hK; simp only [go_sem, hP, hn]; (repeat refine vc ?_); refine c1 (by rw [hP, hT]; exact rHalf_c Tm p s (by omega) (by omega) h.2.2.1 h.2.2.2) rfl rfl rfl trivial (by simp only [go_sem, hP, hn]; try trivial) (by simp only [go_sem, hP, hn]; try rfl) (by rw [hn]; decide) (by rfl) ?_; simp only [go_sem, hP, hn]; (repeat refine vc ?_); refine c1 (by rw [hP, hT]; exact rSat_c Tm (halfV p s)) rfl rfl rfl trivial (by simp only [go_sem, hP, hn]; try trivial) (by simp only [go_sem, hP, hn]; try rfl) (by rw [hn]; decide) (by rfl) ?_; simp only [go_sem, hP, hn]; (repeat refine vc ?_); refine hK _ ?_; clear K hK
    (repeat (first | (refine TR.imp ?_; intro K hK; simp only [go_sem, hP, hn]; (repeat refine vc ?_); refine hK _ ?_; clear K hK) | refine TS.imp ?_ | refine n9 (by decide) ?_))
    simp only [RetQ, go_sem]
end Go.Proofs.YtgijboakaodcgaaDoor.Aw
namespace Go.Proofs.YtgijboakaodcgaaDoor.Aw
open Go.RowKit
/-! from contracts to rows -/
theorem Tab.size {w : World} (h : Tab w) : G0 ≤ w.heap.size := by
  have h0 := h 0 0 rfl
  unfold World.cell? at h0
  simp only at h0
  rcases Nat.lt_or_ge 0 w.heap.size with hl | hl
  · exact hl
  · rw [Array.getElem?_eq_none hl] at h0; cases h0
theorem KTab : KT Tab := ⟨⟨fun _ _ hb h => h.below hb, fun _ h => h.size⟩, fun _ h => h⟩
theorem Cg.calls {P : Program} {T : World → Prop} {f : Nat} {xs : List S} {R0 : S} {v0 : Value} (C : Cg P T f [] xs (fun r H => H = [] ∧ r = R0)) (hv : ∀ η F w v, RS η F w R0 v → v = v0) {w : World} (vs : List Value) (hT : T w) (hx : RSL η0 (fun _ => True) w xs vs) :
    Calls P f vs.toArray w fun e w' => e = .returned v0 ∧ Below w.heap.size w w' := by
  refine (C.2 (fun _ => True) w η0 vs hT (show In w (fun _ => True) [] η0 from ⟨fun k o hk => (by simp [lh] at hk), fun k o g hk => (by simp [lh] at hk), fun k k' o o' _ hk => (by simp [lh] at hk)⟩) hx).mono ?_
  rintro e w' ⟨r, v, Ho, η', rfl, ⟨rfl, rfl⟩, h1, h2⟩
  refine ⟨by rw [hv _ _ _ _ h1], h2.bel.below fun b ⟨k, o, hk, _⟩ => by simp [lh] at hk⟩
/-- a row of numbers that came in -/
theorem Rd_ints {w : World} {a : Option Addr} {len cap : Nat} {zs : List Int} (h : (a = none ∧ len = 0 ∧ cap = 0 ∧ zs = []) ∨ ∃ x, a = some x ∧ len ≤ cap ∧ cap ≤ maxLen ∧ zs.length = cap ∧ ∀ i, i < zs.length → w.cell? (x.add i) = some (.int .i64 (zs.getD i 0))) :
    Rd (fun _ => True) w (.row [.i .i64 0] ((zs.take len).map intC)) (.slice a len cap) := by
  simp only [Rd]
  rcases h with ⟨rfl, rfl, rfl, rfl⟩ | ⟨x, rfl, hl, hm, hz, hc⟩
  · exact ⟨none, 0, rfl, Nat.le_refl _, .inl ⟨rfl, fun _ => rfl⟩⟩
  · have hlen : ((zs.take len).map intC).length = len := by simp; omega
    refine ⟨some x, cap, by rw [hlen], by rw [hlen]; exact hl, ?_⟩
    rcases Nat.eq_zero_or_pos len with h0 | h0
    · subst h0
      exact .inl ⟨by simp, fun e => by cases e⟩
    · right
      have c0 := hc 0 (by omega)
      rw [show x.add 0 = x from if_pos rfl] at c0
      have hadd : ∀ i, x.add i = if i = 0 then x else { x with off := x.off + i, spot := none } := fun i => rfl
      unfold World.cell? at c0
      cases hq : w.heap[x.block]? with
      | none => rw [hq] at c0; cases c0
      | some o =>
        rw [hq] at c0
        cases o <;> simp only at c0 <;> try (cases c0; done)
        rename_i cs t fr
        have hsp : x.spot = none := by
          cases hs : x.spot with
          | none => rfl
          | some q => rw [hs] at c0; cases c0
        refine ⟨x, cs, t, fr, rfl, hsp, trivial, hq, RdE.of fun j e he => ?_⟩
        have hj : j < len := by
          have := (List.getElem?_eq_some_iff.1 he).1
          omega
        have hcj := hc j (by omega)
        have he2 : e = intC (zs.getD j 0) := by
          rw [List.getElem?_map, List.getElem?_take, if_pos hj] at he
          cases hz2 : zs[j]? with
          | none => rw [hz2] at he; cases he
          | some z =>
            rw [hz2] at he
            simp only [Option.map_some, Option.some.injEq] at he
            rw [← he, List.getD_eq_getElem?_getD, hz2]; rfl
        subst he2
        refine ⟨rfl, ?_⟩
        simp only [intC, RdC, and_true]
        refine ⟨_, ?_, rfl⟩
        unfold World.cell? at hcj
        rw [hadd] at hcj
        by_cases hj0 : j = 0
        · subst hj0
          rw [if_pos rfl, hq] at hcj
          simp only [hsp, Option.isSome_none, Bool.false_eq_true, if_false] at hcj
          simpa using hcj
        · rw [if_neg hj0] at hcj
          simp only [hq, Option.isSome_none, Bool.false_eq_true, if_false] at hcj
          simpa using hcj
section
variable {η : Nat → Value} {F : Nat → Prop} {w : World}
theorem RSL_nil : RSL η F w [] [] := by simp only [RSL]
theorem RSL_cons {c : S} {cs : List S} {v : Value} {r : List Value} (h : RS η F w c v) (k : RSL η F w cs r) : RSL η F w (c :: cs) (v :: r) := by
  simp only [RSL]; exact ⟨v, r, rfl, h, k⟩
theorem RS_int (k : IntKind) (n : Int) : RS η F w (.d (.i k n)) (.int k n) := by simp only [RS, Rd]
theorem RS_d {x : D} {v : Value} (h : Rd F w x v) : RS η F w (.d x) v := by simp only [RS]; exact h
theorem RS_true {v : Value} (h : RS η F w (.d (.b true)) v) : v = .bool true := by simpa only [RS, Rd] using h
theorem RS_agg {cs : List S} {vs : List Value} (h : RSL η F w cs vs) : RS η F w (.agg cs) (.agg vs.toArray) := by simp only [RS]; exact ⟨_, rfl, h⟩
end

end Go.Proofs.YtgijboakaodcgaaDoor.Aw
namespace Go.Proofs.YtgijboakaodcgaaDoor.Aw
open Go.RowKit
attribute [local go_sem_proc] Nat.reduceAdd Nat.reduceMul Nat.reduceSub Nat.reduceEqDiff Nat.reduceLeDiff Nat.reduceBEq Nat.reduceBNe Int.reduceToNat reduceIte reduceCtorEq
attribute [local go_sem] initT SQ so pe he ev lk constS stp stc gdS nth pickS pickD loadS cellsAt okAt fieldAddrS fieldS partS indexAddrS indexS extractS binS binD binI isShift unS convS lenS sliceS bndI bndC mmS mm2 mmD builtS fillS okCells cellsS splS solid aliveL alive okS boxS allocS makeS bsliceS elemsOf dcells stF storeS frzA frz frzT frzS frzL frzO frzH appS srcS appVC killS killT killC killH killO k1 k2 S.has S.hasL St.add St.upd dropH lh cond_or cond_and rw_intC rw_intC0 rw_set rw_app rw_apps rw_rep rw_slice wr64 cond_true cond_false true_and and_true List.map_cons List.map_nil List.length_cons List.length_nil List.drop_succ_cons List.drop_zero List.take_succ_cons List.take_zero List.nil_append List.cons_append List.getD_cons_zero List.getD_cons_succ List.headD_cons List.length_map ite_true ite_false if_true if_false Bool.false_eq_true and_self forall_const List.drop_nil List.take_nil List.append_nil Option.map_some Option.map_none List.mapM_cons List.mapM_nil Option.bind_eq_bind Option.bind_some Option.pure_def knows resL resV oneS freshS freshL cv cvL stpL stcL or_true true_or or_false false_or List.all_cons List.all_nil Bool.and_self Bool.or_self Bool.true_and Bool.and_true Bool.or_false Bool.false_or implies_true flatD allm_nil allm_cons List.getElem?_cons_zero List.getElem?_cons_succ Nd.cs Nd.ds ml mln Option.isSome_some Option.isSome_none eq_self Int.toNat_natCast AP ldOk isLd inL subL crt chg chgS chgP idxs aliveW Option.toList_some Option.toList_none Option.toList RetG Nd.win frzA offK keepH aliveK nkH closedH closedO keysK inH St.upd rowO List.contains_cons List.contains_nil Bool.or_self Option.isNone_none Option.isNone_some Bool.not_true Bool.not_false gcs rowN e0N frzC
attribute [local go_sem] sz2 ag2 ok2 kk2 iu2 zc2 zd2 by2 sz3 ag3 ok3 kk3 iu3 zc3 zd3 by3 sz4 ag4 ok4 bo4 zc4 zd4 by4 sz5 ag5 ok5 kk5 iu5 zc5 zd5 by5 sz9 ag9 ok9 st9 zc9 zd9 by9 sz12 ag12 ok12 kk12 iu12 zc12 zd12 by12 sz15 ag15 ok15 zc15 by15 sz16 ag16 ok16 zc16 by16 sz21 ag21 ok21 kk21 iu21 zc21 zd21 by21 sz22 ag22 ok22 sl22 zc22 zd22 by22 sz23 ag23 ok23 zc23 zd23 pl23 by23 fl23_0 fl23_1 fl23_2 fl23_3 fl23_4 fl23_5 sz24 ag24 ok24 zc24 zd24 pl24 by24 fl24_0 fl24_1 fl24_2 fl24_3 fl24_4 fl24_5 sz26 ag26 ok26 zc26 zd26 pl26 by26 fl26_0 fl26_1 fl26_2 fl26_3 fl26_4 fl26_5 fl26_6 fl26_7 fl26_8 fl26_9 fl26_10 fl26_11 fl26_12 fl26_13 fl26_14 sz27 ag27 ok27 zc27 zd27 pl27 by27 fl27_0 fl27_1 fl27_2 fl27_3 fl27_4 fl27_5 fl27_6 fl27_7 fl27_8 fl27_9 fl27_10 fl27_11 fl27_12 fl27_13 fl27_14 sz28 ag28 ok28 sl28 zc28 zd28 by28 sz38 ag38 ok38 sl38 ar38 zc38 zd38 pl38 by38 sz44 ag44 ok44 sl44 ar44 zc44 zd44 pl44 by44 sz45 ag45 ok45 sl45 zc45 zd45 by45 sz46 ag46 ok46 zc46 zd46 pl46 by46 fl46_0 fl46_1 fl46_2 fl46_3 fl46_4 sz47 ag47 ok47 zc47 zd47 pl47 by47 fl47_0 fl47_1 fl47_2 fl47_3 fl47_4 sz49 ag49 ok49 kk49 iu49 zc49 zd49 by49 sz53 ag53 ok53 sl53 ar53 zc53 zd53 pl53 by53 sz54 ag54 ok54 kk54 iu54 zc54 zd54 by54 sz55 ag55 ok55 kk55 iu55 zc55 zd55 by55 sz56 ag56 ok56 sl56 zc56 zd56 by56 sz57 ag57 ok57 kk57 iu57 zc57 zd57 by57 sz60 ag60 ok60 zc60 zd60 pl60 by60 fl60_0 fl60_1 fl60_2 fl60_3 sz61 ag61 ok61 zc61 zd61 pl61 by61 fl61_0 fl61_1 fl61_2 fl61_3 sz64 ag64 ok64 zc64 by64 sz65 ag65 ok65 zc65 zd65 pl65 by65 fl65_0 fl65_1 sz66 ag66 ok66 zc66 zd66 pl66 by66 fl66_0 fl66_1 sz78 ag78 ok78 sl78 ar78 zc78 zd78 pl78 by78 sz79 ag79 ok79 sl79 ar79 zc79 zd79 pl79 by79 sz81 ag81 ok81 zc81 zd81 pl81 by81 fl81_0 fl81_1 sz82 ag82 ok82 zc82 zd82 pl82 by82 fl82_0 fl82_1 sz84 ag84 ok84 zc84 zd84 pl84 by84 fl84_0 fl84_1 fl84_2 fl84_3 sz85 ag85 ok85 zc85 zd85 pl85 by85 fl85_0 fl85_1 fl85_2 fl85_3 sz92 ag92 ok92 sl92 ar92 zc92 zd92 pl92 by92 sz101 ag101 ok101 zc101 zd101 pl101 by101 fl101_0 fl101_1 sz102 ag102 ok102 zc102 zd102 pl102 by102 fl102_0 fl102_1 sz109 ag109 ok109 zc109 zd109 pl109 by109 fl109_0 fl109_1 fl109_2 sz110 ag110 ok110 zc110 zd110 pl110 by110 fl110_0 fl110_1 fl110_2 sz120 ag120 ok120 sl120 ar120 zc120 zd120 pl120 by120 sz121 ag121 ok121 zc121 zd121 pl121 by121 fl121_0 fl121_1 sz122 ag122 ok122 sl122 ar122 zc122 zd122 pl122 by122 sz130 ag130 ok130 zc130 by130 sz140 ag140 ok140 kk140 iu140 zc140 zd140 by140 sz144 ag144 ok144 zc144 by144
section
/-! kernel.each, with closures -/
def col (fs : List (List Int)) (k : Int) : List Int := fs.map fun f => rd f k
def eachL (g : List Int → Int) (fs : List (List Int)) (w : Nat) : List Int := (List.range w).map fun k => g (col fs (k : Nat))
def OB2 (n : Nd) (xs : List Int) : Hp := [(1000, .box 27 n.cs), (1001, .row 3 [.i .i64 0] (xs.map intC))]
attribute [local go_sem] OB2
end
end Go.Proofs.YtgijboakaodcgaaDoor.Aw
namespace Go.Proofs.YtgijboakaodcgaaDoor.Aw
open Go.RowKit
/-! what kernels make, in plain numbers -/
def dotK (ws : List Int) (o : Int) (f : List Int) : Nat → Int → Int
  | 0, x => x
  | k + 1, x => wrap64 (dotK ws o f k x + wrap64 (rd ws (o + k) * rd f k))
def stW (n : Nd) (w : Nat) : Nat := if n.k = 2 then 1 else w
def rowF (n : Nd) (fs : List (List Int)) (c : Int) (j : Nat) : List Int := if n.k = 2 then [rd (fr fs j) c] else fr fs j
/-- a number's sum, over the first frames -/
def accW (n : Nd) (fs : List (List Int)) (w : Nat) (c : Int) : Nat → Int
  | 0 => rd n.bs c
  | j + 1 => dotK n.ws ((c * fs.length + j) * stW n w) (rowF n fs c j) (stW n w) (accW n fs w c j)
def weighedN (n : Nd) (fs : List (List Int)) (w : Nat) : Nat → List Int
  | 0 => []
  | c + 1 => weighedN n fs w c ++ [n.pst (accW n fs w (c : Nat) fs.length)]
def weighedV (n : Nd) (fs : List (List Int)) (w : Nat) : List Int := weighedN n fs w n.bs.length
/-- a node that weighs, over frames as wide -/
structure WOk (n : Nd) (fs : List (List Int)) (w : Nat) : Prop where
  m0 : 1 ≤ fs.length ∧ fs.length ≤ 16
  w0 : 1 ≤ w ∧ w ≤ 16
  b0 : 1 ≤ n.bs.length ∧ n.bs.length ≤ 16
  len : ∀ f ∈ fs, f.length = w
  dp : n.k = 2 → n.bs.length = w
  ws : n.ws.length = n.bs.length * fs.length * stW n w
theorem stW_pos {n : Nd} {fs : List (List Int)} {w : Nat} (h : WOk n fs w) : 1 ≤ stW n w ∧ stW n w ≤ 16 := by
  have := h.w0
  unfold stW
  split <;> omega
theorem WOk.off {n : Nd} {fs : List (List Int)} {w : Nat} (h : WOk n fs w) {c j : Int} (c0 : 0 ≤ c) (c1 : c < n.bs.length) (j0 : 0 ≤ j) (j1 : j < fs.length) :
    0 ≤ c * fs.length ∧ 0 ≤ (c * fs.length + j) * stW n w ∧ (c * fs.length + j) * stW n w + stW n w ≤ n.ws.length ∧ (c * fs.length + (j + 1)) * stW n w = (c * fs.length + j) * stW n w + stW n w ∧ c * fs.length + j < n.bs.length * fs.length ∧ (n.bs.length : Int) * fs.length ≤ 256 := by
  have h1 := h.m0
  have h2 := h.b0
  have h3 := stW_pos h
  have a0 : 0 ≤ c * fs.length := Int.mul_nonneg c0 (by omega)
  have a1 : (c + 1) * (fs.length : Int) ≤ n.bs.length * fs.length := Int.mul_le_mul_of_nonneg_right (by omega) (by omega)
  rw [Int.add_mul] at a1
  have a2 : (c * fs.length + j + 1) * (stW n w : Int) ≤ (n.bs.length * fs.length) * stW n w := Int.mul_le_mul_of_nonneg_right (by omega) (by omega)
  have a3 : ((n.ws.length : Nat) : Int) = (n.bs.length * fs.length) * stW n w := by rw [h.ws]; simp
  have a4 : (n.bs.length : Int) * fs.length ≤ 16 * 16 := by
    have := Nat.mul_le_mul h2.2 h1.2
    exact_mod_cast this
  refine ⟨a0, Int.mul_nonneg (by omega) (by omega), ?_, ?_, by omega, by omega⟩
  · rw [a3]
    rw [Int.add_mul (c * fs.length + j) 1] at a2
    omega
  · rw [← Int.add_assoc, Int.add_mul (c * fs.length + j) 1]
    omega
theorem WOk.next {n : Nd} {fs : List (List Int)} {w : Nat} (c : Int) : (c * fs.length + fs.length) * (stW n w : Int) = ((c + 1) * fs.length + 0) * stW n w := by
  rw [Int.add_mul c 1]; simp
/-- a node's frame, over frames -/
def frameV (n : Nd) (fs : List (List Int)) (w : Nat) : List Int :=
  if rWeighs n.k = true then weighedV n fs w
  else if n.k = 3 ∨ n.k = 5 then eachL (fun xs => rd xs (mostV xs)) fs w
  else if n.k = 4 ∨ n.k = 12 then eachL meanV fs w
  else if n.k = 7 then eachL addV fs w
  else if n.k = 9 then eachL (fun xs => clampV (rd xs 0) n.low n.high) fs w
  else if n.k = 10 then eachL (fun xs => scaleV (rd xs 0) n.mult n.shift) fs w
  else if n.k = 11 then [mostV (fr fs 0)]
  else fs.flatten
/-- a right node, and its frames -/
structure KOk (n : Nd) (fs : List (List Int)) (w : Nat) : Prop where
  w0 : 1 ≤ w ∧ w ≤ 16
  m0 : 1 ≤ fs.length ∧ fs.length ≤ 4096
  len : ∀ f ∈ fs, f.length = w
  num : ∀ f ∈ fs, ∀ x ∈ f, in32 x
  win : rWin n.k = true → (fs.length : Int) = n.size
  many : rMany n.k = true → fs.length = n.inn.length
  one : rWin n.k = false → rMany n.k = false → n.k ≠ 5 → fs.length = 1
  chk : n.rchk (List.replicate n.inn.length (w : Int)) = 0
  il : n.inn.length ≤ 4
  wl : n.ws.length ≤ 4096
  bl : n.bs.length ≤ 4096
theorem KOk.unpack {n : Nd} {fs : List (List Int)} {w : Nat} (h : KOk n fs w) : 1 ≤ n.k ∧ n.k ≤ 12 ∧ 0 ≤ n.post ∧ n.post ≤ 3 ∧ (rMany n.k = false → n.inn.length = 1) ∧ 1 ≤ n.inn.length := by
  obtain ⟨h1, h7, h9, _, _, _⟩ := rchk_unpack h.chk
  unfold Nd.r7 at h7
  unfold Nd.r9 at h9
  simp only [Bool.or_eq_false_iff, Bool.and_eq_false_iff, Bool.not_eq_false', inB_iff, decide_eq_false_iff_not, List.length_replicate] at h7 h9
  refine ⟨h7.1.1.1, h7.1.1.2, by omega, by omega, fun e => ?_, ?_⟩
  · rw [e] at h7; have := h7.2; simp at this; omega
  · cases e : rMany n.k with
    | true => rw [e] at h7; simp at h7; omega
    | false => rw [e] at h7; simp at h7; omega
theorem KOk.sized {n : Nd} {fs : List (List Int)} {w : Nat} (h : KOk n fs w) : n.sized w = true := by
  obtain ⟨_, _, _, _, hs, _⟩ := rchk_unpack h.chk
  have := h.unpack.2.2.2.2.2
  have e : rd (List.replicate n.inn.length (w : Int)) 0 = w := by
    unfold rd
    obtain ⟨m, hm⟩ : ∃ m, n.inn.length = m + 1 := ⟨n.inn.length - 1, by omega⟩
    rw [hm, List.replicate_succ]; rfl
  rwa [e] at hs
theorem KOk.wide {n : Nd} {fs : List (List Int)} {w : Nat} (h : KOk n fs w) (hm : rMany n.k = true) : fs.map (fun f => (f.length : Int)) = List.replicate n.inn.length (w : Int) := by
  rw [← h.many hm, List.eq_replicate_iff]
  exact ⟨by simp, fun b hb => by obtain ⟨f, hf, rfl⟩ := List.mem_map.1 hb; rw [h.len f hf]⟩
theorem KOk.col {n : Nd} {fs : List (List Int)} {w : Nat} (h : KOk n fs w) {k : Int} (k0 : 0 ≤ k) (k1 : k < w) : ∀ x ∈ col fs k, in32 x := by
  intro x hx
  unfold Aw.col at hx
  obtain ⟨f, hf, rfl⟩ := List.mem_map.1 hx
  exact h.num f hf _ (rd_mem k0 (by rw [h.len f hf]; exact k1))
end Go.Proofs.YtgijboakaodcgaaDoor.Aw
namespace Go.Proofs.YtgijboakaodcgaaDoor.Aw
open Go.RowKit
attribute [local go_sem_proc] Nat.reduceAdd Nat.reduceMul Nat.reduceSub Nat.reduceEqDiff Nat.reduceLeDiff Nat.reduceBEq Nat.reduceBNe Int.reduceToNat reduceIte reduceCtorEq
attribute [local go_sem] initT SQ so pe he ev lk constS stp stc gdS nth pickS pickD loadS cellsAt okAt fieldAddrS fieldS partS indexAddrS indexS extractS binS binD binI isShift unS convS lenS sliceS bndI bndC mmS mm2 mmD builtS fillS okCells cellsS splS solid aliveL alive okS boxS allocS makeS bsliceS elemsOf dcells stF storeS frzA frz frzT frzS frzL frzO frzH appS srcS appVC killS killT killC killH killO k1 k2 S.has S.hasL St.add St.upd dropH lh cond_or cond_and rw_intC rw_intC0 rw_set rw_app rw_apps rw_rep rw_slice wr64 cond_true cond_false true_and and_true List.map_cons List.map_nil List.length_cons List.length_nil List.drop_succ_cons List.drop_zero List.take_succ_cons List.take_zero List.nil_append List.cons_append List.getD_cons_zero List.getD_cons_succ List.headD_cons List.length_map ite_true ite_false if_true if_false Bool.false_eq_true and_self forall_const List.drop_nil List.take_nil List.append_nil Option.map_some Option.map_none List.mapM_cons List.mapM_nil Option.bind_eq_bind Option.bind_some Option.pure_def knows resL resV oneS freshS freshL cv cvL stpL stcL or_true true_or or_false false_or List.all_cons List.all_nil Bool.and_self Bool.or_self Bool.true_and Bool.and_true Bool.or_false Bool.false_or implies_true flatD allm_nil allm_cons List.getElem?_cons_zero List.getElem?_cons_succ Nd.cs Nd.ds ml mln Option.isSome_some Option.isSome_none eq_self Int.toNat_natCast AP ldOk isLd inL subL crt chg chgS chgP idxs aliveW Option.toList_some Option.toList_none Option.toList RetG Nd.win frzA offK keepH aliveK nkH closedH closedO keysK inH St.upd rowO List.contains_cons List.contains_nil Bool.or_self Option.isNone_none Option.isNone_some Bool.not_true Bool.not_false gcs rowN e0N frzC
attribute [local go_sem] sz2 ag2 ok2 kk2 iu2 zc2 zd2 by2 sz3 ag3 ok3 kk3 iu3 zc3 zd3 by3 sz4 ag4 ok4 bo4 zc4 zd4 by4 sz5 ag5 ok5 kk5 iu5 zc5 zd5 by5 sz9 ag9 ok9 st9 zc9 zd9 by9 sz12 ag12 ok12 kk12 iu12 zc12 zd12 by12 sz15 ag15 ok15 zc15 by15 sz16 ag16 ok16 zc16 by16 sz21 ag21 ok21 kk21 iu21 zc21 zd21 by21 sz22 ag22 ok22 sl22 zc22 zd22 by22 sz23 ag23 ok23 zc23 zd23 pl23 by23 fl23_0 fl23_1 fl23_2 fl23_3 fl23_4 fl23_5 sz24 ag24 ok24 zc24 zd24 pl24 by24 fl24_0 fl24_1 fl24_2 fl24_3 fl24_4 fl24_5 sz26 ag26 ok26 zc26 zd26 pl26 by26 fl26_0 fl26_1 fl26_2 fl26_3 fl26_4 fl26_5 fl26_6 fl26_7 fl26_8 fl26_9 fl26_10 fl26_11 fl26_12 fl26_13 fl26_14 sz27 ag27 ok27 zc27 zd27 pl27 by27 fl27_0 fl27_1 fl27_2 fl27_3 fl27_4 fl27_5 fl27_6 fl27_7 fl27_8 fl27_9 fl27_10 fl27_11 fl27_12 fl27_13 fl27_14 sz28 ag28 ok28 sl28 zc28 zd28 by28 sz38 ag38 ok38 sl38 ar38 zc38 zd38 pl38 by38 sz44 ag44 ok44 sl44 ar44 zc44 zd44 pl44 by44 sz45 ag45 ok45 sl45 zc45 zd45 by45 sz46 ag46 ok46 zc46 zd46 pl46 by46 fl46_0 fl46_1 fl46_2 fl46_3 fl46_4 sz47 ag47 ok47 zc47 zd47 pl47 by47 fl47_0 fl47_1 fl47_2 fl47_3 fl47_4 sz49 ag49 ok49 kk49 iu49 zc49 zd49 by49 sz53 ag53 ok53 sl53 ar53 zc53 zd53 pl53 by53 sz54 ag54 ok54 kk54 iu54 zc54 zd54 by54 sz55 ag55 ok55 kk55 iu55 zc55 zd55 by55 sz56 ag56 ok56 sl56 zc56 zd56 by56 sz57 ag57 ok57 kk57 iu57 zc57 zd57 by57 sz60 ag60 ok60 zc60 zd60 pl60 by60 fl60_0 fl60_1 fl60_2 fl60_3 sz61 ag61 ok61 zc61 zd61 pl61 by61 fl61_0 fl61_1 fl61_2 fl61_3 sz64 ag64 ok64 zc64 by64 sz65 ag65 ok65 zc65 zd65 pl65 by65 fl65_0 fl65_1 sz66 ag66 ok66 zc66 zd66 pl66 by66 fl66_0 fl66_1 sz78 ag78 ok78 sl78 ar78 zc78 zd78 pl78 by78 sz79 ag79 ok79 sl79 ar79 zc79 zd79 pl79 by79 sz81 ag81 ok81 zc81 zd81 pl81 by81 fl81_0 fl81_1 sz82 ag82 ok82 zc82 zd82 pl82 by82 fl82_0 fl82_1 sz84 ag84 ok84 zc84 zd84 pl84 by84 fl84_0 fl84_1 fl84_2 fl84_3 sz85 ag85 ok85 zc85 zd85 pl85 by85 fl85_0 fl85_1 fl85_2 fl85_3 sz92 ag92 ok92 sl92 ar92 zc92 zd92 pl92 by92 sz101 ag101 ok101 zc101 zd101 pl101 by101 fl101_0 fl101_1 sz102 ag102 ok102 zc102 zd102 pl102 by102 fl102_0 fl102_1 sz109 ag109 ok109 zc109 zd109 pl109 by109 fl109_0 fl109_1 fl109_2 sz110 ag110 ok110 zc110 zd110 pl110 by110 fl110_0 fl110_1 fl110_2 sz120 ag120 ok120 sl120 ar120 zc120 zd120 pl120 by120 sz121 ag121 ok121 zc121 zd121 pl121 by121 fl121_0 fl121_1 sz122 ag122 ok122 sl122 ar122 zc122 zd122 pl122 by122 sz130 ag130 ok130 zc130 by130 sz140 ag140 ok140 kk140 iu140 zc140 zd140 by140 sz144 ag144 ok144 zc144 by144
section
attribute [local go_sem] frD
end
section
attribute [local go_sem] frD
end
section
attribute [local go_sem] frD OB2
end
section
attribute [local go_sem] frD
end
section
attribute [local go_sem] frD
end
section
attribute [local go_sem] frD
theorem bit1 (p : Int) : (Go.bits .and .i64 p 1 == 1) = (Go.bits .and .i64 p 1 != 0) := by
  have := and_mask p 1 (by decide)
  rw [show (2 : Int) ^ 1 - 1 = 1 by decide] at this
  rw [this, Bool.eq_iff_iff]; simp; omega
theorem bit2 (p : Int) (h0 : 0 ≤ p) (h1 : p ≤ 3) : (Go.bits .and .i64 p 2 == 2) = (Go.bits .and .i64 p 2 != 0) := by
  have : p = 0 ∨ p = 1 ∨ p = 2 ∨ p = 3 := by omega
  rcases this with rfl | rfl | rfl | rfl <;> decide
end
section
attribute [local go_sem] Rg.cs Rg.ds e0R rgS
theorem one_c {T : World → Prop} (Tm : TP T) (l h : Int) : Ct Go.Proofs.Tryd.prog T 93 [.d (.i .i64 l), .d (.i .i64 h)] true (fun r => r = .agg (rgS l h).cs) := by
  refine Ct_of Tm Go.Proofs.Tryd.func93 rfl rfl Go.Proofs.Tryd.ntmps93 (by simp) (rs := [.cell 4 61]) rfl fun E hP hn hT => ?_
  (repeat (first | (refine TR.imp ?_; intro K hK; simp only [go_sem, hP, hn]; (repeat refine vc ?_); refine hK _ ?_; clear K hK) | refine TS.imp ?_ | refine n9 (by decide) ?_))
  simp only [RetQ, go_sem]
  decide
theorem post20_c {T : World → Prop} (Tm : TP T) (n : Nd) (x : Int) (h2 : (Go.bits .and .i64 n.post 2 == 2) = (Go.bits .and .i64 n.post 2 != 0)) : Ct Go.Proofs.Tryd.prog T 125 [.agg n.cs, .d (.i .i64 x)] true (fun r => r = .d (.i .i64 (n.pst x))) := by
  have h1 := bit1 n.post
  refine Ct_of Tm Go.Proofs.Tryd.func125 rfl rfl Go.Proofs.Tryd.ntmps125 (by simp) (rs := [.tmp 4]) rfl fun E hP hn hT => ?_
  (repeat (first | refine TS.imp ?_ | refine n9 (by decide) ?_))
  refine TR.imp ?_; intro K hK; simp only [go_sem, hP, hn]; (repeat refine vc ?_); refine hK _ ?_; clear K hK
  (repeat (first | refine TS.imp ?_ | refine n9 (by decide) ?_))
  refine TR.imp ?_; intro K hK; simp only [go_sem, hP, hn]; (repeat refine vc ?_); refine c1 (by rw [hP, hT]; exact rSat_c Tm x) rfl rfl rfl trivial (by simp only [go_sem, hP, hn]; try trivial) (by simp only [go_sem, hP, hn]; try rfl) (by rw [hn]; decide) (by rfl) ?_; simp only [go_sem, hP, hn]; (repeat refine vc ?_); refine hK _ ?_; clear K hK
  unfold Nd.pst
  rw [← h1, ← h2]
  refine Tr.seq ?_
  refine Tr.meet (fun s => s = ⟨[(1, .d (.i .i64 (if (Go.bits .and .i64 n.post 1 == 1) = true then scaleV (clampV x (-2147483648) 2147483647) n.mult n.shift else clampV x (-2147483648) 2147483647))), (2, .ptr 2 0)], [(2, .box 27 n.cs)]⟩) ?_ ?_
  rotate_left
  · (repeat (first | refine TS.imp ?_ | refine n9 (by decide) ?_))
    refine TR.imp ?_; intro K hK; simp only [go_sem, hP, hn]; (repeat refine vc ?_); refine hK _ ?_; clear K hK
    (repeat (first | refine TS.imp ?_ | refine n9 (by decide) ?_))
    refine Tr.cond rfl (fun hb => ?_) (fun hb => ?_)
    · (repeat (first | refine TS.imp ?_ | refine n9 (by decide) ?_))
      refine TR.imp ?_; intro K hK; simp only [go_sem, hP, hn]; (repeat refine vc ?_); refine c1 (by rw [hP, hT]; exact rScale_c Tm (clampV x (-2147483648) 2147483647) n.mult n.shift (clamp32 x)) rfl rfl rfl trivial (by simp only [go_sem, hP, hn]; try trivial) (by simp only [go_sem, hP, hn]; try rfl) (by rw [hn]; decide) (by rfl) ?_; simp only [go_sem, hP, hn]; (repeat refine vc ?_); refine hK _ ?_; clear K hK
      rw [if_pos hb]
      (repeat (first | refine TS.imp ?_ | refine n9 (by decide) ?_))
      exact ⟨_, (Le.mv (by simp only [go_sem, hP, hn]; first | done | (simp; done) | (simp [intC]; done) | (repeat (first | rfl | constructor))) (by simp only [go_sem, hP, hn]; first | done | (simp; done) | (simp [intC]; done) | (repeat (first | rfl | constructor)))), rfl⟩
    · rw [if_neg (by rw [hb]; decide)]
      (repeat (first | refine TS.imp ?_ | refine n9 (by decide) ?_))
      exact ⟨_, (Le.mv (by simp only [go_sem, hP, hn]; first | done | (simp; done) | (simp [intC]; done) | (repeat (first | rfl | constructor))) (by simp only [go_sem, hP, hn]; first | done | (simp; done) | (simp [intC]; done) | (repeat (first | rfl | constructor)))), rfl⟩
  rintro s rfl
  generalize (if (Go.bits .and .i64 n.post 1 == 1) = true then scaleV (clampV x (-2147483648) 2147483647) n.mult n.shift else clampV x (-2147483648) 2147483647) = y
  (repeat (first | refine TS.imp ?_ | refine n9 (by decide) ?_))
  refine TR.imp ?_; intro K hK; simp only [go_sem, hP, hn]; (repeat refine vc ?_); refine hK _ ?_; clear K hK
  (repeat (first | refine TS.imp ?_ | refine n9 (by decide) ?_))
  refine Tr.cond rfl (fun hb => ?_) (fun hb => ?_)
  · rw [if_pos hb]
    (repeat (first | refine TS.imp ?_ | refine n9 (by decide) ?_))
    refine TR.imp ?_; intro K hK; simp only [go_sem, hP, hn]; (repeat refine vc ?_); refine c1 (by rw [hP, hT]; exact rClamp_c Tm y n.low n.high) rfl rfl rfl trivial (by simp only [go_sem, hP, hn]; try trivial) (by simp only [go_sem, hP, hn]; try rfl) (by rw [hn]; decide) (by rfl) ?_; simp only [go_sem, hP, hn]; (repeat refine vc ?_); refine hK _ ?_; clear K hK
    (repeat (first | (refine TR.imp ?_; intro K hK; simp only [go_sem, hP, hn]; (repeat refine vc ?_); refine hK _ ?_; clear K hK) | refine TS.imp ?_ | refine n9 (by decide) ?_))
    simp only [RetQ, go_sem]
  · rw [if_neg (by rw [hb]; decide)]
    (repeat (first | (refine TR.imp ?_; intro K hK; simp only [go_sem, hP, hn]; (repeat refine vc ?_); refine hK _ ?_; clear K hK) | refine TS.imp ?_ | refine n9 (by decide) ?_))
    simp only [RetQ, go_sem]
theorem rLeft_c {T : World → Prop} (Tm : TP T) (n : Nd) : Ct Go.Proofs.Tryd.prog T 114 [.agg n.cs] true (fun r => r = .d (.i .i64 n.rLeft)) := by
  refine Ct_of Tm Go.Proofs.Tryd.func114 rfl rfl Go.Proofs.Tryd.ntmps114 (by simp) (rs := [.tmp 2]) rfl fun E hP hn hT => ?_
  unfold Nd.rLeft
  (repeat (first | refine TS.imp ?_ | refine n9 (by decide) ?_))
  refine TR.imp ?_; intro K hK; simp only [go_sem, hP, hn]; (repeat refine vc ?_); refine hK _ ?_; clear K hK
  (repeat (first | refine TS.imp ?_ | refine n9 (by decide) ?_))
  refine TR.imp ?_; intro K hK; simp only [go_sem, hP, hn]; (repeat refine vc ?_); refine hK _ ?_; clear K hK
  (repeat (first | refine TS.imp ?_ | refine n9 (by decide) ?_))
  refine Tr.cond rfl (fun h1 => ?_) (fun h1 => ?_)
  · rw [if_pos h1]
    (repeat (first | (refine TR.imp ?_; intro K hK; simp only [go_sem, hP, hn]; (repeat refine vc ?_); refine hK _ ?_; clear K hK) | refine TS.imp ?_ | refine n9 (by decide) ?_))
    simp only [RetQ, go_sem]
  rw [if_neg (by rw [h1]; decide)]
  (repeat (first | refine TS.imp ?_ | refine n9 (by decide) ?_))
  refine TR.imp ?_; intro K hK; simp only [go_sem, hP, hn]; (repeat refine vc ?_); refine c1 (by rw [hP, hT]; exact four_r Tm n.k) rfl rfl rfl trivial (by simp only [go_sem, hP, hn]; try trivial) (by simp only [go_sem, hP, hn]; try rfl) (by rw [hn]; decide) (by rfl) ?_; simp only [go_sem, hP, hn]; (repeat refine vc ?_); refine hK _ ?_; clear K hK
  (repeat (first | refine TS.imp ?_ | refine n9 (by decide) ?_))
  refine TR.imp ?_; intro K hK; simp only [go_sem, hP, hn]; (repeat refine vc ?_); refine hK _ ?_; clear K hK
  (repeat (first | refine TS.imp ?_ | refine n9 (by decide) ?_))
  refine Tr.cond rfl (fun h2 => ?_) (fun h2 => ?_)
  · rw [if_pos h2]
    (repeat (first | (refine TR.imp ?_; intro K hK; simp only [go_sem, hP, hn]; (repeat refine vc ?_); refine hK _ ?_; clear K hK) | refine TS.imp ?_ | refine n9 (by decide) ?_))
    simp only [RetQ, go_sem]
  · rw [if_neg (by rw [h2]; decide)]
    (repeat (first | (refine TR.imp ?_; intro K hK; simp only [go_sem, hP, hn]; (repeat refine vc ?_); refine hK _ ?_; clear K hK) | refine TS.imp ?_ | refine n9 (by decide) ?_))
    simp only [RetQ, go_sem]
theorem rRight_c {T : World → Prop} (Tm : TP T) (n : Nd) : Ct Go.Proofs.Tryd.prog T 115 [.agg n.cs] true (fun r => r = .d (.i .i64 n.rRight)) := by
  refine Ct_of Tm Go.Proofs.Tryd.func115 rfl rfl Go.Proofs.Tryd.ntmps115 (by simp) (rs := [.tmp 2]) rfl fun E hP hn hT => ?_
  unfold Nd.rRight
  (repeat (first | refine TS.imp ?_ | refine n9 (by decide) ?_))
  refine TR.imp ?_; intro K hK; simp only [go_sem, hP, hn]; (repeat refine vc ?_); refine hK _ ?_; clear K hK
  (repeat (first | refine TS.imp ?_ | refine n9 (by decide) ?_))
  refine TR.imp ?_; intro K hK; simp only [go_sem, hP, hn]; (repeat refine vc ?_); refine c1 (by rw [hP, hT]; exact four_r Tm n.k) rfl rfl rfl trivial (by simp only [go_sem, hP, hn]; try trivial) (by simp only [go_sem, hP, hn]; try rfl) (by rw [hn]; decide) (by rfl) ?_; simp only [go_sem, hP, hn]; (repeat refine vc ?_); refine hK _ ?_; clear K hK
  (repeat (first | refine TS.imp ?_ | refine n9 (by decide) ?_))
  refine TR.imp ?_; intro K hK; simp only [go_sem, hP, hn]; (repeat refine vc ?_); refine hK _ ?_; clear K hK
  (repeat (first | refine TS.imp ?_ | refine n9 (by decide) ?_))
  refine Tr.cond rfl (fun h2 => ?_) (fun h2 => ?_)
  · rw [if_pos h2]
    (repeat (first | (refine TR.imp ?_; intro K hK; simp only [go_sem, hP, hn]; (repeat refine vc ?_); refine hK _ ?_; clear K hK) | refine TS.imp ?_ | refine n9 (by decide) ?_))
    simp only [RetQ, go_sem]
  · rw [if_neg (by rw [h2]; decide)]
    (repeat (first | (refine TR.imp ?_; intro K hK; simp only [go_sem, hP, hn]; (repeat refine vc ?_); refine hK _ ?_; clear K hK) | refine TS.imp ?_ | refine n9 (by decide) ?_))
    simp only [RetQ, go_sem]
theorem mm_end {w l h : Int} (hw : -128 ≤ w ∧ w ≤ 128) (hl : in32 l) (hh : in32 h) (hlh : l ≤ h) : mn (wrap64 (w * l)) (wrap64 (w * h)) = (if w < 0 then wrap64 (w * h) else wrap64 (w * l)) ∧ mx (wrap64 (w * l)) (wrap64 (w * h)) = (if w < 0 then wrap64 (w * l) else wrap64 (w * h)) := by
  have mb : ∀ y : Int, in32 y → -274877906944 ≤ w * y ∧ w * y ≤ 274877906944 := fun y hy => by
    have : (w * y).natAbs ≤ 128 * 2147483648 := by rw [Int.natAbs_mul]; unfold in32 at hy; exact Nat.mul_le_mul (by omega) (by omega)
    omega
  have b1 := mb l hl
  have b2 := mb h hh
  rw [w64 (x := w * l) (by omega) (by omega), w64 (x := w * h) (by omega) (by omega)]
  unfold mn mx
  by_cases hw0 : w < 0
  · have : w * h ≤ w * l := Int.mul_le_mul_of_nonpos_left (by omega) hlh
    rw [if_pos hw0, if_pos hw0]
    refine ⟨?_, ?_⟩ <;> split <;> omega
  · have : w * l ≤ w * h := Int.mul_le_mul_of_nonneg_left hlh (by omega)
    rw [if_neg hw0, if_neg hw0]
    refine ⟨?_, ?_⟩ <;> split <;> omega
theorem wsC_at {n : Nd} {each : Nat} {c k : Int} (c0 : 0 ≤ c) (k0 : 0 ≤ k) (hk : k < each) : rd (wsC n each c) k = rd n.ws (c * each + k) := by
  have a0 : 0 ≤ c * (each : Int) := Int.mul_nonneg c0 (by omega)
  have a4 : (c + 1) * (each : Int) = c * each + each := by rw [Int.add_mul]; omega
  unfold wsC rd
  rw [List.getD_eq_getElem?_getD, List.getD_eq_getElem?_getD, List.getElem?_drop, List.getElem?_take, if_pos (by omega)]
  congr 2
  omega
/-- the ends of the first numbers, none at first -/
def accA (n : Nd) (l h : Int) (each : Nat) (c : Int) : Int × Int := if c = 0 then (0, 0) else aN n l h each c.toNat
theorem accA_step (n : Nd) (l h : Int) (each : Nat) {c : Int} (c0 : 0 ≤ c) : accA n l h each (c + 1) = (if (c == 0 || decide ((endV n l h each c).1 < (accA n l h each c).1)) = true then (endV n l h each c).1 else (accA n l h each c).1, if (c == 0 || decide ((accA n l h each c).2 < (endV n l h each c).2)) = true then (endV n l h each c).2 else (accA n l h each c).2) := by
  have hst : aN n l h each (c + 1).toNat = (mn (aN n l h each c.toNat).1 (endV n l h each c).1, mx (aN n l h each c.toNat).2 (endV n l h each c).2) := by
    rw [show (c + 1).toNat = c.toNat + 1 by omega]
    simp only [aN]
    rw [Int.toNat_of_nonneg c0]
  unfold accA
  rw [if_neg (by omega), hst]
  by_cases hc : c = 0
  · subst hc
    simp [aN, mn, mx]
  · have : (c == 0) = false := by simpa using hc
    rw [if_neg hc, this]
    simp only [Bool.false_or, decide_eq_true_eq]
    rfl
theorem rweighed20_c {T : World → Prop} (Tm : TP T) (n : Nd) (l h : Int) (each : Nat) (hB : BW n each) (hN : WN n) (h2 : (Go.bits .and .i64 n.post 2 == 2) = (Go.bits .and .i64 n.post 2 != 0)) (hl : in32 l) (hh : in32 h) (hlh : l ≤ h) : Cg Go.Proofs.Tryd.prog T 116 [] [.agg n.cs, .d (.i .i64 l), .d (.i .i64 h)] (fun r H => H = [] ∧ r = .agg (weighedR n l h each).cs) := by
  have hb0 := hB.b0
  have hd : Int.tdiv (n.ws.length : Int) n.bs.length = each := by
    rw [hB.ws]
    rw [Int.natCast_mul]
    exact Int.mul_tdiv_cancel_left _ (by omega)
  have he0 := hB.e0
  have hd2 : wrap64 (each : Int) = each := w64 (by omega) (by omega)
  refine Cg_of [] Tm Go.Proofs.Tryd.func116 rfl rfl Go.Proofs.Tryd.ntmps116 (by simp) rfl (rs := [.cell 6 61]) rfl fun E hP hn hT hpn => ?_
  (repeat (first | refine TS.imp ?_ | refine n9 (by decide) ?_))
  refine TR.imp ?_; intro K hK; simp only [go_sem, hP, hn]; (repeat refine vc ?_); refine hK _ ?_; clear K hK
  (repeat (first | refine TS.imp ?_ | refine n9 (by decide) ?_))
  refine TR.imp ?_; intro K hK; simp only [hd, hd2, go_sem, hP, hn]
  (repeat refine vc ?_)
  refine hK _ ?_; clear K hK
  (repeat (first | refine TS.imp ?_ | refine n9 (by decide) ?_))
  refine TR.imp ?_; intro K hK; simp only [go_sem, hP, hn]; (repeat refine vc ?_); refine hK _ ?_; clear K hK
  (repeat (first | refine TS.imp ?_ | refine n9 (by decide) ?_))
  refine TR.imp ?_; intro K hK; simp only [go_sem, hP, hn]; (repeat refine vc ?_); refine hK _ ?_; clear K hK
  (repeat (first | refine TS.imp ?_ | refine n9 (by decide) ?_))
  refine Tr.le (Le.keep [1, 2, 3, 6, 7, 8, 9]) ?_; simp only [List.map_cons, List.map_nil, lk, Nat.reduceEqDiff, reduceIte]
  refine Tr.loop (fun q s => ∃ (c : Int), s = ⟨[(1, .d (.i .i64 l)), (2, .d (.i .i64 h)), (3, .ptr 3 0), (6, .ptr 6 0), (7, .d (.i .i64 each)), (8, .ptr 8 0), (9, .d (.i .i64 c))], [(3, .box 27 n.cs), (6, .box 61 [.d (.i .i64 0), .d (.i .i64 0), .d (.i .i64 0), .d (.i .i64 0)]), (8, .box 61 [.d (.i .i64 0), .d (.i .i64 0), .d (.i .i64 (accA n l h each c).1), .d (.i .i64 (accA n l h each c).2)])]⟩ ∧ 0 ≤ c ∧ c + q = n.bs.length) n.bs.length ⟨_, (Le.mv (by simp only [go_sem, hP, hn]; first | done | (simp; done) | (simp [intC]; done) | (repeat (first | rfl | constructor))) (by simp only [go_sem, hP, hn]; first | done | (simp; done) | (simp [intC]; done) | (repeat (first | rfl | constructor)))), 0, rfl, by omega, by omega⟩ ?_
  rintro q s ⟨c, rfl, c0, cq⟩
  have hst := accA_step n l h each c0
  (repeat (first | refine TS.imp ?_ | refine n9 (by decide) ?_))
  refine TR.imp ?_; intro K hK; simp only [go_sem, hP, hn]; (repeat refine vc ?_); refine hK _ ?_; clear K hK
  (repeat (first | refine TS.imp ?_ | refine n9 (by decide) ?_))
  refine Tr.cond rfl (fun hb => ?_) (fun hb => ?_)
  · have hc : c < n.bs.length := by simpa using hb
    obtain ⟨o0, o1, o2, o3, o4⟩ := hB.off c0 hc
    have hw : wrap64 (c + 1) = c + 1 := w64 (by omega) (by omega)
    have g2 : wrap64 (c * each) = c * each := w64 (by omega) (by omega)
    have g3 : wrap64 ((c + 1) * each) = c * each + each := by rw [o1]; exact w64 (by omega) (by omega)
    clear hb
    generalize hac : accA n l h each c = ac at *
    (repeat (first | refine TS.imp ?_ | refine n9 (by decide) ?_))
    refine TR.imp ?_; intro K hK; simp only [go_sem, hP, hn]; (repeat refine vc ?_); refine hK _ ?_; clear K hK
    (repeat (first | refine TS.imp ?_ | refine n9 (by decide) ?_))
    refine TR.imp ?_; intro K hK; simp only [go_sem, hP, hn]; (repeat refine vc ?_); refine hK _ ?_; clear K hK
    (repeat (first | refine TS.imp ?_ | refine n9 (by decide) ?_))
    refine TR.imp ?_; intro K hK; simp only [g2, go_sem, hP, hn]; (repeat refine vc ?_); refine hK _ ?_; clear K hK
    generalize ho : c * (each : Int) = o at *
    (repeat (first | refine TS.imp ?_ | refine n9 (by decide) ?_))
    refine Tr.le (Le.keep [1, 2, 3, 6, 7, 8, 9, 10, 11, 12]) ?_; simp only [List.map_cons, List.map_nil, lk, Nat.reduceEqDiff, reduceIte]
    have hend : endV n l h each c = eN l h (wsC n each c) (rd n.bs c) each := rfl
    have hwk : ∀ k : Int, 0 ≤ k → k < each → rd (wsC n each c) k = rd n.ws (o + k) := fun k k0 hk => by rw [← ho]; exact wsC_at c0 k0 hk
    rw [hend] at hst
    clear hend
    generalize hb_ : rd n.bs c = b at *
    generalize wsC n each c = W at *
    refine Tr.loop (fun q s => ∃ (k : Int), s = ⟨[(1, .d (.i .i64 l)), (2, .d (.i .i64 h)), (3, .ptr 3 0), (6, .ptr 6 0), (7, .d (.i .i64 each)), (8, .ptr 8 0), (9, .d (.i .i64 c)), (10, .d (.i .i64 (eN l h W b k.toNat).1)), (11, .d (.i .i64 (eN l h W b k.toNat).2)), (12, .d (.i .i64 (o + k)))], [(3, .box 27 n.cs), (6, .box 61 [.d (.i .i64 0), .d (.i .i64 0), .d (.i .i64 0), .d (.i .i64 0)]), (8, .box 61 [.d (.i .i64 0), .d (.i .i64 0), .d (.i .i64 ac.1), .d (.i .i64 ac.2)])]⟩ ∧ 0 ≤ k ∧ k + q = each) each ⟨_, by rw [Int.add_zero]; exact (Le.mv (by simp only [go_sem, hP, hn]; first | done | (simp; done) | (simp [intC]; done) | (repeat (first | rfl | constructor))) (by simp only [go_sem, hP, hn]; first | done | (simp; done) | (simp [intC]; done) | (repeat (first | rfl | constructor)))), 0, rfl, by omega, by omega⟩ ?_
    rintro p s ⟨k, rfl, k0, kp⟩
    have hsk : eN l h W b (k + 1).toNat = if rd W k < 0 then (wrap64 ((eN l h W b k.toNat).1 + wrap64 (rd W k * h)), wrap64 ((eN l h W b k.toNat).2 + wrap64 (rd W k * l))) else (wrap64 ((eN l h W b k.toNat).1 + wrap64 (rd W k * l)), wrap64 ((eN l h W b k.toNat).2 + wrap64 (rd W k * h))) := by
      rw [show (k + 1).toNat = k.toNat + 1 by omega]
      simp only [eN]
      rw [Int.toNat_of_nonneg k0]
    generalize hen : eN l h W b k.toNat = en at *
    (repeat (first | refine TS.imp ?_ | refine n9 (by decide) ?_))
    refine TR.imp ?_; intro K hK; simp only [hw, g3, go_sem, hP, hn]; (repeat refine vc ?_); refine hK _ ?_; clear K hK
    (repeat (first | refine TS.imp ?_ | refine n9 (by decide) ?_))
    refine Tr.cond rfl (fun hb => ?_) (fun hb => ?_)
    · have hk : k < each := by
        have : o + k < o + each := by simpa using hb
        omega
      have hwk' := hwk k k0 hk
      have hv := all_rd' hN.ws (by decide) (by decide) (o + k)
      rw [← hwk'] at hv
      have hmm := mm_end (w := rd W k) (by omega) hl hh hlh
      have g5 : wrap64 (o + k + 1) = o + (k + 1) := by rw [w64 (by omega) (by omega)]; omega
      unfold mn mx at hmm
      clear hb
      generalize rd W k = v at *
      (repeat (first | refine TS.imp ?_ | refine n9 (by decide) ?_))
      refine TR.imp ?_; intro K hK; simp only [go_sem, hP, hn]
      rw [← hwk']
      (repeat refine vc ?_)
      refine hK _ ?_; clear K hK
      (repeat (first | refine TS.imp ?_ | refine n9 (by decide) ?_))
      refine TR.imp ?_; intro K hK; simp only [go_sem, hP, hn]
      rw [hmm.1]
      (repeat refine vc ?_)
      refine hK _ ?_; clear K hK
      (repeat (first | refine TS.imp ?_ | refine n9 (by decide) ?_))
      refine TR.imp ?_; intro K hK; simp only [go_sem, hP, hn]
      rw [hmm.2]
      (repeat refine vc ?_)
      refine hK _ ?_; clear K hK
      refine Tr.le (Le.keep [1, 2, 3, 6, 7, 8, 9, 10, 11, 12]) ?_; simp only [List.map_cons, List.map_nil, lk, Nat.reduceEqDiff, reduceIte]
      (repeat (first | refine TS.imp ?_ | refine n9 (by decide) ?_))
      refine TR.imp ?_; intro K hK; simp only [g5, go_sem, hP, hn]; (repeat refine vc ?_); refine hK _ ?_; clear K hK
      (repeat (first | refine TS.imp ?_ | refine n9 (by decide) ?_))
      refine ⟨p - 1, _, by omega, ?_, k + 1, rfl, by omega, by omega⟩
      rw [hsk]
      by_cases hv0 : v < 0
      · simp only [if_pos hv0]; exact (Le.mv (by simp only [go_sem, hP, hn]; first | done | (simp; done) | (simp [intC]; done) | (repeat (first | rfl | constructor))) (by simp only [go_sem, hP, hn]; first | done | (simp; done) | (simp [intC]; done) | (repeat (first | rfl | constructor))))
      · simp only [if_neg hv0]; exact (Le.mv (by simp only [go_sem, hP, hn]; first | done | (simp; done) | (simp [intC]; done) | (repeat (first | rfl | constructor))) (by simp only [go_sem, hP, hn]; first | done | (simp; done) | (simp [intC]; done) | (repeat (first | rfl | constructor))))
    · have hk : k.toNat = each := by
        have : ¬ o + k < o + each := by simpa using hb
        omega
      clear hb
      rw [hk] at hen
      rw [hen] at hst
      (repeat (first | refine TS.imp ?_ | refine n9 (by decide) ?_))
      refine Tr.le (Le.keep [1, 2, 3, 6, 7, 8, 9, 10, 11]) ?_; simp only [List.map_cons, List.map_nil, lk, Nat.reduceEqDiff, reduceIte]
      refine TR.imp ?_; intro K hK; simp only [go_sem, hP, hn]; (repeat refine vc ?_); refine hK _ ?_; clear K hK
      (repeat (first | refine TS.imp ?_ | refine n9 (by decide) ?_))
      refine Tr.cond rfl (fun hq => ?_) (fun hq => ?_)
      · (repeat (first | refine TS.imp ?_ | refine n9 (by decide) ?_))
        refine TR.imp ?_; intro K hK; simp only [go_sem, hP, hn]; (repeat refine vc ?_); refine hK _ ?_; clear K hK
        (repeat (first | refine TS.imp ?_ | refine n9 (by decide) ?_))
        refine TR.imp ?_; intro K hK; simp only [go_sem, hP, hn]; (repeat refine vc ?_); refine hK _ ?_; clear K hK
        (repeat (first | refine TS.imp ?_ | refine n9 (by decide) ?_))
        refine Tr.cond rfl (fun hr => ?_) (fun hr => ?_)
        · (repeat (first | refine TS.imp ?_ | refine n9 (by decide) ?_))
          refine TR.imp ?_; intro K hK; simp only [go_sem, hP, hn]; (repeat refine vc ?_); refine hK _ ?_; clear K hK
          (repeat (first | refine TS.imp ?_ | refine n9 (by decide) ?_))
          refine TR.imp ?_; intro K hK; simp only [go_sem, hP, hn]; (repeat refine vc ?_); refine hK _ ?_; clear K hK
          rw [hw]
          (repeat (first | refine TS.imp ?_ | refine n9 (by decide) ?_))
          refine ⟨q - 1, _, by omega, ?_, c + 1, rfl, by omega, by omega⟩
          rw [hst, if_pos hq, if_pos hr]
          exact (Le.mv (by simp only [go_sem, hP, hn]; first | done | (simp; done) | (simp [intC]; done) | (repeat (first | rfl | constructor))) (by simp only [go_sem, hP, hn]; first | done | (simp; done) | (simp [intC]; done) | (repeat (first | rfl | constructor))))
        · (repeat (first | refine TS.imp ?_ | refine n9 (by decide) ?_))
          refine TR.imp ?_; intro K hK; simp only [go_sem, hP, hn]; (repeat refine vc ?_); refine hK _ ?_; clear K hK
          rw [hw]
          (repeat (first | refine TS.imp ?_ | refine n9 (by decide) ?_))
          refine ⟨q - 1, _, by omega, ?_, c + 1, rfl, by omega, by omega⟩
          rw [hst, if_pos hq, if_neg (by rw [hr]; decide)]
          exact (Le.mv (by simp only [go_sem, hP, hn]; first | done | (simp; done) | (simp [intC]; done) | (repeat (first | rfl | constructor))) (by simp only [go_sem, hP, hn]; first | done | (simp; done) | (simp [intC]; done) | (repeat (first | rfl | constructor))))
      · (repeat (first | refine TS.imp ?_ | refine n9 (by decide) ?_))
        (repeat (first | refine TS.imp ?_ | refine n9 (by decide) ?_))
        refine TR.imp ?_; intro K hK; simp only [go_sem, hP, hn]; (repeat refine vc ?_); refine hK _ ?_; clear K hK
        (repeat (first | refine TS.imp ?_ | refine n9 (by decide) ?_))
        refine Tr.cond rfl (fun hr => ?_) (fun hr => ?_)
        · (repeat (first | refine TS.imp ?_ | refine n9 (by decide) ?_))
          refine TR.imp ?_; intro K hK; simp only [go_sem, hP, hn]; (repeat refine vc ?_); refine hK _ ?_; clear K hK
          (repeat (first | refine TS.imp ?_ | refine n9 (by decide) ?_))
          refine TR.imp ?_; intro K hK; simp only [go_sem, hP, hn]; (repeat refine vc ?_); refine hK _ ?_; clear K hK
          rw [hw]
          (repeat (first | refine TS.imp ?_ | refine n9 (by decide) ?_))
          refine ⟨q - 1, _, by omega, ?_, c + 1, rfl, by omega, by omega⟩
          rw [hst, if_neg (by rw [hq]; decide), if_pos hr]
          exact (Le.mv (by simp only [go_sem, hP, hn]; first | done | (simp; done) | (simp [intC]; done) | (repeat (first | rfl | constructor))) (by simp only [go_sem, hP, hn]; first | done | (simp; done) | (simp [intC]; done) | (repeat (first | rfl | constructor))))
        · (repeat (first | refine TS.imp ?_ | refine n9 (by decide) ?_))
          refine TR.imp ?_; intro K hK; simp only [go_sem, hP, hn]; (repeat refine vc ?_); refine hK _ ?_; clear K hK
          rw [hw]
          (repeat (first | refine TS.imp ?_ | refine n9 (by decide) ?_))
          refine ⟨q - 1, _, by omega, ?_, c + 1, rfl, by omega, by omega⟩
          rw [hst, if_neg (by rw [hq]; decide), if_neg (by rw [hr]; decide)]
          exact (Le.mv (by simp only [go_sem, hP, hn]; first | done | (simp; done) | (simp [intC]; done) | (repeat (first | rfl | constructor))) (by simp only [go_sem, hP, hn]; first | done | (simp; done) | (simp [intC]; done) | (repeat (first | rfl | constructor))))
  · have hc : c.toNat = n.bs.length := by
      have : ¬ c < n.bs.length := by simpa using hb
      omega
    clear hb
    have hac : accA n l h each c = aN n l h each n.bs.length := by
      unfold accA; rw [if_neg (by omega), hc]
    rw [hac]
    generalize hz : aN n l h each n.bs.length = z
    (repeat (first | refine TS.imp ?_ | refine n9 (by decide) ?_))
    refine Tr.le (Le.keep [3, 6, 8]) ?_; simp only [List.map_cons, List.map_nil, lk, Nat.reduceEqDiff, reduceIte]
    (repeat (first | refine TS.imp ?_ | refine n9 (by decide) ?_))
    refine TR.imp ?_; intro K hK; simp only [go_sem, hP, hn]; (repeat refine vc ?_); refine c1 (by rw [hP, hT]; exact post20_c Tm n z.1 h2) rfl rfl rfl trivial (by simp only [go_sem, hP, hn]; try trivial) (by simp only [go_sem, hP, hn]; try rfl) (by rw [hn]; decide) (by rfl) ?_; simp only [go_sem, hP, hn]; (repeat refine vc ?_); refine hK _ ?_; clear K hK
    (repeat (first | refine TS.imp ?_ | refine n9 (by decide) ?_))
    refine TR.imp ?_; intro K hK; simp only [go_sem, hP, hn]; (repeat refine vc ?_); refine c1 (by rw [hP, hT]; exact post20_c Tm n z.2 h2) rfl rfl rfl trivial (by simp only [go_sem, hP, hn]; try trivial) (by simp only [go_sem, hP, hn]; try rfl) (by rw [hn]; decide) (by rfl) ?_; simp only [go_sem, hP, hn]; (repeat refine vc ?_); refine hK _ ?_; clear K hK
    (repeat (first | (refine TR.imp ?_; intro K hK; simp only [go_sem, hP, hn]; (repeat refine vc ?_); refine hK _ ?_; clear K hK) | refine TS.imp ?_ | refine n9 (by decide) ?_))
    simp only [RetG, go_sem]; (repeat with_reducible refine vc ?_)
    unfold weighedR
    rw [hz]
end
end Go.Proofs.YtgijboakaodcgaaDoor.Aw
namespace Go.Proofs.YtgijboakaodcgaaDoor.Aw
open Go.RowKit
/-! where numbers stand in a right graph's order -/
structure OP (ns : List Nd) (o : List Int) : Prop where
  len : o.length = ns.length
  inj : ∀ p q : Int, 0 ≤ p → p < o.length → 0 ≤ q → q < o.length → rd o p = rd o q → p = q
  rng : ∀ p : Int, 0 ≤ p → p < o.length → 1 ≤ rd o p ∧ rd o p ≤ ns.length
  all : ∀ i : Int, 1 ≤ i → i ≤ ns.length → ∃ p : Int, 0 ≤ p ∧ p < o.length ∧ rd o p = i
  inn : ∀ p : Int, 0 ≤ p → p < o.length → ∀ j ∈ (nd ns (rd o p - 1)).inn, j = 0 ∨ ∃ q : Int, 0 ≤ q ∧ q < p ∧ rd o q = j
  least : ∀ p i : Int, 0 ≤ p → p < o.length → 1 ≤ i → i ≤ ns.length → (∀ q : Int, 0 ≤ q → q < p → rd o q ≠ i) → (∀ j ∈ (nd ns (i - 1)).inn, j = 0 ∨ ∃ q : Int, 0 ≤ q ∧ q < p ∧ rd o q = j) → rd o p ≤ i
theorem rd_get {l : List Int} {p : Int} (h0 : 0 ≤ p) (h1 : p < l.length) : l[p.toNat]? = some (rd l p) := by
  unfold rd
  rw [List.getD_eq_getElem?_getD, List.getElem?_eq_getElem (by omega)]; rfl
theorem mem_take_rd {l : List Int} {p x : Int} (h0 : 0 ≤ p) (h1 : p ≤ l.length) : x ∈ l.take p.toNat ↔ ∃ q : Int, 0 ≤ q ∧ q < p ∧ rd l q = x := by
  constructor
  · intro h
    obtain ⟨k, hk, e⟩ := List.getElem_of_mem h
    rw [List.length_take] at hk
    refine ⟨k, by omega, by omega, ?_⟩
    rw [List.getElem_take] at e
    unfold rd
    rw [Int.toNat_natCast, List.getD_eq_getElem?_getD, List.getElem?_eq_getElem (by omega), Option.getD_some]
    exact e
  · rintro ⟨q, hq0, hq1, rfl⟩
    have := rd_get hq0 (show q < l.length by omega)
    exact List.mem_of_getElem? (i := q.toNat) (by rw [List.getElem?_take, if_pos (by omega)]; exact this)
theorem split_rd {l : List Int} {p : Int} (h0 : 0 ≤ p) (h1 : p < l.length) : l = l.take p.toNat ++ rd l p :: l.drop (p + 1).toNat := by
  rw [← drop_rd h0 h1, List.take_append_drop]
theorem GG.op {wd : Int} {ns : List Nd} {W R : Int → Int} {rk : Int → Nat} (h : GG wd ns W R rk) : OP ns (order ns) := by
  have hl := h.order_len
  have hnd := order_nodup ns
  have htop : ∀ p : Int, 0 ≤ p → p < (order ns).length → _ := fun p h0 h1 => order_top ns _ _ _ (split_rd h0 h1)
  refine ⟨hl, fun p q p0 p1 q0 q1 e => ?_, fun p p0 p1 => ?_, fun i i1 i2 => ?_, fun p p0 p1 j hj => ?_, fun p i p0 p1 i1 i2 hq hj => ?_⟩
  · have e1 := rd_get p0 p1
    have e2 := rd_get q0 q1
    rw [e] at e1
    have := (List.getElem?_inj (by omega) hnd).1 (e1.trans e2.symm)
    omega
  · have := htop p p0 p1
    omega
  · have := h.mem_order i i1 i2
    rw [← List.take_length (l := order ns)] at this
    have h2 := (mem_take_rd (l := order ns) (p := (order ns).length) (by omega) (by omega)).1 (by simpa using this)
    exact h2
  · have := (mayO_iff.1 (htop p p0 p1).1).2 j hj
    rcases this with h1 | h1
    · exact .inl h1
    · exact .inr ((mem_take_rd p0 (by omega)).1 h1)
  · refine (htop p p0 p1).2.1 i i1 i2 (mayO_iff.2 ⟨fun hm => ?_, fun j hm => ?_⟩)
    · obtain ⟨q, q0, q1, e⟩ := (mem_take_rd p0 (by omega)).1 hm
      exact hq q q0 q1 e
    · rcases hj j hm with h1 | h1
      · exact .inl h1
      · exact .inr ((mem_take_rd p0 (by omega)).2 h1)
/-! what is told of a right graph's nodes -/
structure ToldN (n : Nd) (W R : List Int) (i : Int) : Prop where
  l1 : 1 ≤ n.inn.length
  l2 : n.inn.length ≤ 2
  inn : ∀ j ∈ n.inn, 0 ≤ j ∧ j < W.length ∧ j < R.length
  wd : rd W i = n.wide (n.inn.map (rd W))
  w1 : 1 ≤ rd W i ∧ rd W i ≤ 16
  rt : rd R i = if (n.k == 5) = true then 0 else wrap64 (rd R (rd n.inn 0) * n.stp)
  same : ∀ j ∈ n.inn, rd R j = rd R (rd n.inn 0)
  wl : n.ws.length ≤ 4096
  bl : n.bs.length ≤ 4096
theorem GG.told {wd : Int} {ns : List Nd} {W R : Int → Int} {rk : Int → Nat} (h : GG wd ns W R rk) {W2 R2 : List Int} (hW : W2.length = ns.length + 1) (hR : R2.length = ns.length + 1) (hx : ∀ x : Int, 0 ≤ x → x ≤ ns.length → rd W2 x = W x ∧ rd R2 x = R x) (i : Int) (i1 : 1 ≤ i) (i2 : i ≤ ns.length) : ToldN (nd ns (i - 1)) W2 R2 i := by
  have hN := (h.node i i1 i2).1
  generalize nd ns (i - 1) = n at hN ⊢
  have e1 : n.inn.map (rd W2) = n.inn.map W := List.map_congr_left fun j hj => by have := hN.inn j hj; exact (hx j this.1 this.2.1).1
  have h0m : rd n.inn 0 ∈ n.inn := rd_mem (by omega) (by have := hN.l1; omega)
  have hRj : ∀ j ∈ n.inn, rd R2 j = R j := fun j hj => by have := hN.inn j hj; exact (hx j this.1 this.2.1).2
  have hr0 : rd (n.inn.map R) 0 = R (rd n.inn 0) := rd_map hN.l1
  have hb := both_eq n (n.inn.map W)
  unfold Nd.both at hb
  simp only [Bool.and_eq_true, beq_iff_eq] at hb
  refine ⟨hN.l1, hN.l2, fun j hj => by have := hN.inn j hj; omega, by rw [(hx i (by omega) i2).1, e1, hN.wd, hb.2], by rw [(hx i (by omega) i2).1, hN.wd]; exact rwide_pos hN.chk, ?_, fun j hj => by rw [hRj j hj, hRj _ h0m]; exact hN.same j hj _ h0m, hN.wl, hN.bl⟩
  rw [(hx i (by omega) i2).2, hN.rt, hRj _ h0m, stp_eqW]
  have ha : (n.inn.map R).all (· == rd (n.inn.map R) 0) = true := List.all_eq_true.2 fun x hx => by
    simp only [List.mem_map] at hx
    obtain ⟨j, hj, rfl⟩ := hx
    rw [hr0]; simpa using hN.same j hj _ h0m
  have hz2 : (rd (n.inn.map R) 0 == 0 && (rWin n.k || n.k == 5)) = false := by
    rw [hr0]
    cases e : (R (rd n.inn 0) == 0) with
    | false => rfl
    | true =>
      have := hN.still _ h0m (by simpa using e)
      rw [this.1, show (n.k == 5) = false by simpa using this.2]; rfl
  unfold Nd.rate
  rw [ha, hz2, hr0]
  simp only [Bool.true_eq_false, Bool.false_eq_true, if_false]
/-! numbers that are changed round -/
def turnR (N b : Int) (n : Nd) : Nd := { n with inn := n.inn.map fun x => if 0 < x then (x - 1 + b) % N + 1 else x }
def hsL (b : Int) (ns : List Nd) : List Nd := (List.range ns.length).map fun (k : Nat) => turnR ns.length b (nd ns (((k : Int) - b) % ns.length))
theorem hsL_len (b : Int) (ns : List Nd) : (hsL b ns).length = ns.length := by simp [hsL]
theorem hsL_nd {b : Int} {ns : List Nd} {k : Int} (h0 : 0 ≤ k) (h1 : k < ns.length) : nd (hsL b ns) k = turnR ns.length b (nd ns ((k - b) % ns.length)) := by
  have hk : k.toNat < ns.length := by omega
  unfold hsL
  unfold nd
  rw [List.getD_eq_getElem?_getD, List.getElem?_map, List.getElem?_range hk]
  simp only [Option.map_some, Option.getD_some]
  rw [show ((k.toNat : Nat) : Int) = k by omega]
theorem round_back {N b i : Int} (hN : 0 < N) (h0 : 0 ≤ i) (h1 : i < N) : ((i + b) % N - b) % N = i := by
  rw [Int.emod_sub_emod, show i + b - b = i by omega, Int.emod_eq_of_lt h0 h1]
theorem GG.turn {wd : Int} {ns : List Nd} {W R : Int → Int} {rk : Int → Nat} (h : GG wd ns W R rk) (hN : 0 < ns.length) (b : Int) : GG wd (hsL b ns) (fun i => W (if 0 < i then (i - 1 - b) % ns.length + 1 else i)) (fun i => R (if 0 < i then (i - 1 - b) % ns.length + 1 else i)) (fun i => rk (if 0 < i then (i - 1 - b) % ns.length + 1 else i)) := by
  have hN' : (0 : Int) < ns.length := by omega
  refine h.ren _ (fun x => if 0 < x then (x - 1 + b) % ns.length + 1 else x) _ (hsL_len b ns) rfl (fun j j0 j1 => ?_) (fun i i1 i2 => ?_) (fun i i1 i2 => ?_)
  · by_cases hj : 0 < j
    · have h2 := Int.emod_nonneg (j - 1 + b) (show (ns.length : Int) ≠ 0 by omega)
      have h3 := Int.emod_lt_of_pos (j - 1 + b) hN'
      simp only [if_pos hj]
      rw [if_pos (by omega), show (j - 1 + b) % (ns.length : Int) + 1 - 1 - b = (j - 1 + b) % (ns.length : Int) - b by omega, round_back hN' (by omega) (by omega)]
      omega
    · simp only [if_neg hj]
      exact ⟨j0, j1, by first | rfl | trivial⟩
  · have h2 := Int.emod_nonneg (i - 1 - b) (show (ns.length : Int) ≠ 0 by omega)
    have h3 := Int.emod_lt_of_pos (i - 1 - b) hN'
    rw [if_pos (by omega)]
    omega
  · rw [hsL_nd (by omega) (by omega)]
    simp only [if_pos (show 0 < i by omega)]
    rw [show (i - 1 - b) % (ns.length : Int) + 1 - 1 = (i - 1 - b) % (ns.length : Int) by omega]
    rfl
theorem mayG_of {wd lo hi out : Int} {ns : List Nd} (h1 : 1 ≤ ns.length ∧ ns.length ≤ 12) (h2 : 1 ≤ wd ∧ wd ≤ 16) (h3 : lo ≤ hi ∧ -32768 ≤ lo ∧ hi ≤ 32767) (h4 : 1 ≤ out ∧ out ≤ ns.length) (h5 : ∀ n ∈ ns, ∀ j ∈ n.inn, 0 ≤ j ∧ j ≤ ns.length) : mayG wd lo hi out ns = 0 := by
  unfold mayG
  rw [if_neg (by simp; omega), if_neg, if_pos]
  · exact List.all_eq_true.2 fun n hm => List.all_eq_true.2 fun j hj => inB_iff.2 (h5 n hm j hj)
  · unfold mayQ
    simp only [Bool.or_eq_true, decide_eq_true_eq]
    omega
set_option maxRecDepth 100000
/-! graphs that are made, and their ends -/
theorem rchk_sz {n : Nd} {l : List Int} (h : n.rchk l = 0) : (1 ≤ rd l 0 ∧ rd l 0 ≤ 16) ∧ n.else0 = true ∧ n.sized (rd l 0) = true := by
  obtain ⟨h1, h7, h9, he, hs, _⟩ := rchk_unpack h
  have hall := chk1_all h1
  have hl : 1 ≤ l.length := by
    cases l with
    | nil => rw [Nd.r7_nil] at h7; cases h7
    | cons x l => simp
  exact ⟨hall _ (rd_mem (by decide) (by omega)), he, hs⟩
theorem WN.of {n : Nd} {v : Int} (he : n.else0 = true) (hs : n.sized v = true) : WN n := by
  have e8 : n.e8 = false := by
    unfold Nd.else0 at he
    cases e : n.e8 with
    | false => rfl
    | true => rw [e] at he; simp at he
  have e10 : n.e10 = false := by
    unfold Nd.else0 at he
    cases e : n.e10 with
    | false => rfl
    | true => rw [e] at he; simp at he
  have h4 : n.s4 = false := by
    unfold Nd.sized at hs
    cases e : n.s4 with
    | false => rfl
    | true => rw [e] at hs; simp at hs
  have h27 : n.s27 = true := by
    unfold Nd.sized at hs
    repeat' (split at hs <;> try (cases hs; done))
    all_goals exact hs
  have hsz : 0 ≤ n.size ∧ n.size ≤ 8 := by
    unfold Nd.s4 at h4
    unfold Nd.e8 at e8
    cases hq : (rFour n.k || n.k == 12) with
    | true =>
      rw [hq] at h4
      have := inB_iff.1 (show inB n.size 1 8 = true by simpa using h4)
      omega
    | false =>
      simp only [Bool.or_eq_false_iff, beq_eq_false_iff_ne] at hq
      simp [hq.1, hq.2] at e8
      omega
  cases hw : rWeighs n.k with
  | false =>
    unfold Nd.e10 at e10
    rw [hw] at e10
    simp at e10
    exact ⟨h27, by rw [e10.1]; rfl, by rw [e10.2]; rfl, hsz⟩
  | true =>
    have h21 : n.s21 v (if (n.k == 2) = true then v else n.wid) = false := by
      unfold Nd.sized at hs
      rw [if_pos hw] at hs
      cases e : n.s21 v (if (n.k == 2) = true then v else n.wid) with
      | false => rfl
      | true => rw [e] at hs; simp at hs
    unfold Nd.s21 at h21
    simp only [Bool.or_eq_false_iff, Bool.not_eq_false'] at h21
    exact ⟨h27, h21.1.2, h21.2, hsz⟩
theorem BW.of {n : Nd} {v : Int} (hv : 1 ≤ v ∧ v ≤ 16) (hs : n.sized v = true) (hw : rWeighs n.k = true) : BW n (eachW n) := by
  unfold Nd.sized at hs
  rw [if_pos hw] at hs
  have hc : n.k = 1 ∨ n.k = 2 ∨ n.k = 6 := by unfold rWeighs at hw; simpa [or_assoc] using hw
  have h4 : n.s4 = false := by
    cases e : n.s4 with
    | false => rfl
    | true => rw [e] at hs; simp at hs
  have h13 : n.s13 = false := by
    cases e : n.s13 with
    | false => rfl
    | true => rw [e] at hs; simp at hs
  have h21 : n.s21 v (if (n.k == 2) = true then v else n.wid) = false := by
    cases e : n.s21 v (if (n.k == 2) = true then v else n.wid) with
    | false => rfl
    | true => rw [e] at hs; simp at hs
  unfold Nd.s21 at h21
  simp only [Bool.or_eq_false_iff, bne_eq_false_iff_eq] at h21
  obtain ⟨⟨⟨hW, hB⟩, _⟩, _⟩ := h21
  have hsz : rFour n.k = true → 1 ≤ n.size ∧ n.size ≤ 8 := by
    intro e; unfold Nd.s4 at h4; rw [e] at h4
    simp at h4
    exact inB_iff.mp h4
  have hwd : (n.k = 1 ∨ n.k = 6) → 1 ≤ n.wid ∧ n.wid ≤ 16 := by
    intro e; unfold Nd.s13 at h13
    have : (n.k == 1 || n.k == 6) = true := by simpa using e
    rw [this] at h13; simp at h13
    exact inB_iff.mp h13
  have fin : ∀ e : Nat, e ≤ 4096 → 1 ≤ n.bs.length ∧ n.bs.length ≤ 16 → (n.ws.length : Int) = n.bs.length * e → BW n (eachW n) := fun e he hb hq => by
    have hq2 : n.ws.length = n.bs.length * e := by exact_mod_cast hq
    have : eachW n = e := by unfold eachW; rw [hq2]; exact Nat.mul_div_cancel_left _ (by omega)
    rw [this]
    exact ⟨hb, hq2, he⟩
  unfold Nd.rWeights at hW
  rcases hc with hk | hk | hk
  · have s1 := hsz (by rw [hk]; rfl)
    have d1 := hwd (.inl hk)
    rw [hk] at hW hB
    simp at hW hB
    have m1 := mul_le n.wid 16 n.size 8 (by omega) d1.2 (by omega) s1.2
    have m2 := mul_le (n.wid * n.size) 128 v 16 m1.1 m1.2 (by omega) (by omega)
    have m3 := mul_le n.size 8 v 16 (by omega) s1.2 (by omega) hv.2
    rw [w64 (x := n.wid * n.size) (by omega) (by omega), w64 (by omega) (by omega)] at hW
    refine fin (n.size * v).toNat (by omega) (by omega) ?_
    rw [Int.toNat_of_nonneg m3.1, hW, hB, Int.mul_assoc]
  · have s1 := hsz (by rw [hk]; rfl)
    rw [hk] at hW hB
    simp at hW hB
    have m1 := mul_le v 16 n.size 8 (by omega) (by omega) (by omega) s1.2
    rw [w64 (by omega) (by omega)] at hW
    refine fin n.size.toNat (by omega) (by omega) ?_
    rw [Int.toNat_of_nonneg (by omega), hW, hB]
  · have d1 := hwd (.inr hk)
    rw [hk] at hW hB
    simp at hW hB
    have m1 := mul_le n.wid 16 v 16 (by omega) d1.2 (by omega) (by omega)
    rw [w64 (by omega) (by omega)] at hW
    refine fin v.toNat (by omega) (by omega) ?_
    rw [Int.toNat_of_nonneg (by omega), hW, hB]
theorem gg_lg {wd lo hi out : Int} {ns : List Nd} {W R : Int → Int} {rk : Int → Nat} (h : GG wd ns W R rk) (hwd : 1 ≤ wd ∧ wd ≤ 16) (hm : mayG wd lo hi out ns = 0) (h32 : in32 lo ∧ in32 hi) :
    ∃ W2 R2, lookG wd lo hi out ns = (0, order ns, W2, R2) ∧ LG lo hi ns (order ns) W2 ∧ (∀ x ∈ W2, 1 ≤ x) ∧ ∀ i ∈ order ns, WN (nd ns (i - 1)) := by
  obtain ⟨W2, R2, e, hl, _, hx⟩ := h.lookG hm
  have hor : ∀ x ∈ order ns, 1 ≤ x ∧ x ≤ ns.length := ordR_range (by simp)
  have hW : ∀ x ∈ W2, 1 ≤ x ∧ x ≤ 16 := fun x hxm => by
    obtain ⟨i, hi, rfl⟩ := List.mem_iff_getElem.1 hxm
    have e1 : rd W2 (i : Nat) = W2[i] := by simp [rd, List.getD_eq_getElem?_getD, hi]
    rw [← e1, (hx i (by omega) (by omega)).1]
    rcases Nat.eq_zero_or_pos i with rfl | hp
    · rw [show ((0 : Nat) : Int) = 0 from rfl, h.W0]; exact hwd
    · have hn := (h.node i (by omega) (by omega)).1
      rw [hn.wd]
      exact rwide_pos hn.chk
  refine ⟨W2, R2, e, ⟨h32, hl, fun x hx => by have := hW x hx; omega, fun i hi => ⟨hor i hi, ?_⟩, ?_⟩, fun x hx => (hW x hx).1, fun i hi => ?_⟩
  · have hn := (h.node i (hor i hi).1 (hor i hi).2).1
    obtain ⟨a, b, c⟩ := rchk_sz hn.chk
    exact ⟨⟨hn.l1, by have := hn.l2; omega⟩, fun j hj => by have := hn.inn j hj; omega, BW.of a c, (WN.of b c).s27⟩
  · have := (mayG_ok hm).2.1
    rw [h.order_len]; omega
  · have hn := (h.node i (hor i hi).1 (hor i hi).2).1
    obtain ⟨a, b, c⟩ := rchk_sz hn.chk
    exact WN.of b c
theorem WL.rep : ∀ m : Nat, WL (List.replicate m ⟨0, 0, 0, 0⟩) (List.replicate m ⟨0, 0, 0, 0⟩)
  | 0 => trivial
  | m + 1 => ⟨⟨by decide, by decide, by decide, by decide, by decide, by decide⟩, WL.rep m⟩
set_option maxRecDepth 100000
/-! a graph that look finds right, whichever it is -/
theorem both_wide (n : Nd) (l : List Int) : n.chk l = n.rchk l ∧ n.wide l = n.rwide l := by
  have := both_eq n l
  unfold Nd.both at this
  simpa using this
theorem lookL_pos (ns : List Nd) : ∀ (r W R : List Int), (∀ i ∈ r, 1 ≤ i) → (lookL ns r W R).1 = 0 → ∀ j : Int, 0 ≤ j → 1 ≤ rd W j → 1 ≤ rd (lookL ns r W R).2.1 j
  | [], W, R, _, _, j, _, h => h
  | i :: r, W, R, hr, h0, j, j0, h => by
    simp only [lookL] at h0 ⊢
    split at h0
    · rename_i hc; simp only at h0; rw [h0] at hc; cases hc
    rename_i hc
    rw [if_neg hc]
    split at h0
    · cases h0
    rename_i hg
    rw [if_neg hg]
    refine lookL_pos ns r _ _ (fun x hx => hr x (List.mem_cons_of_mem _ hx)) h0 j j0 ?_
    have hc0 : (nd ns (i - 1)).chk ((nd ns (i - 1)).inn.map (rd W)) = 0 := by simpa using hc
    obtain ⟨e1, e2⟩ := both_wide (nd ns (i - 1)) ((nd ns (i - 1)).inn.map (rd W))
    rw [e1] at hc0
    have := rwide_pos hc0
    rw [e2]
    generalize (nd ns (i - 1)).rwide ((nd ns (i - 1)).inn.map (rd W)) = v at this ⊢
    unfold rd
    rw [List.getD_eq_getElem?_getD, List.getElem?_set]
    split
    · split
      · simpa using this.1
      · unfold rd at h
        rename_i h1 h2
        rw [List.getD_eq_getElem?_getD, List.getElem?_eq_none (by omega)] at h
        simp at h
    · unfold rd at h; rwa [List.getD_eq_getElem?_getD] at h
theorem lookL_ok (ns : List Nd) (hm : ∀ n ∈ ns, ∀ j ∈ n.inn, 0 ≤ j ∧ j ≤ (ns.length : Int)) : ∀ (r W R : List Int), (∀ i ∈ r, 1 ≤ i ∧ i ≤ ns.length) → (∀ x ∈ W, 0 ≤ x ∧ x ≤ 16) → W.length = ns.length + 1 → (lookL ns r W R).1 = 0 →
    (lookL ns r W R).2.1.length = ns.length + 1 ∧ (∀ x ∈ (lookL ns r W R).2.1, 0 ≤ x ∧ x ≤ 16) ∧ ∀ i ∈ r, NG ns.length (nd ns (i - 1)) ∧ WN (nd ns (i - 1)) ∧ (0 ≤ (nd ns (i - 1)).post ∧ (nd ns (i - 1)).post ≤ 3) ∧ 1 ≤ rd (lookL ns r W R).2.1 (rd (nd ns (i - 1)).inn 0)
  | [], W, R, _, hW, hl, _ => ⟨hl, hW, fun i hi => by cases hi⟩
  | i :: r, W, R, hr, hW, hl, h0 => by
    have hi := hr i (List.mem_cons_self ..)
    have hpos := lookL_pos ns (i :: r) W R (fun x hx => (hr x hx).1) h0
    have hin := hm _ (nd_mem (ns := ns) (i := i - 1) (by omega) (by omega))
    simp only [lookL] at h0 hpos ⊢
    split at h0
    · rename_i hc; simp only at h0; rw [h0] at hc; cases hc
    rename_i hc
    rw [if_neg hc] at hpos ⊢
    split at h0
    · cases h0
    rename_i hg
    rw [if_neg hg] at hpos ⊢
    have hc0 : (nd ns (i - 1)).chk ((nd ns (i - 1)).inn.map (rd W)) = 0 := by simpa using hc
    obtain ⟨e1, e2⟩ := both_wide (nd ns (i - 1)) ((nd ns (i - 1)).inn.map (rd W))
    rw [e1] at hc0
    have hw := rwide_pos hc0
    rw [← e2] at hw
    obtain ⟨a1, a2, a3⟩ := lookL_ok ns hm r (W.set i.toNat ((nd ns (i - 1)).wide ((nd ns (i - 1)).inn.map (rd W)))) (R.set i.toNat ((nd ns (i - 1)).grate ((nd ns (i - 1)).inn.map (rd R))).1) (fun x hx => hr x (List.mem_cons_of_mem _ hx)) (fun x hx => by
      rcases List.mem_or_eq_of_mem_set hx with h | h
      · exact hW x h
      · rw [h]; omega) (by simpa using hl) h0
    refine ⟨a1, a2, fun j hj => ?_⟩
    rcases List.mem_cons.1 hj with rfl | hj
    · obtain ⟨b, c, d⟩ := rchk_sz hc0
      obtain ⟨q1, q7, q9, _, _, _⟩ := rchk_unpack hc0
      have hil : 1 ≤ (nd ns (j - 1)).inn.length ∧ (nd ns (j - 1)).inn.length ≤ 4 := by
        unfold Nd.r7 at q7
        simp only [Bool.or_eq_false_iff, Bool.and_eq_false_iff, decide_eq_false_iff_not, List.length_map] at q7
        cases e : rMany (nd ns (j - 1)).k with
        | true => rw [e] at q7; simp at q7; omega
        | false => rw [e] at q7; simp at q7; omega
      have hpost : 0 ≤ (nd ns (j - 1)).post ∧ (nd ns (j - 1)).post ≤ 3 := by
        unfold Nd.r9 at q9
        simp only [Bool.or_eq_false_iff, decide_eq_false_iff_not] at q9
        omega
      refine ⟨⟨hil, hin, BW.of b d, (WN.of c d).s27⟩, WN.of c d, hpost, ?_⟩
      have h0m := rd_mem (l := (nd ns (j - 1)).inn) (j := 0) (by decide) (by omega)
      refine hpos _ (hin _ h0m).1 ?_
      exact (chk1_all q1 _ (List.mem_map.2 ⟨_, h0m, rfl⟩)).1
    · exact a3 j hj
structure LR (lo hi out : Int) (ns : List Nd) (os W : List Int) : Prop where
  lg : LG lo hi ns os W
  le : lo ≤ hi
  n12 : 1 ≤ ns.length ∧ ns.length ≤ 12
  out : 1 ≤ out ∧ out ≤ ns.length
  node : ∀ i ∈ os, WN (nd ns (i - 1)) ∧ (0 ≤ (nd ns (i - 1)).post ∧ (nd ns (i - 1)).post ≤ 3) ∧ 1 ≤ rd W (rd (nd ns (i - 1)).inn 0)
theorem look_lr {wd lo hi out : Int} {ns : List Nd} (h : (lookG wd lo hi out ns).1 = 0) : LR lo hi out ns (lookG wd lo hi out ns).2.1 (lookG wd lo hi out ns).2.2.1 := by
  unfold lookG at h ⊢
  split at h
  · rename_i hm; simp only at h; rw [h] at hm; cases hm
  rename_i hm
  rw [if_neg hm]
  have hm0 : mayG wd lo hi out ns = 0 := by simpa using hm
  obtain ⟨n1, n2, hin⟩ := mayG_ok hm0
  have hq : mayQ wd lo hi out ns.length = false := by
    unfold mayG at hm0
    rw [if_neg (by simp; omega)] at hm0
    cases e : mayQ wd lo hi out ns.length with
    | false => rfl
    | true => rw [e] at hm0; cases hm0
  unfold mayQ at hq
  simp only [Bool.or_eq_false_iff, decide_eq_false_iff_not] at hq
  split at h
  · cases h
  rename_i ho
  rw [if_neg ho]
  have hor : ∀ x ∈ order ns, 1 ≤ x ∧ x ≤ ns.length := ordR_range (by simp)
  have hol := (ordR_length (ns := ns) ns.length []).2
  have hk := lookL_ok ns hin (order ns) (wd :: List.replicate ns.length 0) (1 :: List.replicate ns.length 0) hor (fun x hx => by
    rcases List.mem_cons.1 hx with rfl | hx
    · omega
    · have := List.eq_of_mem_replicate hx; omega) (by simp)
  generalize lookL ns (order ns) (wd :: List.replicate ns.length 0) (1 :: List.replicate ns.length 0) = X at *
  obtain ⟨e, W, R⟩ := X
  simp only at h hk ⊢
  split at h
  · rename_i he; simp only at h; rw [h] at he; cases he
  rename_i he
  rw [if_neg he]
  have he0 : e = 0 := by simpa using he
  obtain ⟨a1, a2, a3⟩ := hk he0
  simp only [List.length_nil, Nat.zero_add] at hol
  exact ⟨⟨⟨by unfold in32; omega, by unfold in32; omega⟩, a1, a2, fun i hi => ⟨hor i hi, (a3 i hi).1⟩, by show (order ns).length ≤ 65536; unfold order; omega⟩, by omega, ⟨n1, n2⟩, by omega, fun i hi => (a3 i hi).2⟩
end Go.Proofs.YtgijboakaodcgaaDoor.Aw
namespace Go.Proofs.YtgijboakaodcgaaDoor.Aw
open Go.RowKit
attribute [local go_sem_proc] Nat.reduceAdd Nat.reduceMul Nat.reduceSub Nat.reduceEqDiff Nat.reduceLeDiff Nat.reduceBEq Nat.reduceBNe Int.reduceToNat reduceIte reduceCtorEq
attribute [local go_sem] initT SQ so pe he ev lk constS stp stc gdS nth pickS pickD loadS cellsAt okAt fieldAddrS fieldS partS indexAddrS indexS extractS binS binD binI isShift unS convS lenS sliceS bndI bndC mmS mm2 mmD builtS fillS okCells cellsS splS solid aliveL alive okS boxS allocS makeS bsliceS elemsOf dcells stF storeS frzA frz frzT frzS frzL frzO frzH appS srcS appVC killS killT killC killH killO k1 k2 S.has S.hasL St.add St.upd dropH lh cond_or cond_and rw_intC rw_intC0 rw_set rw_app rw_apps rw_rep rw_slice wr64 cond_true cond_false true_and and_true List.map_cons List.map_nil List.length_cons List.length_nil List.drop_succ_cons List.drop_zero List.take_succ_cons List.take_zero List.nil_append List.cons_append List.getD_cons_zero List.getD_cons_succ List.headD_cons List.length_map ite_true ite_false if_true if_false Bool.false_eq_true and_self forall_const List.drop_nil List.take_nil List.append_nil Option.map_some Option.map_none List.mapM_cons List.mapM_nil Option.bind_eq_bind Option.bind_some Option.pure_def knows resL resV oneS freshS freshL cv cvL stpL stcL or_true true_or or_false false_or List.all_cons List.all_nil Bool.and_self Bool.or_self Bool.true_and Bool.and_true Bool.or_false Bool.false_or implies_true flatD allm_nil allm_cons List.getElem?_cons_zero List.getElem?_cons_succ Nd.cs Nd.ds ml mln Option.isSome_some Option.isSome_none eq_self Int.toNat_natCast AP ldOk isLd inL subL crt chg chgS chgP idxs aliveW Option.toList_some Option.toList_none Option.toList RetG Nd.win frzA offK keepH aliveK nkH closedH closedO keysK inH St.upd rowO List.contains_cons List.contains_nil Bool.or_self Option.isNone_none Option.isNone_some Bool.not_true Bool.not_false gcs rowN e0N frzC
attribute [local go_sem] sz2 ag2 ok2 kk2 iu2 zc2 zd2 by2 sz3 ag3 ok3 kk3 iu3 zc3 zd3 by3 sz4 ag4 ok4 bo4 zc4 zd4 by4 sz5 ag5 ok5 kk5 iu5 zc5 zd5 by5 sz9 ag9 ok9 st9 zc9 zd9 by9 sz12 ag12 ok12 kk12 iu12 zc12 zd12 by12 sz15 ag15 ok15 zc15 by15 sz16 ag16 ok16 zc16 by16 sz21 ag21 ok21 kk21 iu21 zc21 zd21 by21 sz22 ag22 ok22 sl22 zc22 zd22 by22 sz23 ag23 ok23 zc23 zd23 pl23 by23 fl23_0 fl23_1 fl23_2 fl23_3 fl23_4 fl23_5 sz24 ag24 ok24 zc24 zd24 pl24 by24 fl24_0 fl24_1 fl24_2 fl24_3 fl24_4 fl24_5 sz26 ag26 ok26 zc26 zd26 pl26 by26 fl26_0 fl26_1 fl26_2 fl26_3 fl26_4 fl26_5 fl26_6 fl26_7 fl26_8 fl26_9 fl26_10 fl26_11 fl26_12 fl26_13 fl26_14 sz27 ag27 ok27 zc27 zd27 pl27 by27 fl27_0 fl27_1 fl27_2 fl27_3 fl27_4 fl27_5 fl27_6 fl27_7 fl27_8 fl27_9 fl27_10 fl27_11 fl27_12 fl27_13 fl27_14 sz28 ag28 ok28 sl28 zc28 zd28 by28 sz38 ag38 ok38 sl38 ar38 zc38 zd38 pl38 by38 sz44 ag44 ok44 sl44 ar44 zc44 zd44 pl44 by44 sz45 ag45 ok45 sl45 zc45 zd45 by45 sz46 ag46 ok46 zc46 zd46 pl46 by46 fl46_0 fl46_1 fl46_2 fl46_3 fl46_4 sz47 ag47 ok47 zc47 zd47 pl47 by47 fl47_0 fl47_1 fl47_2 fl47_3 fl47_4 sz49 ag49 ok49 kk49 iu49 zc49 zd49 by49 sz53 ag53 ok53 sl53 ar53 zc53 zd53 pl53 by53 sz54 ag54 ok54 kk54 iu54 zc54 zd54 by54 sz55 ag55 ok55 kk55 iu55 zc55 zd55 by55 sz56 ag56 ok56 sl56 zc56 zd56 by56 sz57 ag57 ok57 kk57 iu57 zc57 zd57 by57 sz60 ag60 ok60 zc60 zd60 pl60 by60 fl60_0 fl60_1 fl60_2 fl60_3 sz61 ag61 ok61 zc61 zd61 pl61 by61 fl61_0 fl61_1 fl61_2 fl61_3 sz64 ag64 ok64 zc64 by64 sz65 ag65 ok65 zc65 zd65 pl65 by65 fl65_0 fl65_1 sz66 ag66 ok66 zc66 zd66 pl66 by66 fl66_0 fl66_1 sz78 ag78 ok78 sl78 ar78 zc78 zd78 pl78 by78 sz79 ag79 ok79 sl79 ar79 zc79 zd79 pl79 by79 sz81 ag81 ok81 zc81 zd81 pl81 by81 fl81_0 fl81_1 sz82 ag82 ok82 zc82 zd82 pl82 by82 fl82_0 fl82_1 sz84 ag84 ok84 zc84 zd84 pl84 by84 fl84_0 fl84_1 fl84_2 fl84_3 sz85 ag85 ok85 zc85 zd85 pl85 by85 fl85_0 fl85_1 fl85_2 fl85_3 sz92 ag92 ok92 sl92 ar92 zc92 zd92 pl92 by92 sz101 ag101 ok101 zc101 zd101 pl101 by101 fl101_0 fl101_1 sz102 ag102 ok102 zc102 zd102 pl102 by102 fl102_0 fl102_1 sz109 ag109 ok109 zc109 zd109 pl109 by109 fl109_0 fl109_1 fl109_2 sz110 ag110 ok110 zc110 zd110 pl110 by110 fl110_0 fl110_1 fl110_2 sz120 ag120 ok120 sl120 ar120 zc120 zd120 pl120 by120 sz121 ag121 ok121 zc121 zd121 pl121 by121 fl121_0 fl121_1 sz122 ag122 ok122 sl122 ar122 zc122 zd122 pl122 by122 sz130 ag130 ok130 zc130 by130 sz140 ag140 ok140 kk140 iu140 zc140 zd140 by140 sz144 ag144 ok144 zc144 by144
section
attribute [local go_sem] Rg.cs Rg.ds e0R rgS
theorem slA_sum {ins : List Rg} (h : ∀ r ∈ ins, in32 r.lo ∧ in32 r.hi) : ∀ j : Nat, j ≤ ins.length → j ≤ 16 → (slA ins j = ((ins.map Rg.lo).take j).sum ∧ shA ins j = ((ins.map Rg.hi).take j).sum) ∧ (-(j * 2147483648) ≤ slA ins j ∧ slA ins j ≤ j * 2147483648) ∧ -(j * 2147483648) ≤ shA ins j ∧ shA ins j ≤ j * 2147483648
  | 0, _, _ => by simp [slA, shA]
  | j + 1, h1, h2 => by
    obtain ⟨⟨a, b⟩, c, d⟩ := slA_sum h j (by omega) (by omega)
    have hm := h _ (rg_mem (ins := ins) (j := (j : Nat)) (by omega) (by omega))
    have e1 : (ins.map Rg.lo).take (j + 1) = (ins.map Rg.lo).take j ++ [(rg ins (j : Nat)).lo] := by
      rw [List.take_succ_eq_append_getElem (by simp; omega)]
      simp [rg, List.getD, show j < ins.length by omega]
    have e2 : (ins.map Rg.hi).take (j + 1) = (ins.map Rg.hi).take j ++ [(rg ins (j : Nat)).hi] := by
      rw [List.take_succ_eq_append_getElem (by simp; omega)]
      simp [rg, List.getD, show j < ins.length by omega]
    rw [e1, e2, List.sum_append, List.sum_append]
    simp only [slA, shA, List.sum_cons, List.sum_nil, Int.add_zero]
    unfold in32 at hm
    rw [← a, ← b, w64 (by omega) (by omega), w64 (by omega) (by omega)]
    omega
theorem rnode20_c {T : World → Prop} (Tm : TP T) (n : Nd) (width : Int) (ins : List Rg) (each : Nat) (h : NOk n ins each) (hN : WN n) (hp : 0 ≤ n.post ∧ n.post ≤ 3) (hlh : nodeL n ins ≤ nodeH n ins) : Cg Go.Proofs.Tryd.prog T 94 [] [.agg n.cs, .d (.row e0R (ins.map Rg.ds)), .d (.i .i64 width)] (fun r H => H = [] ∧ r = .agg (nodeR n width ins each).cs) := by
  have hi0 := h.i0
  have hr0 : (ins.map Rg.ds).getD 0 [.i .i64 0, .i .i64 0, .i .i64 0, .i .i64 0] = [.i .i64 (rg ins 0).lo, .i .i64 (rg ins 0).hi, .i .i64 (rg ins 0).al, .i .i64 (rg ins 0).ah] := rw_rg ins 0 (by decide) (by omega)
  refine Cg_of [] Tm Go.Proofs.Tryd.func94 rfl rfl Go.Proofs.Tryd.ntmps94 (by simp) rfl (rs := [.cell 6 61]) rfl fun E hP hn hT hpn => ?_
  (repeat (first | refine TS.imp ?_ | refine n9 (by decide) ?_))
  refine TR.imp ?_; intro K hK; simp only [go_sem, hP, hn]; (repeat refine vc ?_); refine hK _ ?_; clear K hK
  (repeat (first | refine TS.imp ?_ | refine n9 (by decide) ?_))
  refine TR.imp ?_; intro K hK; simp only [go_sem, hP, hn]
  rw [hr0]
  simp only [go_sem, hP, hn]
  (repeat refine vc ?_)
  refine hK _ ?_; clear K hK
  (repeat (first | refine TS.imp ?_ | refine n9 (by decide) ?_))
  refine TR.imp ?_; intro K hK; simp only [go_sem, hP, hn]
  rw [hr0]
  simp only [go_sem, hP, hn]
  (repeat refine vc ?_)
  refine hK _ ?_; clear K hK
  refine Tr.le (Le.keep [1, 2, 3, 6, 7, 8]) ?_; simp only [List.map_cons, List.map_nil, lk, Nat.reduceEqDiff, reduceIte]
  (repeat (first | refine TS.imp ?_ | refine n9 (by decide) ?_))
  refine TR.imp ?_; intro K hK; simp only [go_sem, hP, hn]; (repeat refine vc ?_); refine hK _ ?_; clear K hK
  refine Tr.le (Le.nilslot 3001 9 3 [.i .i64 0] rfl (by rw [hpn] <;> rfl) rfl rfl) ?_
  (repeat (first | refine TS.imp ?_ | refine n9 (by decide) ?_))
  refine TR.imp ?_; intro K hK; simp only [go_sem, hP, hn]; (repeat refine vc ?_); refine hK _ ?_; clear K hK
  refine Tr.le (Le.nilslot 3002 10 3 [.i .i64 0] rfl (by rw [hpn] <;> rfl) rfl rfl) ?_
  (repeat (first | refine TS.imp ?_ | refine n9 (by decide) ?_))
  refine TR.imp ?_; intro K hK; simp only [go_sem, hP, hn]; (repeat refine vc ?_); refine hK _ ?_; clear K hK
  (repeat (first | refine TS.imp ?_ | refine n9 (by decide) ?_))
  refine Tr.le (Le.keep [1, 2, 3, 6, 7, 8, 9, 10, 11]) ?_; simp only [List.map_cons, List.map_nil, lk, Nat.reduceEqDiff, reduceIte]
  refine Tr.loop (fun q s => ∃ (j : Int), s = ⟨[(1, .d (.row e0R (ins.map Rg.ds))), (2, .d (.i .i64 width)), (3, .ptr 3 0), (6, .ptr 6 0), (7, .d (.i .i64 (mnA ins j.toNat))), (8, .d (.i .i64 (mxA ins j.toNat))), (9, .own 3001), (10, .own 3002), (11, .d (.i .i64 j))], [(3, .box 27 n.cs), (6, .box 61 [.d (.i .i64 0), .d (.i .i64 0), .d (.i .i64 0), .d (.i .i64 0)]), (3001, .row 3 [.i .i64 0] (((ins.map Rg.lo).take j.toNat).map intC)), (3002, .row 3 [.i .i64 0] (((ins.map Rg.hi).take j.toNat).map intC))]⟩ ∧ 0 ≤ j ∧ j + q = ins.length) ins.length ⟨_, (Le.mv (by simp only [go_sem, hP, hn]; first | done | (simp; done) | (simp [intC]; done) | (repeat (first | rfl | constructor))) (by simp only [go_sem, hP, hn]; first | done | (simp; done) | (simp [intC]; done) | (repeat (first | rfl | constructor)))), 0, rfl, by omega, by omega⟩ ?_
  rintro q s ⟨j, rfl, j0, jq⟩
  have hst : mnA ins (j + 1).toNat = mn (mnA ins j.toNat) (rg ins j).lo ∧ mxA ins (j + 1).toNat = mx (mxA ins j.toNat) (rg ins j).hi := by
    rw [show (j + 1).toNat = j.toNat + 1 by omega]
    simp only [mnA, mxA]
    rw [Int.toNat_of_nonneg j0]
    exact ⟨rfl, rfl⟩
  (repeat (first | refine TS.imp ?_ | refine n9 (by decide) ?_))
  refine TR.imp ?_; intro K hK; simp only [go_sem, hP, hn]; (repeat refine vc ?_); refine hK _ ?_; clear K hK
  (repeat (first | refine TS.imp ?_ | refine n9 (by decide) ?_))
  refine Tr.cond rfl (fun hb => ?_) (fun hb => ?_)
  · have hj : j < ins.length := by simpa using hb
    have hrj := rw_rg ins j j0 hj
    have htl : ((ins.map Rg.lo).take (j + 1).toNat) = (ins.map Rg.lo).take j.toNat ++ [(rg ins j).lo] ∧ ((ins.map Rg.hi).take (j + 1).toNat) = (ins.map Rg.hi).take j.toNat ++ [(rg ins j).hi] := by
      have e1 : rd (ins.map Rg.lo) j = (rg ins j).lo := by
        have hk : j.toNat < ins.length := by omega
        simp [rd, rg, List.getD, hk]
      have e2 : rd (ins.map Rg.hi) j = (rg ins j).hi := by
        have hk : j.toNat < ins.length := by omega
        simp [rd, rg, List.getD, hk]
      exact ⟨by rw [take_rd j0 (by simpa using hj), e1], by rw [take_rd j0 (by simpa using hj), e2]⟩
    have hll : ((ins.map Rg.lo).take j.toNat).length ≤ 16 ∧ ((ins.map Rg.hi).take j.toNat).length ≤ 16 := by simp; omega
    generalize mnA ins j.toNat = a at *
    generalize mxA ins j.toNat = b at *
    generalize (ins.map Rg.lo).take j.toNat = L at *
    generalize (ins.map Rg.hi).take j.toNat = M at *
    generalize rg ins j = x at *
    clear hb
    (repeat (first | refine TS.imp ?_ | refine n9 (by decide) ?_))
    refine TR.imp ?_; intro K hK; simp only [go_sem, hP, hn]
    rw [hrj]
    simp only [go_sem, hP, hn]
    (repeat refine vc ?_)
    refine hK _ ?_; clear K hK
    (repeat (first | refine TS.imp ?_ | refine n9 (by decide) ?_))
    refine TR.imp ?_; intro K hK; simp only [go_sem, hP, hn]
    rw [hrj]
    simp only [go_sem, hP, hn]
    (repeat refine vc ?_)
    refine hK _ ?_; clear K hK
    refine Tr.le (Le.keep [1, 2, 3, 6, 7, 8, 9, 10, 11]) ?_; simp only [List.map_cons, List.map_nil, lk, Nat.reduceEqDiff, reduceIte]
    (repeat (first | refine TS.imp ?_ | refine n9 (by decide) ?_))
    refine TR.imp ?_; intro K hK; simp only [go_sem, hP, hn]
    rw [hrj]
    simp only [go_sem, hP, hn]
    (repeat refine vc ?_)
    refine hK _ ?_; clear K hK
    (repeat (first | refine TS.imp ?_ | refine n9 (by decide) ?_))
    refine TR.imp ?_; intro K hK; simp only [go_sem, hP, hn]
    rw [hrj]
    simp only [go_sem, hP, hn]
    (repeat refine vc ?_)
    refine hK _ ?_; clear K hK
    refine Tr.le (Le.keep [1, 2, 3, 6, 7, 8, 9, 10, 11]) ?_; simp only [List.map_cons, List.map_nil, lk, Nat.reduceEqDiff, reduceIte]
    (repeat (first | refine TS.imp ?_ | refine n9 (by decide) ?_))
    refine TR.imp ?_; intro K hK; simp only [go_sem, hP, hn]; (repeat refine vc ?_); refine hK _ ?_; clear K hK
    (repeat (first | refine TS.imp ?_ | refine n9 (by decide) ?_))
    rw [w64 (x := j + 1) (by omega) (by omega)]
    refine ⟨q - 1, _, by omega, ?_, j + 1, rfl, by omega, by omega⟩
    rw [hst.1, hst.2, htl.1, htl.2]
    refine Le.trans (b := ⟨[(1, .d (.row e0R (ins.map Rg.ds))), (2, .d (.i .i64 width)), (3, .ptr 3 0), (6, .ptr 6 0), (7, .d (.i .i64 (mn a x.lo))), (8, .d (.i .i64 (mx b x.hi))), (9, .own 47), (10, .own 55), (11, .d (.i .i64 (j + 1)))], [(3, .box 27 n.cs), (6, .box 61 [.d (.i .i64 0), .d (.i .i64 0), .d (.i .i64 0), .d (.i .i64 0)]), (47, .row 3 [.i .i64 0] ((L ++ [x.lo]).map intC)), (55, .row 3 [.i .i64 0] ((M ++ [x.hi]).map intC))]⟩) (Le.mv (by simp only [go_sem, hP, hn]; first | done | (simp; done) | (simp [intC]; done) | (repeat (first | rfl | constructor))) (by simp only [go_sem, hP, hn]; first | done | (simp; done) | (simp [intC]; done) | (repeat (first | rfl | constructor)))) ?_
    refine Le.trans (Le.ren 47 3001 (by rw [hpn] <;> rfl) rfl rfl) ?_; simp only [renT, renH, renO, renS, renL, rn, go_sem, hP, hn]
    refine Le.trans (Le.ren 55 3002 (by rw [hpn] <;> rfl) rfl rfl) ?_; simp only [renT, renH, renO, renS, renL, rn, go_sem, hP, hn]
    exact (Le.mv (by simp only [go_sem, hP, hn]; first | done | (simp; done) | (simp [intC]; done) | (repeat (first | rfl | constructor))) (by simp only [go_sem, hP, hn]; first | done | (simp; done) | (simp [intC]; done) | (repeat (first | rfl | constructor))))
  · have hj : j.toNat = ins.length := by
      have : ¬ j < ins.length := by simpa using hb
      omega
    clear hb hst
    rw [hj, List.take_of_length_le (by simp), List.take_of_length_le (by simp)]
    have hLH := nodeLH32 h
    have hlo : ∀ x ∈ ins.map Rg.lo, in32 x := fun x hx => by obtain ⟨r, hr, rfl⟩ := List.mem_map.1 hx; exact (h.i32 r hr).1
    have hhi : ∀ x ∈ ins.map Rg.hi, in32 x := fun x hx => by obtain ⟨r, hr, rfl⟩ := List.mem_map.1 hx; exact (h.i32 r hr).2
    have hll : (ins.map Rg.lo).length ≤ 65536 ∧ (ins.map Rg.hi).length ≤ 65536 := by simp; omega
    have hsl := (slA_sum h.i32 ins.length (Nat.le_refl _) hi0.2).1
    rw [List.take_of_length_le (by simp), List.take_of_length_le (by simp)] at hsl
    (repeat (first | refine TS.imp ?_ | refine n9 (by decide) ?_))
    refine Tr.le (Le.freeze 3001) ?_
    simp only [go_sem, hP, hn]
    refine Tr.le (Le.freeze 3002) ?_
    simp only [go_sem, hP, hn]
    refine Tr.le (Le.keep [2, 3, 6, 7, 8, 9, 10]) ?_; simp only [List.map_cons, List.map_nil, lk, Nat.reduceEqDiff, reduceIte]
    (first | refine d1 (.p true 0 (.p true 2 (.alt 1 (.alt 3 (.p false 4 (.p false 5 .nil)) .nil) .nil))) [] (by rw [hP]; kernel_rfl) (by kernel_rfl) (by simp only [go_sem, hP, hn]; try simp) (fun _ _ h => h) fun K hK => ?_ | refine d2 (.p true 0 (.p true 2 (.alt 1 (.alt 3 (.p false 4 (.p false 5 .nil)) .nil) .nil))) [] (by rw [hP]; kernel_rfl) (by kernel_rfl) (by simp only [go_sem, hP, hn]; try simp) (fun _ _ h => h) fun K hK => ?_ | refine d4 (.p true 0 (.p true 2 (.alt 1 (.alt 3 (.p false 4 (.p false 5 .nil)) .nil) .nil))) [] (by rw [hP]; kernel_rfl) (by kernel_rfl) (by simp only [go_sem, hP, hn]; try simp) (fun _ _ h => h) fun K hK => ?_); simp only [go_sem, hP, hn]; (repeat refine vc ?_); refine p1 (by rw [hP, hT]; exact rLeft_c Tm n) rfl rfl rfl trivial (by simp only [go_sem, hP, hn]; try trivial) (by simp only [go_sem, hP, hn]; try rfl) (by rw [hn]; decide) (by rfl) ?_; simp only [go_sem, hP, hn]; (repeat refine vc ?_); refine p1 (by rw [hP, hT]; exact rRight_c Tm n) rfl rfl rfl trivial (by simp only [go_sem, hP, hn]; try trivial) (by simp only [go_sem, hP, hn]; try rfl) (by rw [hn]; decide) (by rfl) ?_; simp only [go_sem, hP, hn]; (repeat refine vc ?_); refine hK _ ?_; clear K hK
    refine Tr.le (Le.keep [2, 3, 6, 7, 8, 9, 10, 61]) ?_; simp only [List.map_cons, List.map_nil, lk, Nat.reduceEqDiff, reduceIte]
    refine Tr.meet (fun s => s = ⟨[(2, .d (.i .i64 width)), (3, .ptr 3 0), (6, .ptr 6 0), (7, .d (.i .i64 (nodeL n ins))), (8, .d (.i .i64 (nodeH n ins))), (9, .d (.row [.i .i64 0] ((ins.map Rg.lo).map intC))), (10, .d (.row [.i .i64 0] ((ins.map Rg.hi).map intC)))], [(3, .box 27 n.cs), (6, .box 61 [.d (.i .i64 0), .d (.i .i64 0), .d (.i .i64 0), .d (.i .i64 0)])]⟩) ?_ ?_
    rotate_left
    · unfold nodeL nodeH
      rw [padL_eqW, padR_eqW]
      refine Tr.cond rfl (fun hb => ?_) (fun hb => ?_)
      · have hp : 0 < wrap64 (n.rLeft + n.rRight) := by simpa using hb
        rw [if_pos hp, if_pos hp]
        (repeat (first | refine TS.imp ?_ | refine n9 (by decide) ?_))
        refine TR.imp ?_; intro K hK; simp only [go_sem, hP, hn]; (repeat refine vc ?_); refine hK _ ?_; clear K hK
        (repeat (first | refine TS.imp ?_ | refine n9 (by decide) ?_))
        refine TR.imp ?_; intro K hK; simp only [go_sem, hP, hn]; (repeat refine vc ?_); refine hK _ ?_; clear K hK
        (repeat (first | refine TS.imp ?_ | refine n9 (by decide) ?_))
        exact ⟨_, (Le.mv (by simp only [go_sem, hP, hn]; first | done | (simp; done) | (simp [intC]; done) | (repeat (first | rfl | constructor))) (by simp only [go_sem, hP, hn]; first | done | (simp; done) | (simp [intC]; done) | (repeat (first | rfl | constructor)))), rfl⟩
      · have hp : ¬ 0 < wrap64 (n.rLeft + n.rRight) := by simpa using hb
        rw [if_neg hp, if_neg hp]
        (repeat (first | refine TS.imp ?_ | refine n9 (by decide) ?_))
        exact ⟨_, (Le.mv (by simp only [go_sem, hP, hn]; first | done | (simp; done) | (simp [intC]; done) | (repeat (first | rfl | constructor))) (by simp only [go_sem, hP, hn]; first | done | (simp; done) | (simp [intC]; done) | (repeat (first | rfl | constructor)))), rfl⟩
    rintro s rfl
    unfold nodeR
    rw [hsl.1, hsl.2]
    generalize nodeL n ins = l at *
    generalize nodeH n ins = hh at *
    generalize ins.map Rg.lo = los at *
    generalize ins.map Rg.hi = his at *
    (repeat (first | refine TS.imp ?_ | refine n9 (by decide) ?_))
    refine TR.imp ?_; intro K hK; simp only [go_sem, hP, hn]; (repeat refine vc ?_); refine hK _ ?_; clear K hK
    refine Tr.le (Le.keep [2, 3, 6, 7, 8, 9, 10, 67]) ?_; simp only [List.map_cons, List.map_nil, lk, Nat.reduceEqDiff, reduceIte]
    refine Tr.block ?_
    refine Tr.seq ?_
    refine Tr.meet (fun s => s = ⟨[(2, .d (.i .i64 width)), (3, .ptr 3 0), (6, .ptr 6 0), (7, .d (.i .i64 l)), (8, .d (.i .i64 hh)), (9, .d (.row [.i .i64 0] (los.map intC))), (10, .d (.row [.i .i64 0] (his.map intC))), (67, .d (.i .i64 n.k)), (68, .d (.b (rWeighs n.k)))], [(3, .box 27 n.cs), (6, .box 61 [.d (.i .i64 0), .d (.i .i64 0), .d (.i .i64 0), .d (.i .i64 0)])]⟩) ?_ ?_
    rotate_left
    · (repeat (first | refine TS.imp ?_ | refine n9 (by decide) ?_))
      refine TR.imp ?_; intro K hK; simp only [go_sem, hP, hn]; (repeat refine vc ?_); refine hK _ ?_; clear K hK
      (repeat (first | refine TS.imp ?_ | refine n9 (by decide) ?_))
      refine Tr.cond rfl (fun h1 => ?_) (fun h1 => ?_)
      · rw [show rWeighs n.k = (n.k == 1) by unfold rWeighs; rw [h1]; rfl]
        (repeat (first | refine TS.imp ?_ | refine n9 (by decide) ?_))
        exact ⟨_, (Le.mv (by simp only [go_sem, hP, hn]; first | done | (simp; done) | (simp [intC]; done) | (repeat (first | rfl | constructor))) (by simp only [go_sem, hP, hn]; first | done | (simp; done) | (simp [intC]; done) | (repeat (first | rfl | constructor)))), rfl⟩
      (repeat (first | refine TS.imp ?_ | refine n9 (by decide) ?_))
      refine TR.imp ?_; intro K hK; simp only [go_sem, hP, hn]; (repeat refine vc ?_); refine hK _ ?_; clear K hK
      (repeat (first | refine TS.imp ?_ | refine n9 (by decide) ?_))
      refine Tr.cond rfl (fun h6 => ?_) (fun h6 => ?_)
      · rw [show rWeighs n.k = (n.k == 6) by unfold rWeighs; rw [h6, Bool.or_true]]
        (repeat (first | refine TS.imp ?_ | refine n9 (by decide) ?_))
        exact ⟨_, (Le.mv (by simp only [go_sem, hP, hn]; first | done | (simp; done) | (simp [intC]; done) | (repeat (first | rfl | constructor))) (by simp only [go_sem, hP, hn]; first | done | (simp; done) | (simp [intC]; done) | (repeat (first | rfl | constructor)))), rfl⟩
      (repeat (first | refine TS.imp ?_ | refine n9 (by decide) ?_))
      refine TR.imp ?_; intro K hK; simp only [go_sem, hP, hn]; (repeat refine vc ?_); refine hK _ ?_; clear K hK
      (repeat (first | refine TS.imp ?_ | refine n9 (by decide) ?_))
      rw [show rWeighs n.k = (n.k == 2) by unfold rWeighs; rw [h1, h6]; simp]
      exact ⟨_, (Le.mv (by simp only [go_sem, hP, hn]; first | done | (simp; done) | (simp [intC]; done) | (repeat (first | rfl | constructor))) (by simp only [go_sem, hP, hn]; first | done | (simp; done) | (simp [intC]; done) | (repeat (first | rfl | constructor)))), rfl⟩
    rintro s rfl
    (repeat (first | refine TS.imp ?_ | refine n9 (by decide) ?_))
    refine Tr.cond rfl (fun hwq => ?_) (fun hwq => ?_)
    · rw [if_pos hwq]
      (repeat (first | refine TS.imp ?_ | refine n9 (by decide) ?_))
      refine TR.imp ?_; intro K hK; simp only [go_sem, hP, hn]
      (repeat refine vc ?_)
      refine CallN_cs (Hi := [] ) (by rw [hP, hT]; exact  rweighed20_c Tm n l hh each (h.bw hwq) hN (bit2 n.post hp.1 hp.2) hLH.1 hLH.2 hlh) rfl rfl rfl trivial (by simp only [go_sem, hP, hn]; try trivial) (by simp only [go_sem, hP, hn]; try rfl) (by simp only [inH, go_sem, hP, hn]; try simp) (by rw [hn]; decide) ?_; simp only [go_sem, hP, hn]; (repeat refine vc ?_)
      refine hK _ ?_; clear K hK
      (repeat (first | (refine TR.imp ?_; intro K hK; simp only [go_sem, hP, hn]; (repeat refine vc ?_); refine hK _ ?_; clear K hK) | refine TS.imp ?_ | refine n9 (by decide) ?_))
      simp only [RetG, go_sem]; (repeat with_reducible refine vc ?_)
      decide
    rw [if_neg (by rw [hwq]; decide)]
    refine Tr.seq ?_
    refine Tr.meet (fun s => s = ⟨[(2, .d (.i .i64 width)), (3, .ptr 3 0), (6, .ptr 6 0), (7, .d (.i .i64 l)), (8, .d (.i .i64 hh)), (9, .d (.row [.i .i64 0] (los.map intC))), (10, .d (.row [.i .i64 0] (his.map intC))), (67, .d (.i .i64 n.k)), (76, .d (.b (n.k == 4 || n.k == 12)))], [(3, .box 27 n.cs), (6, .box 61 [.d (.i .i64 0), .d (.i .i64 0), .d (.i .i64 0), .d (.i .i64 0)])]⟩) ?_ ?_
    rotate_left
    · (repeat (first | refine TS.imp ?_ | refine n9 (by decide) ?_))
      refine TR.imp ?_; intro K hK; simp only [go_sem, hP, hn]; (repeat refine vc ?_); refine hK _ ?_; clear K hK
      (repeat (first | refine TS.imp ?_ | refine n9 (by decide) ?_))
      refine Tr.cond rfl (fun h4 => ?_) (fun h4 => ?_)
      · rw [show (n.k == 4 || n.k == 12) = (n.k == 4) by rw [h4]; rfl]
        (repeat (first | refine TS.imp ?_ | refine n9 (by decide) ?_))
        exact ⟨_, (Le.mv (by simp only [go_sem, hP, hn]; first | done | (simp; done) | (simp [intC]; done) | (repeat (first | rfl | constructor))) (by simp only [go_sem, hP, hn]; first | done | (simp; done) | (simp [intC]; done) | (repeat (first | rfl | constructor)))), rfl⟩
      (repeat (first | refine TS.imp ?_ | refine n9 (by decide) ?_))
      refine TR.imp ?_; intro K hK; simp only [go_sem, hP, hn]; (repeat refine vc ?_); refine hK _ ?_; clear K hK
      (repeat (first | refine TS.imp ?_ | refine n9 (by decide) ?_))
      rw [h4, Bool.false_or]
      exact ⟨_, (Le.mv (by simp only [go_sem, hP, hn]; first | done | (simp; done) | (simp [intC]; done) | (repeat (first | rfl | constructor))) (by simp only [go_sem, hP, hn]; first | done | (simp; done) | (simp [intC]; done) | (repeat (first | rfl | constructor)))), rfl⟩
    rintro s rfl
    (repeat (first | refine TS.imp ?_ | refine n9 (by decide) ?_))
    refine Tr.cond rfl (fun h4 => ?_) (fun h4 => ?_)
    · rw [if_pos (by simpa using h4)]
      (repeat (first | (refine TR.imp ?_; intro K hK; simp only [go_sem, hP, hn]; (repeat refine vc ?_); refine hK _ ?_; clear K hK) | refine TS.imp ?_ | refine n9 (by decide) ?_))
      simp only [RetG, go_sem]; (repeat with_reducible refine vc ?_)
      decide
    rw [if_neg (by simpa using h4)]
    clear h4
    (repeat (first | refine TS.imp ?_ | refine n9 (by decide) ?_))
    refine TR.imp ?_; intro K hK; simp only [go_sem, hP, hn]; (repeat refine vc ?_); refine hK _ ?_; clear K hK
    (repeat (first | refine TS.imp ?_ | refine n9 (by decide) ?_))
    refine Tr.cond rfl (fun h7 => ?_) (fun h7 => ?_)
    · rw [if_pos (by simpa using h7)]
      (repeat (first | refine TS.imp ?_ | refine n9 (by decide) ?_))
      refine TR.imp ?_; intro K hK; simp only [go_sem, hP, hn]; (repeat refine vc ?_); refine c1 (by rw [hP, hT]; exact rAdd_c Tm los hll.1 hlo) rfl rfl rfl trivial (by simp only [go_sem, hP, hn]; try trivial) (by simp only [go_sem, hP, hn]; try rfl) (by rw [hn]; decide) (by rfl) ?_; simp only [go_sem, hP, hn]; (repeat refine vc ?_); refine c1 (by rw [hP, hT]; exact rAdd_c Tm his hll.2 hhi) rfl rfl rfl trivial (by simp only [go_sem, hP, hn]; try trivial) (by simp only [go_sem, hP, hn]; try rfl) (by rw [hn]; decide) (by rfl) ?_; simp only [go_sem, hP, hn]; (repeat refine vc ?_); refine c1 (by rw [hP, hT]; exact rSum_c Tm los hll.1 hlo) rfl rfl rfl trivial (by simp only [go_sem, hP, hn]; try trivial) (by simp only [go_sem, hP, hn]; try rfl) (by rw [hn]; decide) (by rfl) ?_; simp only [go_sem, hP, hn]; (repeat refine vc ?_); refine c1 (by rw [hP, hT]; exact rSum_c Tm his hll.2 hhi) rfl rfl rfl trivial (by simp only [go_sem, hP, hn]; try trivial) (by simp only [go_sem, hP, hn]; try rfl) (by rw [hn]; decide) (by rfl) ?_; simp only [go_sem, hP, hn]; (repeat refine vc ?_); refine hK _ ?_; clear K hK
      (repeat (first | (refine TR.imp ?_; intro K hK; simp only [go_sem, hP, hn]; (repeat refine vc ?_); refine hK _ ?_; clear K hK) | refine TS.imp ?_ | refine n9 (by decide) ?_))
      simp only [RetG, go_sem]; (repeat with_reducible refine vc ?_)
      decide
    rw [if_neg (by simpa using h7)]
    clear h7
    (repeat (first | refine TS.imp ?_ | refine n9 (by decide) ?_))
    refine TR.imp ?_; intro K hK; simp only [go_sem, hP, hn]; (repeat refine vc ?_); refine hK _ ?_; clear K hK
    (repeat (first | refine TS.imp ?_ | refine n9 (by decide) ?_))
    refine Tr.cond rfl (fun h9 => ?_) (fun h9 => ?_)
    · rw [if_pos (by simpa using h9)]
      refine Tr.le (Le.keep [3, 6, 7, 8]) ?_; simp only [List.map_cons, List.map_nil, lk, Nat.reduceEqDiff, reduceIte]
      (repeat (first | refine TS.imp ?_ | refine n9 (by decide) ?_))
      (first | refine d1 (.p true 0 (.p true 1 (.p true 2 (.p true 3 (.p true 4 (.p true 6 (.p true 7 (.p true 8 (.p true 9 (.p true 10 (.alt 5 (.alt 11 (.alt 12 (.alt 13 .nil .nil) .nil) .nil) .nil))))))))))) [6] (by rw [hP]; kernel_rfl) (by kernel_rfl) (by simp only [go_sem, hP, hn]; try simp) (fun _ _ h => h) fun K hK => ?_ | refine d2 (.p true 0 (.p true 1 (.p true 2 (.p true 3 (.p true 4 (.p true 6 (.p true 7 (.p true 8 (.p true 9 (.p true 10 (.alt 5 (.alt 11 (.alt 12 (.alt 13 .nil .nil) .nil) .nil) .nil))))))))))) [6] (by rw [hP]; kernel_rfl) (by kernel_rfl) (by simp only [go_sem, hP, hn]; try simp) (fun _ _ h => h) fun K hK => ?_ | refine d4 (.p true 0 (.p true 1 (.p true 2 (.p true 3 (.p true 4 (.p true 6 (.p true 7 (.p true 8 (.p true 9 (.p true 10 (.alt 5 (.alt 11 (.alt 12 (.alt 13 .nil .nil) .nil) .nil) .nil))))))))))) [6] (by rw [hP]; kernel_rfl) (by kernel_rfl) (by simp only [go_sem, hP, hn]; try simp) (fun _ _ h => h) fun K hK => ?_); simp only [go_sem, hP, hn]
      (repeat refine vc ?_)
      refine p1 (by rw [hP, hT]; exact rClamp_c Tm l n.low n.high) rfl rfl rfl trivial (by simp only [go_sem, hP, hn]; try trivial) (by simp only [go_sem, hP, hn]; try rfl) (by rw [hn]; decide) (by rfl) ?_; simp only [go_sem, hP, hn]; (repeat refine vc ?_)
      refine p1 (by rw [hP, hT]; exact rClamp_c Tm hh n.low n.high) rfl rfl rfl trivial (by simp only [go_sem, hP, hn]; try trivial) (by simp only [go_sem, hP, hn]; try rfl) (by rw [hn]; decide) (by rfl) ?_; simp only [go_sem, hP, hn]; (repeat refine vc ?_)
      refine p1 (by rw [hP, hT]; exact one_c Tm (clampV l n.low n.high) (clampV hh n.low n.high)) rfl rfl rfl trivial (by simp only [go_sem, hP, hn]; try trivial) (by simp only [go_sem, hP, hn]; try rfl) (by rw [hn]; decide) (by rfl) ?_; simp only [go_sem, hP, hn]; (repeat refine vc ?_)
      refine hK _ ?_; clear K hK
      (repeat (first | (refine TR.imp ?_; intro K hK; simp only [go_sem, hP, hn]; (repeat refine vc ?_); refine hK _ ?_; clear K hK) | refine TS.imp ?_ | refine n9 (by decide) ?_))
      simp only [RetG, go_sem]; (repeat with_reducible refine vc ?_)
      decide
    rw [if_neg (by simpa using h9)]
    clear h9
    (repeat (first | refine TS.imp ?_ | refine n9 (by decide) ?_))
    refine TR.imp ?_; intro K hK; simp only [go_sem, hP, hn]; (repeat refine vc ?_); refine hK _ ?_; clear K hK
    (repeat (first | refine TS.imp ?_ | refine n9 (by decide) ?_))
    refine Tr.cond rfl (fun hx => ?_) (fun hx => ?_)
    · rw [if_pos (by simpa using hx)]
      refine Tr.le (Le.keep [3, 6, 7, 8]) ?_; simp only [List.map_cons, List.map_nil, lk, Nat.reduceEqDiff, reduceIte]
      (repeat (first | refine TS.imp ?_ | refine n9 (by decide) ?_))
      (first | refine d1 (.p true 0 (.p true 1 (.p true 2 (.p true 3 (.p true 4 (.p true 6 (.p true 7 (.p true 8 (.p true 9 (.p true 10 (.alt 5 (.alt 11 (.alt 12 (.alt 13 .nil .nil) .nil) .nil) .nil))))))))))) [6] (by rw [hP]; kernel_rfl) (by kernel_rfl) (by simp only [go_sem, hP, hn]; try simp) (fun _ _ h => h) fun K hK => ?_ | refine d2 (.p true 0 (.p true 1 (.p true 2 (.p true 3 (.p true 4 (.p true 6 (.p true 7 (.p true 8 (.p true 9 (.p true 10 (.alt 5 (.alt 11 (.alt 12 (.alt 13 .nil .nil) .nil) .nil) .nil))))))))))) [6] (by rw [hP]; kernel_rfl) (by kernel_rfl) (by simp only [go_sem, hP, hn]; try simp) (fun _ _ h => h) fun K hK => ?_ | refine d4 (.p true 0 (.p true 1 (.p true 2 (.p true 3 (.p true 4 (.p true 6 (.p true 7 (.p true 8 (.p true 9 (.p true 10 (.alt 5 (.alt 11 (.alt 12 (.alt 13 .nil .nil) .nil) .nil) .nil))))))))))) [6] (by rw [hP]; kernel_rfl) (by kernel_rfl) (by simp only [go_sem, hP, hn]; try simp) (fun _ _ h => h) fun K hK => ?_); simp only [go_sem, hP, hn]
      (repeat refine vc ?_)
      refine p1 (by rw [hP, hT]; exact rScale_c Tm l n.mult n.shift hLH.1) rfl rfl rfl trivial (by simp only [go_sem, hP, hn]; try trivial) (by simp only [go_sem, hP, hn]; try rfl) (by rw [hn]; decide) (by rfl) ?_; simp only [go_sem, hP, hn]; (repeat refine vc ?_)
      refine p1 (by rw [hP, hT]; exact rScale_c Tm hh n.mult n.shift hLH.2) rfl rfl rfl trivial (by simp only [go_sem, hP, hn]; try trivial) (by simp only [go_sem, hP, hn]; try rfl) (by rw [hn]; decide) (by rfl) ?_; simp only [go_sem, hP, hn]; (repeat refine vc ?_)
      refine p1 (by rw [hP, hT]; exact one_c Tm (scaleV l n.mult n.shift) (scaleV hh n.mult n.shift)) rfl rfl rfl trivial (by simp only [go_sem, hP, hn]; try trivial) (by simp only [go_sem, hP, hn]; try rfl) (by rw [hn]; decide) (by rfl) ?_; simp only [go_sem, hP, hn]; (repeat refine vc ?_)
      refine hK _ ?_; clear K hK
      (repeat (first | (refine TR.imp ?_; intro K hK; simp only [go_sem, hP, hn]; (repeat refine vc ?_); refine hK _ ?_; clear K hK) | refine TS.imp ?_ | refine n9 (by decide) ?_))
      simp only [RetG, go_sem]; (repeat with_reducible refine vc ?_)
      decide
    rw [if_neg (by simpa using hx)]
    clear hx
    (repeat (first | refine TS.imp ?_ | refine n9 (by decide) ?_))
    refine TR.imp ?_; intro K hK; simp only [go_sem, hP, hn]; (repeat refine vc ?_); refine hK _ ?_; clear K hK
    (repeat (first | refine TS.imp ?_ | refine n9 (by decide) ?_))
    refine Tr.cond rfl (fun hb => ?_) (fun hb => ?_)
    · rw [if_pos (by simpa using hb)]
      (repeat (first | refine TS.imp ?_ | refine n9 (by decide) ?_))
      refine TR.imp ?_; intro K hK; simp only [go_sem, hP, hn]; (repeat refine vc ?_); refine c1 (by rw [hP, hT]; exact one_c Tm 0 (wrap64 (width - 1))) rfl rfl rfl trivial (by simp only [go_sem, hP, hn]; try trivial) (by simp only [go_sem, hP, hn]; try rfl) (by rw [hn]; decide) (by rfl) ?_; simp only [go_sem, hP, hn]; (repeat refine vc ?_); refine hK _ ?_; clear K hK
      (repeat (first | (refine TR.imp ?_; intro K hK; simp only [go_sem, hP, hn]; (repeat refine vc ?_); refine hK _ ?_; clear K hK) | refine TS.imp ?_ | refine n9 (by decide) ?_))
      simp only [RetG, go_sem]; (repeat with_reducible refine vc ?_)
      decide
    · rw [if_neg (by simpa using hb)]
      (repeat (first | refine TS.imp ?_ | refine n9 (by decide) ?_))
      refine TR.imp ?_; intro K hK; simp only [go_sem, hP, hn]; (repeat refine vc ?_); refine c1 (by rw [hP, hT]; exact one_c Tm l hh) rfl rfl rfl trivial (by simp only [go_sem, hP, hn]; try trivial) (by simp only [go_sem, hP, hn]; try rfl) (by rw [hn]; decide) (by rfl) ?_; simp only [go_sem, hP, hn]; (repeat refine vc ?_); refine hK _ ?_; clear K hK
      (repeat (first | (refine TR.imp ?_; intro K hK; simp only [go_sem, hP, hn]; (repeat refine vc ?_); refine hK _ ?_; clear K hK) | refine TS.imp ?_ | refine n9 (by decide) ?_))
      simp only [RetG, go_sem]; (repeat with_reducible refine vc ?_)
      decide
end
theorem has_c {T : World → Prop} (Tm : TP T) (l : List Int) (x : Int) (hl : l.length ≤ 4096) : Ct Go.Proofs.Tryd.prog T 117 [.d (.row [.i .i64 0] (l.map intC)), .d (.i .i64 x)] true (fun r => r = .d (.b (l.contains x))) := by
  refine Ct_of Tm Go.Proofs.Tryd.func117 rfl rfl Go.Proofs.Tryd.ntmps117 (by simp) (rs := [.tmp 4]) rfl fun E hP hn hT => ?_
  (repeat (first | (refine TR.imp ?_; intro K hK; simp only [go_sem, hP, hn]; (repeat refine vc ?_); refine hK _ ?_; clear K hK) | refine TS.imp ?_ | refine n9 (by decide) ?_))
  refine Tr.loop (fun n s => ∃ j : Int, s = ⟨[(0, .d (.row [.i .i64 0] (l.map intC))), (1, .d (.i .i64 x)), (5, .d (.i .i64 j))], []⟩ ∧ 0 ≤ j ∧ j + n = l.length ∧ l.contains x = (l.drop j.toNat).contains x) l.length ⟨_, (Le.mv (by simp only [go_sem, hP, hn]; first | done | (simp; done) | (simp [intC]; done) | (repeat (first | rfl | constructor))) (by simp only [go_sem, hP, hn]; first | done | (simp; done) | (simp [intC]; done) | (repeat (first | rfl | constructor)))), 0, rfl, by omega, by omega, by simp⟩ ?_
  rintro n s ⟨j, rfl, h0, h1, h2⟩
  (repeat (first | (refine TR.imp ?_; intro K hK; simp only [go_sem, hP, hn]; (repeat refine vc ?_); refine hK _ ?_; clear K hK) | refine TS.imp ?_ | refine n9 (by decide) ?_))
  refine Tr.cond rfl (fun hb => ?_) (fun hb => ?_)
  · have hj : j < l.length := by simpa using hb
    (repeat (first | (refine TR.imp ?_; intro K hK; simp only [go_sem, hP, hn]; (repeat refine vc ?_); refine hK _ ?_; clear K hK) | refine TS.imp ?_ | refine n9 (by decide) ?_))
    refine Tr.cond rfl (fun hb => ?_) (fun hb => ?_)
    · (repeat (first | (refine TR.imp ?_; intro K hK; simp only [go_sem, hP, hn]; (repeat refine vc ?_); refine hK _ ?_; clear K hK) | refine TS.imp ?_ | refine n9 (by decide) ?_))
      simp only [RetQ, go_sem]
      rw [h2, drop_rd h0 hj]
      simp_all
    · (repeat (first | (refine TR.imp ?_; intro K hK; simp only [go_sem, hP, hn]; (repeat refine vc ?_); refine hK _ ?_; clear K hK) | refine TS.imp ?_ | refine n9 (by decide) ?_))
      rw [w64 (by omega) (by omega)]
      refine ⟨n - 1, _, by omega, ?_, j + 1, rfl, by omega, by omega, ?_⟩
      · exact (Le.mv (by simp only [go_sem, hP, hn]; first | done | (simp; done) | (simp [intC]; done) | (repeat (first | rfl | constructor))) (by simp only [go_sem, hP, hn]; first | done | (simp; done) | (simp [intC]; done) | (repeat (first | rfl | constructor))))
      rw [h2, drop_rd h0 hj, List.contains_cons, show (x == rd l j) = false by rw [Bool.beq_comm]; exact hb, Bool.false_or]
  · (repeat (first | (refine TR.imp ?_; intro K hK; simp only [go_sem, hP, hn]; (repeat refine vc ?_); refine hK _ ?_; clear K hK) | refine TS.imp ?_ | refine n9 (by decide) ?_))
    simp only [RetQ, go_sem]
    rw [h2, drop_end (by simpa using hb)]
    rfl
theorem first_r {T : World → Prop} (Tm : TP T) (wd lo hi out : Int) (ns : List Nd) (hns : ns.length ≤ 65536) (hin : ∀ n ∈ ns, n.inn.length ≤ 65536) : Ct Go.Proofs.Tryd.prog T 95 [.agg (gcs wd lo hi out (.d (rowN ns)))] true (fun r => r = .d (.i .i64 (mayG wd lo hi out ns))) := by
  refine Ct_of Tm Go.Proofs.Tryd.func95 rfl rfl Go.Proofs.Tryd.ntmps95 (by simp) (rs := [.tmp 2]) rfl fun E hP hn hT => ?_
  (repeat (first | (refine TR.imp ?_; intro K hK; simp only [go_sem, hP, hn]; (repeat refine vc ?_); refine hK _ ?_; clear K hK) | refine TS.imp ?_ | refine n9 (by decide) ?_))
  refine Tr.cond rfl (fun h1 => ?_) (fun h1 => ?_)
  · (repeat (first | (refine TR.imp ?_; intro K hK; simp only [go_sem, hP, hn]; (repeat refine vc ?_); refine hK _ ?_; clear K hK) | refine TS.imp ?_ | refine n9 (by decide) ?_))
    simp only [RetQ, go_sem]
    unfold mayG; rw [if_pos h1]
  (repeat (first | (refine TR.imp ?_; intro K hK; simp only [go_sem, hP, hn]; (repeat refine vc ?_); refine hK _ ?_; clear K hK) | refine TS.imp ?_ | refine n9 (by decide) ?_))
  refine Tr.cond rfl (fun h2 => ?_) (fun h2 => ?_)
  · (repeat (first | (refine TR.imp ?_; intro K hK; simp only [go_sem, hP, hn]; (repeat refine vc ?_); refine hK _ ?_; clear K hK) | refine TS.imp ?_ | refine n9 (by decide) ?_))
    simp only [RetQ, go_sem]
    unfold mayG; rw [if_neg (by rw [h1]; decide), if_pos (show mayQ wd lo hi out ns.length = true from h2)]
  have hN : ns.length ≤ 12 := by
    simp only [Bool.or_eq_false_iff, decide_eq_false_iff_not] at h1; omega
  have key : ∀ b, ns.all (mayN ns.length) = b → mayG wd lo hi out ns = if b = true then 0 else 1 := fun b e => by
    unfold mayG; rw [if_neg (by rw [h1]; decide), if_neg (show ¬ mayQ wd lo hi out ns.length = true from fun h => by rw [show mayQ wd lo hi out ns.length = false from h2] at h; cases h), e]
  clear h1 h2
  (repeat (first | (refine TR.imp ?_; intro K hK; simp only [go_sem, hP, hn]; (repeat refine vc ?_); refine hK _ ?_; clear K hK) | refine TS.imp ?_ | refine n9 (by decide) ?_))
  refine Tr.le (Le.keep [1, 2, 3, 4]) ?_; simp only [List.map_cons, List.map_nil, lk, Nat.reduceEqDiff, reduceIte]
  refine Tr.loop (fun m s => ∃ (i : Int), s = ⟨[(1, .ptr 1 0), (2, .d (.i .i64 0)), (3, .d (.i .i64 ns.length)), (4, .d (.i .i64 i))], [(1, .box 47 (gcs wd lo hi out (.d (rowN ns))))]⟩ ∧ 0 ≤ i ∧ i + m = ns.length ∧ ns.all (mayN ns.length) = (ns.drop i.toNat).all (mayN ns.length)) ns.length ⟨_, (Le.mv (by simp only [go_sem, hP, hn]; first | done | (simp; done) | (simp [intC]; done) | (repeat (first | rfl | constructor))) (by simp only [go_sem, hP, hn]; first | done | (simp; done) | (simp [intC]; done) | (repeat (first | rfl | constructor)))), 0, rfl, by omega, by omega, by simp⟩ ?_
  rintro m s ⟨i, rfl, hi0, him, hall⟩
  (repeat (first | (refine TR.imp ?_; intro K hK; simp only [go_sem, hP, hn]; (repeat refine vc ?_); refine hK _ ?_; clear K hK) | refine TS.imp ?_ | refine n9 (by decide) ?_))
  refine Tr.cond rfl (fun hb => ?_) (fun hb => ?_)
  · have hi1 : i < ns.length := by simpa using hb
    have hnd := rw_nd ns i hi0 hi1
    have hq := hin _ (nd_mem hi0 hi1)
    rw [drop_nd hi0 hi1, List.all_cons] at hall
    (repeat (first | (refine TR.imp ?_; intro K hK; simp only [go_sem, hP, hn]; (repeat refine vc ?_); refine hK _ ?_; clear K hK) | refine TS.imp ?_ | refine n9 (by decide) ?_))
    refine Tr.le (Le.keep [1, 2, 3, 4, 5]) ?_; simp only [List.map_cons, List.map_nil, lk, Nat.reduceEqDiff, reduceIte]
    refine Tr.loop (fun m2 s => ∃ (j : Int), s = ⟨[(1, .ptr 1 0), (2, .d (.i .i64 0)), (3, .d (.i .i64 ns.length)), (4, .d (.i .i64 i)), (5, .d (.i .i64 j))], [(1, .box 47 (gcs wd lo hi out (.d (rowN ns))))]⟩ ∧ 0 ≤ j ∧ j + m2 = (nd ns i).inn.length ∧ mayN ns.length (nd ns i) = ((nd ns i).inn.drop j.toNat).all (inB · 0 ns.length)) (nd ns i).inn.length ⟨_, (Le.mv (by simp only [go_sem, hP, hn]; first | done | (simp; done) | (simp [intC]; done) | (repeat (first | rfl | constructor))) (by simp only [go_sem, hP, hn]; first | done | (simp; done) | (simp [intC]; done) | (repeat (first | rfl | constructor)))), 0, rfl, by omega, by omega, by simp [mayN]⟩ ?_
    rintro m2 s ⟨j, rfl, hj0, hjm, hqa⟩
    (repeat (first | refine TS.imp ?_ | refine n9 (by decide) ?_))
    refine TR.imp ?_; intro K hK; simp only [hnd, go_sem, hP, hn]; (repeat refine vc ?_); refine hK _ ?_; clear K hK
    (repeat (first | refine TS.imp ?_ | refine n9 (by decide) ?_))
    refine Tr.cond rfl (fun hc => ?_) (fun hc => ?_)
    · have hj : j < (nd ns i).inn.length := by simpa using hc
      rw [drop_rd hj0 hj, List.all_cons] at hqa
      (repeat (first | refine TS.imp ?_ | refine n9 (by decide) ?_))
      refine TR.imp ?_; intro K hK; simp only [hnd, go_sem, hP, hn]; (repeat refine vc ?_); refine hK _ ?_; clear K hK
      refine Tr.cond rfl (fun hd => ?_) (fun hd => ?_)
      · (repeat (first | (refine TR.imp ?_; intro K hK; simp only [go_sem, hP, hn]; (repeat refine vc ?_); refine hK _ ?_; clear K hK) | refine TS.imp ?_ | refine n9 (by decide) ?_))
        simp only [RetQ, go_sem]
        have : inB (rd (nd ns i).inn j) 0 ns.length = false := by
          unfold inB; simp only [Bool.or_eq_true, decide_eq_true_eq] at hd; simp; omega
        rw [key false (by rw [hall, hqa, this, Bool.false_and, Bool.false_and])]; rfl
      · (repeat (first | (refine TR.imp ?_; intro K hK; simp only [go_sem, hP, hn]; (repeat refine vc ?_); refine hK _ ?_; clear K hK) | refine TS.imp ?_ | refine n9 (by decide) ?_))
        rw [w64 (x := j + 1) (by omega) (by omega)]
        refine ⟨m2 - 1, _, by omega, ?_, j + 1, rfl, by omega, by omega, ?_⟩
        · exact (Le.mv (by simp only [go_sem, hP, hn]; first | done | (simp; done) | (simp [intC]; done) | (repeat (first | rfl | constructor))) (by simp only [go_sem, hP, hn]; first | done | (simp; done) | (simp [intC]; done) | (repeat (first | rfl | constructor))))
        have : inB (rd (nd ns i).inn j) 0 ns.length = true := by
          unfold inB; simp only [Bool.or_eq_false_iff, decide_eq_false_iff_not] at hd; simp; omega
        rw [hqa, this, Bool.true_and]
    · rw [drop_end (by simpa using hc)] at hqa
      (repeat (first | (refine TR.imp ?_; intro K hK; simp only [go_sem, hP, hn]; (repeat refine vc ?_); refine hK _ ?_; clear K hK) | refine TS.imp ?_ | refine n9 (by decide) ?_))
      rw [w64 (x := i + 1) (by omega) (by omega)]
      refine ⟨m - 1, _, by omega, ?_, i + 1, rfl, by omega, by omega, ?_⟩
      · exact (Le.mv (by simp only [go_sem, hP, hn]; first | done | (simp; done) | (simp [intC]; done) | (repeat (first | rfl | constructor))) (by simp only [go_sem, hP, hn]; first | done | (simp; done) | (simp [intC]; done) | (repeat (first | rfl | constructor))))
      rw [hall, hqa]; rfl
  · rw [drop_end (by simpa using hb)] at hall
    (repeat (first | (refine TR.imp ?_; intro K hK; simp only [go_sem, hP, hn]; (repeat refine vc ?_); refine hK _ ?_; clear K hK) | refine TS.imp ?_ | refine n9 (by decide) ?_))
    simp only [RetQ, go_sem]
    rw [key true (by rw [hall]; rfl)]; rfl
theorem cons0 (o : List Int) (x : Int) : (0 :: o).contains x = (x == 0 || o.contains x) := by simp only [List.contains_cons]
theorem order_r {T : World → Prop} (Tm : TP T) (wd lo hi out : Int) (ns : List Nd) (hns : ns.length ≤ 12) (hin : ∀ n ∈ ns, n.inn.length ≤ 65536) : Cg Go.Proofs.Tryd.prog T 96 [] [.agg (gcs wd lo hi out (.d (rowN ns)))] (fun r H => H = [] ∧ r = .d (.row [.i .i64 0] ((order ns).map intC))) := by
  refine Cg_of [] Tm Go.Proofs.Tryd.func96 rfl rfl Go.Proofs.Tryd.ntmps96 (by simp) rfl (rs := [.tmp 2]) rfl fun E hP hn hT hpn => ?_
  (repeat (first | (refine TR.imp ?_; intro K hK; simp only [go_sem, hP, hn]; (repeat refine vc ?_); refine hK _ ?_; clear K hK) | refine TS.imp ?_ | refine n9 (by decide) ?_))
  refine Tr.le (Le.keep [1, 3, 4]) ?_; simp only [List.map_cons, List.map_nil, lk, Nat.reduceEqDiff, reduceIte]
  refine Tr.le (Le.ren 9 3001 (by rw [hpn] <;> rfl) rfl rfl) ?_; simp only [renT, renH, renO, renS, renL, rn, go_sem, hP, hn]
  refine Tr.loop (fun m s => ∃ (k : Int) (o : List Int), s = ⟨[(1, .ptr 1 0), (3, .own 3001), (4, .d (.i .i64 k))], [(1, .box 47 (gcs wd lo hi out (.d (rowN ns)))), (3001, .row 3 [.i .i64 0] ((0 :: o).map intC))]⟩ ∧ 0 ≤ k ∧ k + m = ns.length ∧ order ns = ordR ns m o ∧ (o.length : Int) ≤ k) ns.length ⟨_, (Le.mv (by simp only [go_sem, hP, hn]; first | done | (simp; done) | (simp [intC]; done) | (repeat (first | rfl | constructor))) (by simp only [go_sem, hP, hn]; first | done | (simp; done) | (simp [intC]; done) | (repeat (first | rfl | constructor)))), 0, [], rfl, by omega, by omega, rfl, by simp⟩ ?_
  rintro m s ⟨k, o, rfl, hk0, hkm, hord, hok⟩
  (repeat (first | (refine TR.imp ?_; intro K hK; simp only [go_sem, hP, hn]; (repeat refine vc ?_); refine hK _ ?_; clear K hK) | refine TS.imp ?_ | refine n9 (by decide) ?_))
  refine Tr.cond rfl (fun hb => ?_) (fun hb => ?_)
  · have hk : k < ns.length := by simpa using hb
    have hnx0 : order ns = match nextO ns o ns.length 1 with
      | none => ordR ns (m - 1) o
      | some i => ordR ns (m - 1) (o ++ [i]) := by
      rw [hord]
      obtain ⟨m', rfl⟩ : ∃ m', m = m' + 1 := ⟨m - 1, by omega⟩
      rfl
    (repeat (first | (refine TR.imp ?_; intro K hK; simp only [go_sem, hP, hn]; (repeat refine vc ?_); refine hK _ ?_; clear K hK) | refine TS.imp ?_ | refine n9 (by decide) ?_))
    refine Tr.le (Le.keep [1, 3, 4, 5]) ?_; simp only [List.map_cons, List.map_nil, lk, Nat.reduceEqDiff, reduceIte]
    refine Tr.loop (fun m2 s => ∃ (i : Int), s = ⟨[(1, .ptr 1 0), (3, .own 3001), (4, .d (.i .i64 k)), (5, .d (.i .i64 i))], [(1, .box 47 (gcs wd lo hi out (.d (rowN ns)))), (3001, .row 3 [.i .i64 0] ((0 :: o).map intC))]⟩ ∧ 1 ≤ i ∧ i + m2 = ns.length + 1 ∧ nextO ns o ns.length 1 = nextO ns o m2 i) ns.length ⟨_, (Le.mv (by simp only [go_sem, hP, hn]; first | done | (simp; done) | (simp [intC]; done) | (repeat (first | rfl | constructor))) (by simp only [go_sem, hP, hn]; first | done | (simp; done) | (simp [intC]; done) | (repeat (first | rfl | constructor)))), 1, rfl, by omega, by omega, rfl⟩ ?_
    rintro m2 s ⟨i, rfl, hi0, him, hnx⟩
    (repeat (first | (refine TR.imp ?_; intro K hK; simp only [go_sem, hP, hn]; (repeat refine vc ?_); refine hK _ ?_; clear K hK) | refine TS.imp ?_ | refine n9 (by decide) ?_))
    refine Tr.cond rfl (fun hc => ?_) (fun hc => ?_)
    · have hi1 : i ≤ ns.length := by simpa using hc
      obtain ⟨m3, rfl⟩ : ∃ m3, m2 = m3 + 1 := ⟨m2 - 1, by omega⟩
      have hiw : wrap64 (i - 1) = i - 1 := w64 (by omega) (by omega)
      have hnd := rw_nd ns (i - 1) (by omega) (by omega)
      have hq := hin _ (nd_mem (ns := ns) (i := i - 1) (by omega) (by omega))
      have hmay : mayO ns o i = (!(0 :: o).contains i && (nd ns (i - 1)).inn.all fun j => (0 :: o).contains j) := by
        unfold mayO
        simp only [cons0, show (i == (0 : Int)) = false by simpa using (by omega : i ≠ 0), Bool.false_or]
      have hol : (0 :: o).length ≤ 4096 := by simp; omega
      (repeat (first | refine TS.imp ?_ | refine n9 (by decide) ?_))
      refine TR.imp ?_; intro K hK; simp only [go_sem, hP, hn]
      (repeat refine vc ?_)
      refine c1 (by rw [hP, hT]; exact has_c Tm (0 :: o) i hol) rfl rfl rfl trivial (by simp only [go_sem, hP, hn]; try trivial) (by simp only [go_sem, hP, hn]; try rfl) (by rw [hn]; decide) (by rfl) ?_; simp only [go_sem, hP, hn]; (repeat refine vc ?_)
      refine hK _ ?_; clear K hK
      refine Tr.le (Le.keep [1, 3, 4, 5, 6]) ?_; simp only [List.map_cons, List.map_nil, lk, Nat.reduceEqDiff, reduceIte]
      (repeat (first | refine TS.imp ?_ | refine n9 (by decide) ?_))
      refine TR.imp ?_; intro K hK; simp only [hiw, hnd, go_sem, hP, hn]; (repeat refine vc ?_); refine hK _ ?_; clear K hK
      generalize nd ns (i - 1) = q at hq hmay ⊢
      (repeat (first | (refine TR.imp ?_; intro K hK; simp only [go_sem, hP, hn]; (repeat refine vc ?_); refine hK _ ?_; clear K hK) | refine TS.imp ?_ | refine n9 (by decide) ?_))
      refine Tr.le (Le.keep [1, 3, 4, 5, 6, 7, 8]) ?_; simp only [List.map_cons, List.map_nil, lk, Nat.reduceEqDiff, reduceIte]
      refine Tr.loop (fun m4 s => ∃ (j : Int) (mv : Bool), s = ⟨[(1, .ptr 1 0), (3, .own 3001), (4, .d (.i .i64 k)), (5, .d (.i .i64 i)), (6, .d (.b mv)), (7, .d (.row [.i .i64 0] (q.inn.map intC))), (8, .d (.i .i64 j))], [(1, .box 47 (gcs wd lo hi out (.d (rowN ns)))), (3001, .row 3 [.i .i64 0] ((0 :: o).map intC))]⟩ ∧ 0 ≤ j ∧ j + m4 = q.inn.length ∧ mayO ns o i = (mv && (q.inn.drop j.toNat).all fun j => (0 :: o).contains j)) q.inn.length ⟨_, (Le.mv (by simp only [go_sem, hP, hn]; first | done | (simp; done) | (simp [intC]; done) | (repeat (first | rfl | constructor))) (by simp only [go_sem, hP, hn]; first | done | (simp; done) | (simp [intC]; done) | (repeat (first | rfl | constructor)))), 0, _, rfl, by omega, by omega, hmay⟩ ?_
      rintro m4 s ⟨j, mv, rfl, hj0, hjm, hmv⟩
      (repeat (first | (refine TR.imp ?_; intro K hK; simp only [go_sem, hP, hn]; (repeat refine vc ?_); refine hK _ ?_; clear K hK) | refine TS.imp ?_ | refine n9 (by decide) ?_))
      refine Tr.cond rfl (fun hd => ?_) (fun hd => ?_)
      · have hj : j < q.inn.length := by simpa using hd
        rw [drop_rd hj0 hj, List.all_cons, ← Bool.and_assoc] at hmv
        (repeat (first | refine TS.imp ?_ | refine n9 (by decide) ?_))
        refine TR.imp ?_; intro K hK; simp only [go_sem, hP, hn]
        (repeat refine vc ?_)
        refine c2 (fun hg => by rw [hP, hT]; exact has_c Tm (0 :: o) (rd q.inn j) hol) rfl rfl rfl (fun hg => trivial) (fun hg => by clear hK; revert hg; simp only [go_sem, hP, hn]; first | trivial | omega | (simp; done) | (simp +contextual; done) | grind) (fun hg => by simp only [go_sem, hP, hn]; try rfl) (by rw [hn]; decide) (by rfl) ?_; simp only [go_sem, hP, hn]; (repeat refine vc ?_)
        (repeat refine vc ?_)
        refine hK _ ?_; clear K hK
        (repeat (first | (refine TR.imp ?_; intro K hK; simp only [go_sem, hP, hn]; (repeat refine vc ?_); refine hK _ ?_; clear K hK) | refine TS.imp ?_ | refine n9 (by decide) ?_))
        rw [w64 (x := j + 1) (by omega) (by omega)]
        refine ⟨m4 - 1, _, by omega, ?_, j + 1, (mv && (0 :: o).contains (rd q.inn j)), rfl, by omega, by omega, hmv⟩
        exact (Le.mv (by simp only [go_sem, hP, hn]; first | done | (simp; done) | (simp [intC]; done) | (repeat (first | rfl | constructor))) (by simp only [go_sem, hP, hn]; first | done | (simp; done) | (simp [intC]; done) | (repeat (first | rfl | constructor))))
      · rw [drop_end (by simpa using hd)] at hmv
        have hmv2 : mayO ns o i = mv := by rw [hmv]; simp
        (repeat (first | (refine TR.imp ?_; intro K hK; simp only [go_sem, hP, hn]; (repeat refine vc ?_); refine hK _ ?_; clear K hK) | refine TS.imp ?_ | refine n9 (by decide) ?_))
        refine Tr.cond rfl (fun he => ?_) (fun he => ?_)
        · subst he
          (repeat (first | (refine TR.imp ?_; intro K hK; simp only [go_sem, hP, hn]; (repeat refine vc ?_); refine hK _ ?_; clear K hK) | refine TS.imp ?_ | refine n9 (by decide) ?_))
          rw [w64 (x := k + 1) (by omega) (by omega)]
          refine ⟨m - 1, _, by omega, ?_, k + 1, o ++ [i], rfl, by omega, by omega, ?_, by simp; omega⟩
          · refine Le.trans (b := ⟨[(1, .ptr 1 0), (3, .own 54), (4, .d (.i .i64 (k + 1)))], [(1, .box 47 (gcs wd lo hi out (.d (rowN ns)))), (54, .row 3 [.i .i64 0] ((0 :: (o ++ [i])).map intC))]⟩) (Le.mv (by simp only [go_sem, hP, hn]; first | done | (simp; done) | (simp [intC]; done) | (repeat (first | rfl | constructor))) (by simp only [go_sem, hP, hn]; first | done | (simp; done) | (simp [intC]; done) | (repeat (first | rfl | constructor)))) ?_
            refine Le.trans (Le.ren 54 3001 (by rw [hpn] <;> rfl) rfl rfl) ?_; simp only [renT, renH, renO, renS, renL, rn, go_sem, hP, hn]
            exact (Le.mv (by simp only [go_sem, hP, hn]; first | done | (simp; done) | (simp [intC]; done) | (repeat (first | rfl | constructor))) (by simp only [go_sem, hP, hn]; first | done | (simp; done) | (simp [intC]; done) | (repeat (first | rfl | constructor))))
          · rw [hnx0, hnx]; show (match (if mayO ns o i = true then some i else _) with | none => _ | some i => _) = _; rw [if_pos hmv2]
        · subst he
          (repeat (first | (refine TR.imp ?_; intro K hK; simp only [go_sem, hP, hn]; (repeat refine vc ?_); refine hK _ ?_; clear K hK) | refine TS.imp ?_ | refine n9 (by decide) ?_))
          rw [w64 (x := i + 1) (by omega) (by omega)]
          refine ⟨m3, _, by omega, ?_, i + 1, rfl, by omega, by omega, ?_⟩
          · exact (Le.mv (by simp only [go_sem, hP, hn]; first | done | (simp; done) | (simp [intC]; done) | (repeat (first | rfl | constructor))) (by simp only [go_sem, hP, hn]; first | done | (simp; done) | (simp [intC]; done) | (repeat (first | rfl | constructor))))
          · rw [hnx]; show (if mayO ns o i = true then _ else _) = _; rw [if_neg (by rw [hmv2]; decide)]
    · have hm2 : m2 = 0 := by have := of_decide_eq_false hc; omega
      subst hm2
      (repeat (first | (refine TR.imp ?_; intro K hK; simp only [go_sem, hP, hn]; (repeat refine vc ?_); refine hK _ ?_; clear K hK) | refine TS.imp ?_ | refine n9 (by decide) ?_))
      rw [w64 (x := k + 1) (by omega) (by omega)]
      refine ⟨m - 1, _, by omega, ?_, k + 1, o, rfl, by omega, by omega, ?_, by omega⟩
      · exact (Le.mv (by simp only [go_sem, hP, hn]; first | done | (simp; done) | (simp [intC]; done) | (repeat (first | rfl | constructor))) (by simp only [go_sem, hP, hn]; first | done | (simp; done) | (simp [intC]; done) | (repeat (first | rfl | constructor))))
      · rw [hnx0, hnx]; rfl
  · have hm : m = 0 := by have := of_decide_eq_false hb; omega
    subst hm
    refine Tr.le (Le.freeze 3001) ?_
    simp only [go_sem, hP, hn]
    (repeat (first | refine TS.imp ?_ | refine n9 (by decide) ?_))
    refine TR.imp ?_; intro K hK; simp only [go_sem, hP, hn]; (repeat refine vc ?_); refine hK _ ?_; clear K hK
    (repeat (first | refine TS.imp ?_ | refine n9 (by decide) ?_))
    simp only [RetG, go_sem]; (repeat with_reducible refine vc ?_)
    rw [hord, List.take_of_length_le (by simp)]; rfl
/-- what ref16.Look tells, walking along an order -/
def lookM (ns : List Nd) : List Int → List Int → List Int → Int × List Int × List Int
  | [], W, R => (0, W, R)
  | i :: r, W, R =>
    if ((nd ns (i - 1)).rchk ((nd ns (i - 1)).inn.map (rd W)) != 0) = true then ((nd ns (i - 1)).rchk ((nd ns (i - 1)).inn.map (rd W)), [], [])
    else if decide ((nd ns (i - 1)).rate ((nd ns (i - 1)).inn.map (rd R)) < 0) = true then (15, [], [])
    else lookM ns r (W.set i.toNat ((nd ns (i - 1)).rwide ((nd ns (i - 1)).inn.map (rd W)))) (R.set i.toNat ((nd ns (i - 1)).rate ((nd ns (i - 1)).inn.map (rd R))))
def lookR (wd lo hi out : Int) (ns : List Nd) : Int × List Int × List Int × List Int :=
  if (mayG wd lo hi out ns != 0) = true then (mayG wd lo hi out ns, [], [], [])
  else if decide (((order ns).length : Int) < ns.length) = true then (13, [], [], [])
  else match lookM ns (order ns) (wd :: List.replicate ns.length 0) (1 :: List.replicate ns.length 0) with
    | (e, W, R) => if (e != 0) = true then (e, [], [], []) else (0, order ns, W, R)
theorem lookM_cons (ns : List Nd) (i : Int) (r W R : List Int) : lookM ns (i :: r) W R = if ((nd ns (i - 1)).rchk ((nd ns (i - 1)).inn.map (rd W)) != 0) = true then ((nd ns (i - 1)).rchk ((nd ns (i - 1)).inn.map (rd W)), [], [])
    else if decide ((nd ns (i - 1)).rate ((nd ns (i - 1)).inn.map (rd R)) < 0) = true then (15, [], [])
    else lookM ns r (W.set i.toNat ((nd ns (i - 1)).rwide ((nd ns (i - 1)).inn.map (rd W)))) (R.set i.toNat ((nd ns (i - 1)).rate ((nd ns (i - 1)).inn.map (rd R)))) := rfl
def rtup (q : Int × List Int × List Int × List Int) : S := .agg [.d (.row [.i .i64 0] (q.2.1.map intC)), .d (.row [.i .i64 0] (q.2.2.1.map intC)), .d (.row [.i .i64 0] (q.2.2.2.map intC)), .d (.i .i64 q.1)]
theorem rd_set_same {l : List Int} {i v : Int} (hi : 0 ≤ i) (hi2 : i < l.length) : rd (l.set i.toNat v) i = v := by
  unfold rd
  rw [List.getD_eq_getElem?_getD, List.getElem?_set, if_pos rfl, if_pos (by omega)]; rfl
theorem Look_r {T : World → Prop} (Tm : TP T) (wd lo hi out : Int) (ns : List Nd) (hns : ns.length ≤ 65536) (hin : ∀ n ∈ ns, n.inn.length ≤ 4096 ∧ n.ws.length ≤ 65536 ∧ n.bs.length ≤ 65536) : Cg Go.Proofs.Tryd.prog T 55 [] [.agg (gcs wd lo hi out (.d (rowN ns)))] (fun r H => H = [] ∧ r = rtup (lookR wd lo hi out ns)) := by
  refine Cg_of [] Tm Go.Proofs.Tryd.func55 rfl rfl Go.Proofs.Tryd.ntmps55 (by simp) rfl (rs := [.cell 2 85]) rfl fun E hP hn hT hpn => ?_
  (repeat (first | refine TS.imp ?_ | refine n9 (by decide) ?_))
  refine TR.imp ?_; intro K hK; simp only [go_sem, hP, hn]; (repeat refine vc ?_); refine hK _ ?_; clear K hK
  (repeat (first | refine TS.imp ?_ | refine n9 (by decide) ?_))
  refine TR.imp ?_; intro K hK; simp only [go_sem, hP, hn]
  (repeat refine vc ?_)
  refine c1 (by rw [hP, hT]; exact first_r Tm wd lo hi out ns hns (fun n h => by have := hin n h; omega)) rfl rfl rfl trivial (by simp only [go_sem, hP, hn]; try trivial) (by simp only [go_sem, hP, hn]; try rfl) (by rw [hn]; decide) (by rfl) ?_; simp only [go_sem, hP, hn]; (repeat refine vc ?_)
  refine hK _ ?_; clear K hK
  (repeat (first | (refine TR.imp ?_; intro K hK; simp only [go_sem, hP, hn]; (repeat refine vc ?_); refine hK _ ?_; clear K hK) | refine TS.imp ?_ | refine n9 (by decide) ?_))
  refine Tr.cond rfl (fun h1 => ?_) (fun h1 => ?_)
  · (repeat (first | refine TS.imp ?_ | refine n9 (by decide) ?_))
    refine TR.imp ?_; intro K hK; simp only [go_sem, hP, hn]; (repeat refine vc ?_); refine hK _ ?_; clear K hK
    refine Tr.le (Le.wbox 2 [.d (.row [.i .i64 0] []), .d (.row [.i .i64 0] []), .d (.row [.i .i64 0] []), _] rfl ⟨.inr ⟨rfl, _, rfl⟩, .inr ⟨rfl, _, rfl⟩, .inr ⟨rfl, _, rfl⟩, .inl rfl, trivial⟩) ?_; simp only [go_sem, hP, hn]
    (repeat (first | (refine TR.imp ?_; intro K hK; simp only [go_sem, hP, hn]; (repeat refine vc ?_); refine hK _ ?_; clear K hK) | refine TS.imp ?_ | refine n9 (by decide) ?_))
    simp only [RetG, go_sem]; (repeat with_reducible refine vc ?_)
    rw [show lookR wd lo hi out ns = (mayG wd lo hi out ns, [], [], []) from if_pos h1]; rfl
  have hmay : mayG wd lo hi out ns = 0 := bne_eq_false_iff_eq.mp h1
  have hLG : lookR wd lo hi out ns = if decide (((order ns).length : Int) < ns.length) = true then (13, [], [], []) else match lookM ns (order ns) (wd :: List.replicate ns.length 0) (1 :: List.replicate ns.length 0) with | (e, W, R) => if (e != 0) = true then (e, [], [], []) else (0, order ns, W, R) := by
    unfold lookR; rw [if_neg (by rw [h1]; decide)]
  have hN := mayG_ok hmay
  clear h1
  (repeat (first | refine TS.imp ?_ | refine n9 (by decide) ?_))
  refine TR.imp ?_; intro K hK; simp only [go_sem, hP, hn]
  (repeat refine vc ?_)
  refine CallN_cs (Hi := [] ) (by rw [hP, hT]; exact  order_r Tm wd lo hi out ns hN.2.1 (fun n h => by have := hin n h; omega)) rfl rfl rfl trivial (by simp only [go_sem, hP, hn]; try trivial) (by simp only [go_sem, hP, hn]; try rfl) (by simp only [inH, go_sem, hP, hn]; try simp) (by rw [hn]; decide) ?_; simp only [go_sem, hP, hn]; (repeat refine vc ?_)
  refine hK _ ?_; clear K hK
  (repeat (first | (refine TR.imp ?_; intro K hK; simp only [go_sem, hP, hn]; (repeat refine vc ?_); refine hK _ ?_; clear K hK) | refine TS.imp ?_ | refine n9 (by decide) ?_))
  refine Tr.cond rfl (fun h2 => ?_) (fun h2 => ?_)
  · (repeat (first | refine TS.imp ?_ | refine n9 (by decide) ?_))
    refine TR.imp ?_; intro K hK; simp only [go_sem, hP, hn]; (repeat refine vc ?_); refine hK _ ?_; clear K hK
    refine Tr.le (Le.wbox 2 [.d (.row [.i .i64 0] []), .d (.row [.i .i64 0] []), .d (.row [.i .i64 0] []), _] rfl ⟨.inr ⟨rfl, _, rfl⟩, .inr ⟨rfl, _, rfl⟩, .inr ⟨rfl, _, rfl⟩, .inl rfl, trivial⟩) ?_; simp only [go_sem, hP, hn]
    (repeat (first | (refine TR.imp ?_; intro K hK; simp only [go_sem, hP, hn]; (repeat refine vc ?_); refine hK _ ?_; clear K hK) | refine TS.imp ?_ | refine n9 (by decide) ?_))
    simp only [RetG, go_sem]; (repeat with_reducible refine vc ?_)
    rw [hLG, if_pos h2]; rfl
  rw [if_neg (by rw [h2]; decide)] at hLG
  have hle := (ordR_length (ns := ns) ns.length []).2
  have hol : (order ns).length = ns.length := by
    have := of_decide_eq_false h2
    have h3 : (order ns).length ≤ ns.length := by
      show (ordR ns ns.length []).length ≤ _
      simpa using hle
    omega
  have hor : ∀ x ∈ order ns, 1 ≤ x ∧ x ≤ ns.length := ordR_range (by simp)
  clear h2 hle
  generalize hos : order ns = os at hLG hol hor ⊢
  (repeat (first | refine TS.imp ?_ | refine n9 (by decide) ?_))
  refine Tr.le (Le.keep [1, 2, 4]) ?_; simp only [List.map_cons, List.map_nil, lk, Nat.reduceEqDiff, reduceIte]
  refine Tr.meet (fun s => s = ⟨[(1, .ptr 1 0), (2, .ptr 2 0), (4, .d (.row [.i .i64 0] (os.map intC))), (5, .ptr 5 0)], [(1, .box 47 (gcs wd lo hi out (.d (rowN ns)))), (2, .box 85 [.d .nil, .d .nil, .d .nil, .d (.i .i64 0)]), (5, .box 85 [.d (.row [.i .i64 0] (os.map intC)), .own 32, .own 37, .d (.i .i64 0)]), (32, .row 3 [.i .i64 0] ((List.replicate (ns.length + 1) 0).map intC)), (37, .row 3 [.i .i64 0] ((List.replicate (ns.length + 1) 0).map intC))]⟩) ?_ ?_
  rotate_left
  · (first | refine d1 (.p true 0 (.p true 1 (.p true 2 (.p true 3 (.p true 4 (.p true 6 (.p true 7 (.p true 8 (.p true 9 (.alt 5 (.alt 10 (.p false 11 (.alt 12 (.alt 13 .nil .nil) .nil)) (.alt 12 (.alt 10 (.p false 11 (.alt 13 .nil .nil)) .nil) .nil)) (.alt 10 (.alt 5 (.p false 11 (.alt 12 (.alt 13 .nil .nil) .nil)) (.alt 12 (.alt 5 (.p false 11 (.alt 13 .nil .nil)) .nil) .nil)) (.alt 12 (.alt 5 (.alt 10 (.p false 11 (.alt 13 .nil .nil)) .nil) (.alt 10 (.alt 5 (.p false 11 (.alt 13 .nil .nil)) .nil) .nil)) .nil)))))))))))) [] (by rw [hP]; kernel_rfl) (by kernel_rfl) (by simp only [go_sem, hP, hn]; try simp) (fun _ _ h => h) fun K hK => ?_ | refine d2 (.p true 0 (.p true 1 (.p true 2 (.p true 3 (.p true 4 (.p true 6 (.p true 7 (.p true 8 (.p true 9 (.alt 5 (.alt 10 (.p false 11 (.alt 12 (.alt 13 .nil .nil) .nil)) (.alt 12 (.alt 10 (.p false 11 (.alt 13 .nil .nil)) .nil) .nil)) (.alt 10 (.alt 5 (.p false 11 (.alt 12 (.alt 13 .nil .nil) .nil)) (.alt 12 (.alt 5 (.p false 11 (.alt 13 .nil .nil)) .nil) .nil)) (.alt 12 (.alt 5 (.alt 10 (.p false 11 (.alt 13 .nil .nil)) .nil) (.alt 10 (.alt 5 (.p false 11 (.alt 13 .nil .nil)) .nil) .nil)) .nil)))))))))))) [] (by rw [hP]; kernel_rfl) (by kernel_rfl) (by simp only [go_sem, hP, hn]; try simp) (fun _ _ h => h) fun K hK => ?_ | refine d4 (.p true 0 (.p true 1 (.p true 2 (.p true 3 (.p true 4 (.p true 6 (.p true 7 (.p true 8 (.p true 9 (.alt 5 (.alt 10 (.p false 11 (.alt 12 (.alt 13 .nil .nil) .nil)) (.alt 12 (.alt 10 (.p false 11 (.alt 13 .nil .nil)) .nil) .nil)) (.alt 10 (.alt 5 (.p false 11 (.alt 12 (.alt 13 .nil .nil) .nil)) (.alt 12 (.alt 5 (.p false 11 (.alt 13 .nil .nil)) .nil) .nil)) (.alt 12 (.alt 5 (.alt 10 (.p false 11 (.alt 13 .nil .nil)) .nil) (.alt 10 (.alt 5 (.p false 11 (.alt 13 .nil .nil)) .nil) .nil)) .nil)))))))))))) [] (by rw [hP]; kernel_rfl) (by kernel_rfl) (by simp only [go_sem, hP, hn]; try simp) (fun _ _ h => h) fun K hK => ?_); simp only [go_sem, hP, hn]
    simp only [show wrap64 ((ns.length : Int) + 1) = ((ns.length + 1 : Nat) : Int) from w64 (by omega) (by omega), Int.toNat_natCast]
    (repeat' (refine And.intro ?_ ?_)); all_goals (first | (refine hK _ ?_; (refine ⟨_, ?_, rfl⟩; exact (Le.mv (by simp only [go_sem, hP, hn]; first | done | (simp; done) | (simp [intC]; done) | (repeat (first | rfl | constructor))) (by simp only [go_sem, hP, hn]; first | done | (simp; done) | (simp [intC]; done) | (repeat (first | rfl | constructor)))))) | (first | trivial | omega | (simp <;> omega) | (simp +contextual; done) | (clear hK; grind)))
  rintro s rfl
  (repeat (first | (refine TR.imp ?_; intro K hK; simp only [go_sem, hP, hn]; (repeat refine vc ?_); refine hK _ ?_; clear K hK) | refine TS.imp ?_ | refine n9 (by decide) ?_))
  rw [show (List.replicate (ns.length + 1) (0 : Int)).set 0 1 = 1 :: List.replicate ns.length 0 from rfl, show (List.replicate (ns.length + 1) (0 : Int)).set 0 wd = wd :: List.replicate ns.length 0 from rfl]
  refine Tr.le (Le.keep [1, 2, 4, 5, 6]) ?_; simp only [List.map_cons, List.map_nil, lk, Nat.reduceEqDiff, reduceIte]
  refine Tr.loop (fun m s => ∃ (k : Int) (W R : List Int), s = ⟨[(1, .ptr 1 0), (2, .ptr 2 0), (4, .d (.row [.i .i64 0] (os.map intC))), (5, .ptr 5 0), (6, .d (.i .i64 k))], [(1, .box 47 (gcs wd lo hi out (.d (rowN ns)))), (2, .box 85 [.d .nil, .d .nil, .d .nil, .d (.i .i64 0)]), (5, .box 85 [.d (.row [.i .i64 0] (os.map intC)), .own 32, .own 37, .d (.i .i64 0)]), (32, .row 3 [.i .i64 0] (W.map intC)), (37, .row 3 [.i .i64 0] (R.map intC))]⟩ ∧ 0 ≤ k ∧ k + m = os.length ∧ W.length = ns.length + 1 ∧ R.length = ns.length + 1 ∧ lookM ns os (wd :: List.replicate ns.length 0) (1 :: List.replicate ns.length 0) = lookM ns (os.drop k.toNat) W R) os.length ⟨_, (Le.mv (by simp only [go_sem, hP, hn]; first | done | (simp; done) | (simp [intC]; done) | (repeat (first | rfl | constructor))) (by simp only [go_sem, hP, hn]; first | done | (simp; done) | (simp [intC]; done) | (repeat (first | rfl | constructor)))), 0, wd :: List.replicate ns.length 0, 1 :: List.replicate ns.length 0, rfl, by omega, by omega, by simp, by simp, rfl⟩ ?_
  rintro m s ⟨k, W, R, rfl, hk0, hkm, hWl, hRl, hL⟩
  (repeat (first | (refine TR.imp ?_; intro K hK; simp only [go_sem, hP, hn]; (repeat refine vc ?_); refine hK _ ?_; clear K hK) | refine TS.imp ?_ | refine n9 (by decide) ?_))
  refine Tr.cond rfl (fun hb => ?_) (fun hb => ?_)
  · have hk1 : k < os.length := by simpa using hb
    rw [drop_rd hk0 hk1, lookM_cons] at hL
    have hiB := hor _ (rd_mem hk0 hk1)
    have hiw : wrap64 (rd os k - 1) = rd os k - 1 := w64 (by omega) (by omega)
    have hnd := rw_nd ns (rd os k - 1) (by omega) (by omega)
    have hmem := nd_mem (ns := ns) (i := rd os k - 1) (by omega) (by omega)
    have hq := hin _ hmem
    have hqi := hN.2.2 _ hmem
    (repeat (first | refine TS.imp ?_ | refine n9 (by decide) ?_))
    refine Tr.meet (fun s => s = ⟨[(1, .ptr 1 0), (2, .ptr 2 0), (4, .d (.row [.i .i64 0] (os.map intC))), (5, .ptr 5 0), (6, .d (.i .i64 k)), (7, .ptr 7 0)], [(7, .box 27 (nd ns (rd os k - 1)).cs), (1, .box 47 (gcs wd lo hi out (.d (rowN ns)))), (2, .box 85 [.d .nil, .d .nil, .d .nil, .d (.i .i64 0)]), (5, .box 85 [.d (.row [.i .i64 0] (os.map intC)), .own 32, .own 37, .d (.i .i64 0)]), (32, .row 3 [.i .i64 0] (W.map intC)), (37, .row 3 [.i .i64 0] (R.map intC))]⟩) ?_ ?_
    rotate_left
    · (first | refine d1 (.p true 0 (.p true 1 (.p true 2 (.p true 3 (.p true 4 (.p true 5 (.p true 6 (.p true 7 (.p true 8 (.alt 9 (.alt 10 .nil .nil) .nil)))))))))) [] (by rw [hP]; kernel_rfl) (by kernel_rfl) (by simp only [go_sem, hP, hn]; try simp) (fun _ _ h => h) fun K hK => ?_ | refine d2 (.p true 0 (.p true 1 (.p true 2 (.p true 3 (.p true 4 (.p true 5 (.p true 6 (.p true 7 (.p true 8 (.alt 9 (.alt 10 .nil .nil) .nil)))))))))) [] (by rw [hP]; kernel_rfl) (by kernel_rfl) (by simp only [go_sem, hP, hn]; try simp) (fun _ _ h => h) fun K hK => ?_ | refine d4 (.p true 0 (.p true 1 (.p true 2 (.p true 3 (.p true 4 (.p true 5 (.p true 6 (.p true 7 (.p true 8 (.alt 9 (.alt 10 .nil .nil) .nil)))))))))) [] (by rw [hP]; kernel_rfl) (by kernel_rfl) (by simp only [go_sem, hP, hn]; try simp) (fun _ _ h => h) fun K hK => ?_); simp only [go_sem, hP, hn]
      simp only [hiw, hnd, go_sem, hP, hn]
      (repeat' (refine And.intro ?_ ?_)); all_goals (first | (refine hK _ ?_; (refine ⟨_, ?_, rfl⟩; exact (Le.mv (by simp only [go_sem, hP, hn]; first | done | (simp; done) | (simp [intC]; done) | (repeat (first | rfl | constructor))) (by simp only [go_sem, hP, hn]; first | done | (simp; done) | (simp [intC]; done) | (repeat (first | rfl | constructor)))))) | (first | trivial | omega | (simp <;> omega) | (simp +contextual; done) | (clear hK; grind)))
    rintro s rfl
    clear hiw hnd hmem
    generalize nd ns (rd os k - 1) = q at hq hqi hL ⊢
    have hqW : ∀ x ∈ q.inn, (0 ≤ x ∧ x < W.length) ∧ x < R.length := fun x hx => by have := hqi x hx; omega
    have hml : (q.inn.map (rd W)).length ≤ 65536 := by rw [List.length_map]; omega
    have hmr : (q.inn.map (rd R)).length ≤ 65536 := by rw [List.length_map]; omega
    (repeat (first | refine TS.imp ?_ | refine n9 (by decide) ?_))
    refine TR.imp ?_; intro K hK; simp only [go_sem, hP, hn]; (repeat refine vc ?_); refine hK _ ?_; clear K hK
    (repeat (first | refine TS.imp ?_ | refine n9 (by decide) ?_))
    refine TR.imp ?_; intro K hK; simp only [go_sem, hP, hn]; (repeat refine vc ?_); refine hK _ ?_; clear K hK
    (repeat (first | refine TS.imp ?_ | refine n9 (by decide) ?_))
    refine TR.imp ?_; intro K hK; simp only [go_sem, hP, hn]; (repeat refine vc ?_); refine hK _ ?_; clear K hK
    (repeat (first | refine TS.imp ?_ | refine n9 (by decide) ?_))
    refine Tr.le (Le.keep [1, 2, 4, 5, 6, 7, 8, 9, 10]) ?_; simp only [List.map_cons, List.map_nil, lk, Nat.reduceEqDiff, reduceIte]
    refine Tr.le (Le.nilslot 3001 8 3 [.i .i64 0] rfl (by rw [hpn] <;> rfl) rfl rfl) ?_
    refine Tr.le (Le.nilslot 3002 9 3 [.i .i64 0] rfl (by rw [hpn] <;> rfl) rfl rfl) ?_
    refine Tr.loop (fun m2 s => ∃ (j : Int), s = ⟨[(1, .ptr 1 0), (2, .ptr 2 0), (4, .d (.row [.i .i64 0] (os.map intC))), (5, .ptr 5 0), (6, .d (.i .i64 k)), (7, .ptr 7 0), (8, .own 3001), (9, .own 3002), (10, .d (.i .i64 j))], [(3001, .row 3 [.i .i64 0] (((q.inn.take j.toNat).map (rd W)).map intC)), (3002, .row 3 [.i .i64 0] (((q.inn.take j.toNat).map (rd R)).map intC)), (7, .box 27 q.cs), (1, .box 47 (gcs wd lo hi out (.d (rowN ns)))), (2, .box 85 [.d .nil, .d .nil, .d .nil, .d (.i .i64 0)]), (5, .box 85 [.d (.row [.i .i64 0] (os.map intC)), .own 32, .own 37, .d (.i .i64 0)]), (32, .row 3 [.i .i64 0] (W.map intC)), (37, .row 3 [.i .i64 0] (R.map intC))]⟩ ∧ 0 ≤ j ∧ j + m2 = q.inn.length) q.inn.length ⟨_, (Le.mv (by simp only [go_sem, hP, hn]; first | done | (simp; done) | (simp [intC]; done) | (repeat (first | rfl | constructor))) (by simp only [go_sem, hP, hn]; first | done | (simp; done) | (simp [intC]; done) | (repeat (first | rfl | constructor)))), 0, rfl, by omega, by omega⟩ ?_
    rintro m2 s ⟨j, rfl, hj0, hjm⟩
    (repeat (first | (refine TR.imp ?_; intro K hK; simp only [go_sem, hP, hn]; (repeat refine vc ?_); refine hK _ ?_; clear K hK) | refine TS.imp ?_ | refine n9 (by decide) ?_))
    refine Tr.cond rfl (fun hc => ?_) (fun hc => ?_)
    · have hj : j < q.inn.length := by simpa using hc
      have hjx := hqW _ (rd_mem hj0 hj)
      have htl : (q.inn.take j.toNat).length = j.toNat := by simp; omega
      refine Tr.le (Le.keep [1, 2, 4, 5, 6, 7, 8, 9, 10]) ?_; simp only [List.map_cons, List.map_nil, lk, Nat.reduceEqDiff, reduceIte]
      (repeat (first | refine TS.imp ?_ | refine n9 (by decide) ?_))
      (first | refine d1 (.p true 0 (.p true 1 (.p true 2 (.p true 3 (.p true 4 (.p true 5 (.p true 6 (.p true 7 (.p true 8 (.p true 9 (.alt 10 (.alt 11 (.p false 12 .nil) .nil) .nil))))))))))) [3001] (by rw [hP]; kernel_rfl) (by kernel_rfl) (by simp only [go_sem, hP, hn]; try simp) (fun _ _ h => h) fun K hK => ?_ | refine d2 (.p true 0 (.p true 1 (.p true 2 (.p true 3 (.p true 4 (.p true 5 (.p true 6 (.p true 7 (.p true 8 (.p true 9 (.alt 10 (.alt 11 (.p false 12 .nil) .nil) .nil))))))))))) [3001] (by rw [hP]; kernel_rfl) (by kernel_rfl) (by simp only [go_sem, hP, hn]; try simp) (fun _ _ h => h) fun K hK => ?_ | refine d4 (.p true 0 (.p true 1 (.p true 2 (.p true 3 (.p true 4 (.p true 5 (.p true 6 (.p true 7 (.p true 8 (.p true 9 (.alt 10 (.alt 11 (.p false 12 .nil) .nil) .nil))))))))))) [3001] (by rw [hP]; kernel_rfl) (by kernel_rfl) (by simp only [go_sem, hP, hn]; try simp) (fun _ _ h => h) fun K hK => ?_); simp only [go_sem, hP, hn]
      simp only [htl]
      (repeat refine vc ?_)
      refine hK _ ?_; clear K hK
      refine Tr.le (Le.keep [1, 2, 4, 5, 6, 7, 8, 9, 10]) ?_; simp only [List.map_cons, List.map_nil, lk, Nat.reduceEqDiff, reduceIte]
      (repeat (first | refine TS.imp ?_ | refine n9 (by decide) ?_))
      (first | refine d1 (.p true 0 (.p true 1 (.p true 2 (.p true 3 (.p true 4 (.p true 5 (.p true 6 (.p true 7 (.p true 8 (.p true 9 (.alt 10 (.alt 11 (.p false 12 .nil) .nil) .nil))))))))))) [3002] (by rw [hP]; kernel_rfl) (by kernel_rfl) (by simp only [go_sem, hP, hn]; try simp) (fun _ _ h => h) fun K hK => ?_ | refine d2 (.p true 0 (.p true 1 (.p true 2 (.p true 3 (.p true 4 (.p true 5 (.p true 6 (.p true 7 (.p true 8 (.p true 9 (.alt 10 (.alt 11 (.p false 12 .nil) .nil) .nil))))))))))) [3002] (by rw [hP]; kernel_rfl) (by kernel_rfl) (by simp only [go_sem, hP, hn]; try simp) (fun _ _ h => h) fun K hK => ?_ | refine d4 (.p true 0 (.p true 1 (.p true 2 (.p true 3 (.p true 4 (.p true 5 (.p true 6 (.p true 7 (.p true 8 (.p true 9 (.alt 10 (.alt 11 (.p false 12 .nil) .nil) .nil))))))))))) [3002] (by rw [hP]; kernel_rfl) (by kernel_rfl) (by simp only [go_sem, hP, hn]; try simp) (fun _ _ h => h) fun K hK => ?_); simp only [go_sem, hP, hn]
      simp only [htl]
      (repeat refine vc ?_)
      refine hK _ ?_; clear K hK
      (repeat (first | (refine TR.imp ?_; intro K hK; simp only [go_sem, hP, hn]; (repeat refine vc ?_); refine hK _ ?_; clear K hK) | refine TS.imp ?_ | refine n9 (by decide) ?_))
      rw [w64 (x := j + 1) (by omega) (by omega)]
      have htk : (q.inn.take (j + 1).toNat).map (rd W) = (q.inn.take j.toNat).map (rd W) ++ [rd W (rd q.inn j)] := by rw [take_rd hj0 hj, List.map_append]; rfl
      have htk2 : (q.inn.take (j + 1).toNat).map (rd R) = (q.inn.take j.toNat).map (rd R) ++ [rd R (rd q.inn j)] := by rw [take_rd hj0 hj, List.map_append]; rfl
      refine ⟨m2 - 1, _, by omega, ?_, j + 1, rfl, by omega, by omega⟩
      rw [htk, htk2]
      refine Le.trans (b := ⟨[(1, .ptr 1 0), (2, .ptr 2 0), (4, .d (.row [.i .i64 0] (os.map intC))), (5, .ptr 5 0), (6, .d (.i .i64 k)), (7, .ptr 7 0), (8, .own 80), (9, .own 92), (10, .d (.i .i64 (j + 1)))], [(80, .row 3 [.i .i64 0] (((q.inn.take j.toNat).map (rd W) ++ [rd W (rd q.inn j)]).map intC)), (92, .row 3 [.i .i64 0] (((q.inn.take j.toNat).map (rd R) ++ [rd R (rd q.inn j)]).map intC)), (7, .box 27 q.cs), (1, .box 47 (gcs wd lo hi out (.d (rowN ns)))), (2, .box 85 [.d .nil, .d .nil, .d .nil, .d (.i .i64 0)]), (5, .box 85 [.d (.row [.i .i64 0] (os.map intC)), .own 32, .own 37, .d (.i .i64 0)]), (32, .row 3 [.i .i64 0] (W.map intC)), (37, .row 3 [.i .i64 0] (R.map intC))]⟩) (Le.mv (by simp only [go_sem, hP, hn]; first | done | (simp; done) | (simp [intC]; done) | (repeat (first | rfl | constructor))) (by simp only [go_sem, hP, hn]; first | done | (simp; done) | (simp [intC]; done) | (repeat (first | rfl | constructor)))) ?_
      refine Le.trans (Le.ren 80 3001 (by rw [hpn] <;> rfl) rfl rfl) ?_; simp only [renT, renH, renO, renS, renL, rn, go_sem, hP, hn]
      refine Le.trans (Le.ren 92 3002 (by rw [hpn] <;> rfl) rfl rfl) ?_; simp only [renT, renH, renO, renS, renL, rn, go_sem, hP, hn]
      exact (Le.mv (by simp only [go_sem, hP, hn]; first | done | (simp; done) | (simp [intC]; done) | (repeat (first | rfl | constructor))) (by simp only [go_sem, hP, hn]; first | done | (simp; done) | (simp [intC]; done) | (repeat (first | rfl | constructor))))
    · rw [List.take_of_length_le (by have := of_decide_eq_false hc; omega)]
      (repeat (first | refine TS.imp ?_ | refine n9 (by decide) ?_))
      refine Tr.le (Le.keep [1, 2, 4, 5, 6, 7, 8, 9]) ?_; simp only [List.map_cons, List.map_nil, lk, Nat.reduceEqDiff, reduceIte]
      (repeat (first | refine TS.imp ?_ | refine n9 (by decide) ?_))
      refine TR.imp ?_; intro K hK; simp only [go_sem, hP, hn]; (repeat refine vc ?_); refine c1 (by rw [hP, hT]; exact Check_r Tm q (q.inn.map (rd W)) (by omega) (by omega) hml (by omega)) rfl rfl rfl trivial (by simp only [go_sem, hP, hn]; try trivial) (by simp only [go_sem, hP, hn]; try rfl) (by rw [hn]; decide) (by rfl) ?_; simp only [go_sem, hP, hn]; (repeat refine vc ?_); refine hK _ ?_; clear K hK
      (repeat (first | (refine TR.imp ?_; intro K hK; simp only [go_sem, hP, hn]; (repeat refine vc ?_); refine hK _ ?_; clear K hK) | refine TS.imp ?_ | refine n9 (by decide) ?_))
      refine Tr.cond rfl (fun hd => ?_) (fun hd => ?_)
      · rw [if_pos hd] at hL
        (repeat (first | refine TS.imp ?_ | refine n9 (by decide) ?_))
        refine TR.imp ?_; intro K hK; simp only [go_sem, hP, hn]; (repeat refine vc ?_); refine hK _ ?_; clear K hK
        refine Tr.le (Le.wbox 2 [.d (.row [.i .i64 0] []), .d (.row [.i .i64 0] []), .d (.row [.i .i64 0] []), _] rfl ⟨.inr ⟨rfl, _, rfl⟩, .inr ⟨rfl, _, rfl⟩, .inr ⟨rfl, _, rfl⟩, .inl rfl, trivial⟩) ?_; simp only [go_sem, hP, hn]
        (repeat (first | (refine TR.imp ?_; intro K hK; simp only [go_sem, hP, hn]; (repeat refine vc ?_); refine hK _ ?_; clear K hK) | refine TS.imp ?_ | refine n9 (by decide) ?_))
        simp only [RetG, go_sem]; (repeat with_reducible refine vc ?_)
        rw [hLG, hL]; simp only [if_pos hd]; rfl
      rw [if_neg (by rw [hd]; decide)] at hL
      have hc0 : q.rchk (q.inn.map (rd W)) = 0 := bne_eq_false_iff_eq.mp hd
      have hpos : 0 < q.inn.length := by
        rcases Nat.eq_zero_or_pos q.inn.length with h | h
        · rw [List.eq_nil_of_length_eq_zero h, ← chk_eq] at hc0; exact absurd hc0 (Nd.chk_ne q)
        · exact h
      (repeat (first | refine TS.imp ?_ | refine n9 (by decide) ?_))
      refine Tr.le (Le.keep [1, 2, 4, 5, 6, 7, 8, 9]) ?_; simp only [List.map_cons, List.map_nil, lk, Nat.reduceEqDiff, reduceIte]
      (first | refine d1 (.p true 0 (.p true 1 (.p true 2 (.p true 3 (.p true 4 (.p true 5 (.p true 6 (.p true 7 (.alt 8 (.p true 9 (.alt 10 .nil .nil)) .nil))))))))) [32] (by rw [hP]; kernel_rfl) (by kernel_rfl) (by simp only [go_sem, hP, hn]; try simp) (fun _ _ h => h) fun K hK => ?_ | refine d2 (.p true 0 (.p true 1 (.p true 2 (.p true 3 (.p true 4 (.p true 5 (.p true 6 (.p true 7 (.alt 8 (.p true 9 (.alt 10 .nil .nil)) .nil))))))))) [32] (by rw [hP]; kernel_rfl) (by kernel_rfl) (by simp only [go_sem, hP, hn]; try simp) (fun _ _ h => h) fun K hK => ?_ | refine d4 (.p true 0 (.p true 1 (.p true 2 (.p true 3 (.p true 4 (.p true 5 (.p true 6 (.p true 7 (.alt 8 (.p true 9 (.alt 10 .nil .nil)) .nil))))))))) [32] (by rw [hP]; kernel_rfl) (by kernel_rfl) (by simp only [go_sem, hP, hn]; try simp) (fun _ _ h => h) fun K hK => ?_); simp only [go_sem, hP, hn]
      (repeat refine vc ?_)
      refine p1 (by rw [hP, hT]; exact Width_r Tm q (q.inn.map (rd W)) (by omega) (by omega) hml (by omega)) rfl rfl rfl trivial (by simp only [go_sem, hP, hn]; try trivial) (by simp only [go_sem, hP, hn]; try rfl) (by rw [hn]; decide) (by rfl) ?_; simp only [go_sem, hP, hn]; (repeat refine vc ?_)
      refine hK _ ?_; clear K hK
      refine Tr.le (Le.keep [1, 2, 4, 5, 6, 7, 8, 9]) ?_; simp only [List.map_cons, List.map_nil, lk, Nat.reduceEqDiff, reduceIte]
      (first | refine d1 (.p true 0 (.p true 1 (.p true 2 (.p true 3 (.p true 4 (.p true 5 (.p true 6 (.p true 7 (.alt 8 (.p true 9 (.alt 10 .nil .nil)) .nil))))))))) [37] (by rw [hP]; kernel_rfl) (by kernel_rfl) (by simp only [go_sem, hP, hn]; try simp) (fun _ _ h => h) fun K hK => ?_ | refine d2 (.p true 0 (.p true 1 (.p true 2 (.p true 3 (.p true 4 (.p true 5 (.p true 6 (.p true 7 (.alt 8 (.p true 9 (.alt 10 .nil .nil)) .nil))))))))) [37] (by rw [hP]; kernel_rfl) (by kernel_rfl) (by simp only [go_sem, hP, hn]; try simp) (fun _ _ h => h) fun K hK => ?_ | refine d4 (.p true 0 (.p true 1 (.p true 2 (.p true 3 (.p true 4 (.p true 5 (.p true 6 (.p true 7 (.alt 8 (.p true 9 (.alt 10 .nil .nil)) .nil))))))))) [37] (by rw [hP]; kernel_rfl) (by kernel_rfl) (by simp only [go_sem, hP, hn]; try simp) (fun _ _ h => h) fun K hK => ?_); simp only [go_sem, hP, hn]
      (repeat refine vc ?_)
      refine p1 (by rw [hP, hT]; exact rate16_r Tm q (q.inn.map (rd R)) (by simpa using hpos) hmr) rfl rfl rfl trivial (by simp only [go_sem, hP, hn]; try trivial) (by simp only [go_sem, hP, hn]; try rfl) (by rw [hn]; decide) (by rfl) ?_; simp only [go_sem, hP, hn]; (repeat refine vc ?_)
      refine hK _ ?_; clear K hK
      refine Tr.le (Le.keep [1, 2, 4, 5, 6, 7, 8, 9]) ?_; simp only [List.map_cons, List.map_nil, lk, Nat.reduceEqDiff, reduceIte]
      (first | refine d1 (.p true 0 (.p true 1 (.p true 2 (.p true 3 (.p true 4 (.p true 5 (.p true 6 (.p true 7 (.p true 8 .nil))))))))) [] (by rw [hP]; kernel_rfl) (by kernel_rfl) (by simp only [go_sem, hP, hn]; try simp) (fun _ _ h => h) fun K hK => ?_ | refine d2 (.p true 0 (.p true 1 (.p true 2 (.p true 3 (.p true 4 (.p true 5 (.p true 6 (.p true 7 (.p true 8 .nil))))))))) [] (by rw [hP]; kernel_rfl) (by kernel_rfl) (by simp only [go_sem, hP, hn]; try simp) (fun _ _ h => h) fun K hK => ?_ | refine d4 (.p true 0 (.p true 1 (.p true 2 (.p true 3 (.p true 4 (.p true 5 (.p true 6 (.p true 7 (.p true 8 .nil))))))))) [] (by rw [hP]; kernel_rfl) (by kernel_rfl) (by simp only [go_sem, hP, hn]; try simp) (fun _ _ h => h) fun K hK => ?_); simp only [go_sem, hP, hn]
      simp only [List.length_set]
      (repeat refine vc ?_)
      rw [rd_set_same (by omega) (by omega)]
      refine hK _ ?_; clear K hK
      refine Tr.cond rfl (fun he => ?_) (fun he => ?_)
      · rw [if_pos he] at hL
        (repeat (first | refine TS.imp ?_ | refine n9 (by decide) ?_))
        refine TR.imp ?_; intro K hK; simp only [go_sem, hP, hn]; (repeat refine vc ?_); refine hK _ ?_; clear K hK
        refine Tr.le (Le.wbox 2 [.d (.row [.i .i64 0] []), .d (.row [.i .i64 0] []), .d (.row [.i .i64 0] []), _] rfl ⟨.inr ⟨rfl, _, rfl⟩, .inr ⟨rfl, _, rfl⟩, .inr ⟨rfl, _, rfl⟩, .inl rfl, trivial⟩) ?_; simp only [go_sem, hP, hn]
        (repeat (first | (refine TR.imp ?_; intro K hK; simp only [go_sem, hP, hn]; (repeat refine vc ?_); refine hK _ ?_; clear K hK) | refine TS.imp ?_ | refine n9 (by decide) ?_))
        simp only [RetG, go_sem]; (repeat with_reducible refine vc ?_)
        rw [hLG, hL]; rfl
      rw [if_neg (by rw [he]; decide)] at hL
      (repeat (first | (refine TR.imp ?_; intro K hK; simp only [go_sem, hP, hn]; (repeat refine vc ?_); refine hK _ ?_; clear K hK) | refine TS.imp ?_ | refine n9 (by decide) ?_))
      rw [w64 (x := k + 1) (by omega) (by omega)]
      refine ⟨m - 1, _, by omega, ?_, k + 1, W.set (rd os k).toNat (q.rwide (q.inn.map (rd W))), R.set (rd os k).toNat (q.rate (q.inn.map (rd R))), rfl, by omega, by omega, by simpa using hWl, by simpa using hRl, hL⟩
      exact (Le.mv (by simp only [go_sem, hP, hn]; first | done | (simp; done) | (simp [intC]; done) | (repeat (first | rfl | constructor))) (by simp only [go_sem, hP, hn]; first | done | (simp; done) | (simp [intC]; done) | (repeat (first | rfl | constructor))))
  rw [drop_end (by simpa using hb)] at hL
  (repeat (first | (refine TR.imp ?_; intro K hK; simp only [go_sem, hP, hn]; (repeat refine vc ?_); refine hK _ ?_; clear K hK) | refine TS.imp ?_ | refine n9 (by decide) ?_))
  simp only [RetG, go_sem]; (repeat with_reducible refine vc ?_)
  rw [hLG, hL]; rfl
end Go.Proofs.YtgijboakaodcgaaDoor.Aw
