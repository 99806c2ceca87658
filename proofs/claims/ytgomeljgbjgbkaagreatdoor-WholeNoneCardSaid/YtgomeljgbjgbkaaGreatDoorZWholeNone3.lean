/- The abstract walk, and contracts of Go functions: each call returns what the Lean function named tells. Conditions: those that each theorem names, none else. -/
import Derived.Test.YtgomeljgbjgbkaaGreatDoorZWholeNone2
set_option linter.unusedVariables false
set_option linter.unusedSimpArgs false
set_option maxRecDepth 100000
set_option maxHeartbeats 4000000
namespace Go.Proofs.YtgomeljgbjgbkaaGreatDoor.Aw
open Go.RowKit
attribute [local go_sem_proc] Nat.reduceAdd Nat.reduceMul Nat.reduceSub Nat.reduceEqDiff Nat.reduceLeDiff Nat.reduceBEq Nat.reduceBNe Int.reduceToNat reduceIte reduceCtorEq
attribute [local go_sem] initT SQ so pe he ev lk constS stp stc gdS nth pickS pickD loadS cellsAt okAt fieldAddrS fieldS partS indexAddrS indexS extractS binS binD binI isShift unS convS lenS sliceS bndI bndC mmS mm2 mmD builtS fillS okCells cellsS splS solid aliveL alive okS boxS allocS makeS bsliceS elemsOf dcells stF frzW storeS frzA frzK oneS1 srcR rwsOf hdO appR frz frzT frzS frzL frzO frzH appS srcS appVC killS killT killC killH killO k1 k2 S.has S.hasL St.add St.upd dropH lh cond_or cond_and rw_intC rw_intC0 rw_set rw_app rw_apps rw_rep rw_slice wr64 cond_true cond_false true_and and_true List.map_cons List.map_nil List.length_cons List.length_nil List.drop_succ_cons List.drop_zero List.take_succ_cons List.take_zero List.nil_append List.cons_append List.getD_cons_zero List.getD_cons_succ List.headD_cons List.length_map ite_true ite_false if_true if_false Bool.false_eq_true and_self forall_const List.drop_nil List.take_nil List.append_nil Option.map_some Option.map_none List.mapM_cons List.mapM_nil Option.bind_eq_bind Option.bind_some Option.pure_def knows resL resV oneS freshS freshL cv cvL stpL stcL or_true true_or or_false false_or List.all_cons List.all_nil Bool.and_self Bool.or_self Bool.true_and Bool.and_true Bool.or_false Bool.false_or implies_true flatD allm_nil allm_cons List.getElem?_cons_zero List.getElem?_cons_succ Nd.cs Nd.ds ml mln Option.isSome_some Option.isSome_none eq_self Int.toNat_natCast AP ldOk isLd inL subL crt chg chgS chgP idxs aliveW Option.toList_some Option.toList_none Option.toList RetG Nd.win frzA offK keepH aliveK nkH closedH closedO keysK inH St.upd rowO List.contains_cons List.contains_nil Bool.or_self Option.isNone_none Option.isNone_some Bool.not_true Bool.not_false gcs rowN e0N frzC
attribute [local go_sem] sz2 ag2 ok2 kk2 iu2 zc2 zd2 by2 sz3 ag3 ok3 kk3 iu3 zc3 zd3 by3 sz4 ag4 ok4 bo4 zc4 zd4 by4 sz5 ag5 ok5 kk5 iu5 zc5 zd5 by5 sz9 ag9 ok9 st9 zc9 zd9 by9 sz12 ag12 ok12 kk12 iu12 zc12 zd12 by12 sz15 ag15 ok15 zc15 by15 sz16 ag16 ok16 zc16 by16 sz21 ag21 ok21 kk21 iu21 zc21 zd21 by21 sz22 ag22 ok22 sl22 zc22 zd22 by22 sz23 ag23 ok23 zc23 zd23 pl23 by23 fl23_0 fl23_1 fl23_2 sz24 ag24 ok24 zc24 zd24 pl24 by24 fl24_0 fl24_1 fl24_2 sz26 ag26 ok26 sl26 zc26 zd26 by26 sz27 ag27 ok27 zc27 zd27 pl27 by27 fl27_0 fl27_1 fl27_2 fl27_3 fl27_4 sz28 ag28 ok28 zc28 zd28 pl28 by28 fl28_0 fl28_1 fl28_2 fl28_3 fl28_4 sz29 ag29 ok29 sl29 zc29 zd29 by29 sz32 ag32 ok32 sl32 zc32 zd32 by32 sz33 ag33 ok33 kk33 iu33 zc33 zd33 by33 sz36 ag36 ok36 zc36 zd36 pl36 by36 fl36_0 fl36_1 sz37 ag37 ok37 zc37 zd37 pl37 by37 fl37_0 fl37_1 sz49 ag49 ok49 zc49 zd49 pl49 by49 fl49_0 fl49_1 fl49_2 fl49_3 fl49_4 fl49_5 fl49_6 fl49_7 fl49_8 fl49_9 fl49_10 fl49_11 fl49_12 fl49_13 fl49_14 sz50 ag50 ok50 zc50 zd50 pl50 by50 fl50_0 fl50_1 fl50_2 fl50_3 fl50_4 fl50_5 fl50_6 fl50_7 fl50_8 fl50_9 fl50_10 fl50_11 fl50_12 fl50_13 fl50_14 sz53 ag53 ok53 zc53 by53 sz55 ag55 ok55 zc55 zd55 pl55 by55 fl55_0 fl55_1 fl55_2 sz56 ag56 ok56 zc56 zd56 pl56 by56 fl56_0 fl56_1 fl56_2 sz58 ag58 ok58 zc58 zd58 pl58 by58 fl58_0 fl58_1 fl58_2 fl58_3 sz59 ag59 ok59 zc59 zd59 pl59 by59 fl59_0 fl59_1 fl59_2 fl59_3 sz66 ag66 ok66 zc66 zd66 pl66 by66 fl66_0 fl66_1 fl66_2 sz67 ag67 ok67 zc67 zd67 pl67 by67 fl67_0 fl67_1 fl67_2 sz79 ag79 ok79 zc79 by79 sz80 ag80 ok80 zc80 zd80 pl80 by80 fl80_0 fl80_1 sz81 ag81 ok81 zc81 zd81 pl81 by81 fl81_0 fl81_1 sz105 ag105 ok105 sl105 ar105 zc105 zd105 pl105 by105 sz108 ag108 ok108 sl108 ar108 zc108 zd108 pl108 by108 sz109 ag109 ok109 zc109 by109 sz115 ag115 ok115 zc115 zd115 pl115 by115 fl115_0 fl115_1 sz116 ag116 ok116 zc116 zd116 pl116 by116 fl116_0 fl116_1 sz120 ag120 ok120 zc120 zd120 pl120 by120 fl120_0 fl120_1 sz121 ag121 ok121 sl121 ar121 zc121 zd121 pl121 by121 sz124 ag124 ok124 kk124 iu124 zc124 zd124 by124 sz133 ag133 ok133 kk133 iu133 zc133 zd133 by133 sz137 ag137 ok137 zc137 by137
theorem pick_c {T : World → Prop} (Tm : TP T) (of_ l : List Int) (hl : l.length ≤ 4096) (ho : of_.length ≤ 4096) (hi : ∀ x ∈ l, 0 ≤ x ∧ x < of_.length) : Ct Go.Proofs.Tryz.prog T 59 [.d (.row [.i .i64 0] (of_.map intC)), .d (.row [.i .i64 0] (l.map intC))] true (fun r => r = .d (.row [.i .i64 0] ((l.map (rd of_)).map intC))) := by
  refine Ct_of Tm Go.Proofs.Tryz.func59 rfl rfl Go.Proofs.Tryz.ntmps59 (by simp) (rs := [.tmp 4]) rfl fun E hP hn hT => ?_
  (repeat (first | (refine TR.imp ?_; intro K hK; simp only [go_sem, hP, hn]; (repeat refine vc ?_); refine hK _ ?_; clear K hK) | refine TS.imp ?_))
  refine Tr.loop (fun n s => ∃ (j : Int) (m : List Int), s = ⟨[(0, .d (.row [.i .i64 0] (of_.map intC))), (11, .d (.row [.i .i64 0] (l.map intC))), (12, .d (.i .i64 l.length)), (13, .d (.i .i64 j)), (5, .own 10)], [(10, .row 3 [.i .i64 0] (m.map intC))]⟩ ∧ 0 ≤ j ∧ j + n = l.length ∧ m.length = l.length ∧ m.take j.toNat = (l.take j.toNat).map (rd of_)) l.length ⟨_, (Le.mv (by simp only [go_sem, hP, hn]; first | done | (simp; done) | (simp [intC]; done) | (repeat (first | rfl | constructor))) (by simp only [go_sem, hP, hn]; first | done | (simp; done) | (simp [intC]; done) | (repeat (first | rfl | constructor)))), 0, List.replicate l.length 0, rfl, by omega, by omega, by simp, by simp⟩ ?_
  rintro n s ⟨j, m, rfl, h0, h1, h2, h3⟩
  (repeat (first | (refine TR.imp ?_; intro K hK; simp only [go_sem, hP, hn]; (repeat refine vc ?_); refine hK _ ?_; clear K hK) | refine TS.imp ?_))
  refine Tr.cond rfl (fun hb => ?_) (fun hb => ?_)
  · have hj : j < l.length := by simpa using hb
    have hr := hi _ (rd_mem h0 hj)
    (repeat (first | (refine TR.imp ?_; intro K hK; simp only [go_sem, hP, hn]; (repeat refine vc ?_); refine hK _ ?_; clear K hK) | refine TS.imp ?_))
    rw [w64 (by omega) (by omega)]
    refine ⟨n - 1, _, by omega, ?_, j + 1, m.set j.toNat (rd of_ (rd l j)), rfl, by omega, by omega, by simpa using h2, ?_⟩
    · exact (Le.mv (by simp only [go_sem, hP, hn]; first | done | (simp; done) | (simp [intC]; done) | (repeat (first | rfl | constructor))) (by simp only [go_sem, hP, hn]; first | done | (simp; done) | (simp [intC]; done) | (repeat (first | rfl | constructor))))
    · rw [take_set h0 (by omega), take_rd h0 hj, h3]; simp
  · (repeat (first | (refine TR.imp ?_; intro K hK; simp only [go_sem, hP, hn]; (repeat refine vc ?_); refine hK _ ?_; clear K hK) | refine TS.imp ?_))
    simp only [RetQ, go_sem]
    have e : j.toNat = l.length := by have := of_decide_eq_false hb; omega
    rw [e, List.take_of_length_le (by omega), List.take_of_length_le (by omega)] at h3
    rw [h3]
    exact ⟨flat_ints _, rfl⟩
theorem has_k {T : World → Prop} (Tk : KT T) (n : Nd) (x : Int) : Ct Go.Proofs.Tryz.prog T 53 [.agg n.cs, .d (.i .i64 x)] true (fun r => r = .d (.b (n.has x))) := by
  refine Ct_ofG Tk.m Go.Proofs.Tryz.func53 rfl rfl Go.Proofs.Tryz.ntmps53 (by simp) (rs := [.tmp 4]) rfl (g0 := 0) fun E hP hn hT hF => ?_
  (repeat (first | (refine TR.imp ?_; intro K hK; simp only [go_sem, hP, hn]; (repeat refine vc ?_); refine hK _ ?_; clear K hK) | refine TS.imp ?_))
  refine Tr.cond rfl (fun hb => ?_) (fun hb => ?_)
  · (repeat (first | (refine TR.imp ?_; intro K hK; simp only [go_sem, hP, hn]; (repeat refine vc ?_); refine hK _ ?_; clear K hK) | refine TS.imp ?_))
    simp only [RetQ, go_sem]
    unfold Nd.has
    simp only [Bool.or_eq_true, decide_eq_true_eq] at hb
    by_cases h1 : n.k < 1
    · rw [if_pos h1]
    · rw [if_neg h1, if_pos (by omega)]
  · simp only [Bool.or_eq_false_iff, decide_eq_false_iff_not] at hb
    (repeat (first | (refine TR.imp ?_; intro K hK; simp only [go_sem, hP, hn]; (repeat refine vc ?_); refine hK _ ?_; clear K hK) | refine TS.imp ?_))
    refine TR.imp ?_; intro K hK; simp only [go_sem, hP, hn]
    (repeat refine vc ?_)
    refine CallN_glob (x := .i .i64 (hasT n.k)) rfl rfl rfl (by rw [hP]; exact ar108) (by rw [hP]; exact ok3) (by rw [hP]; exact sz3) (by omega) (by omega) (fun w h => tab_at Tk n.k (by omega) (by omega) w (hT ▸ h)) hF (by decide) (by rw [hn]; decide) ?_
    simp only [go_sem, hP, hn]
    (repeat refine vc ?_)
    refine hK _ ?_; clear K hK
    (repeat (first | (refine TR.imp ?_; intro K hK; simp only [go_sem, hP, hn]; (repeat refine vc ?_); refine hK _ ?_; clear K hK) | refine TS.imp ?_))
    have e : n.has x = (Go.bits .and .i64 (has2 (has1 (hasT n.k) n.post) n.post) x != 0) := by
      unfold Nd.has
      rw [if_neg (by omega), if_neg (by omega)]
    refine Tr.cond rfl (fun hb => ?_) (fun hb => ?_)
    · (repeat (first | (refine TR.imp ?_; intro K hK; simp only [go_sem, hP, hn]; (repeat refine vc ?_); refine hK _ ?_; clear K hK) | refine TS.imp ?_))
      refine Tr.cond rfl (fun hb => ?_) (fun hb => ?_)
      · (repeat (first | (refine TR.imp ?_; intro K hK; simp only [go_sem, hP, hn]; (repeat refine vc ?_); refine hK _ ?_; clear K hK) | refine TS.imp ?_))
        simp only [RetQ, go_sem]
        rw [e]; unfold has1 has2; simp_all
      · (repeat (first | (refine TR.imp ?_; intro K hK; simp only [go_sem, hP, hn]; (repeat refine vc ?_); refine hK _ ?_; clear K hK) | refine TS.imp ?_))
        simp only [RetQ, go_sem]
        rw [e]; unfold has1 has2; simp_all
    · (repeat (first | (refine TR.imp ?_; intro K hK; simp only [go_sem, hP, hn]; (repeat refine vc ?_); refine hK _ ?_; clear K hK) | refine TS.imp ?_))
      refine Tr.cond rfl (fun hb => ?_) (fun hb => ?_)
      · (repeat (first | (refine TR.imp ?_; intro K hK; simp only [go_sem, hP, hn]; (repeat refine vc ?_); refine hK _ ?_; clear K hK) | refine TS.imp ?_))
        simp only [RetQ, go_sem]
        rw [e]; unfold has1 has2; simp_all
      · (repeat (first | (refine TR.imp ?_; intro K hK; simp only [go_sem, hP, hn]; (repeat refine vc ?_); refine hK _ ?_; clear K hK) | refine TS.imp ?_))
        simp only [RetQ, go_sem]
        rw [e]; unfold has1 has2; simp_all
theorem Span_k {T : World → Prop} (Tk : KT T) (n : Nd) : Ct Go.Proofs.Tryz.prog T 99 [.agg n.cs] true (fun r => r = .d (.i .i64 n.span)) := by
  refine Ct_of Tk.m Go.Proofs.Tryz.func99 rfl rfl Go.Proofs.Tryz.ntmps99 (by simp) (rs := [.tmp 2]) rfl fun E hP hn hT => ?_
  (repeat (first | (refine TR.imp ?_; intro K hK; simp only [go_sem, hP, hn]; (repeat refine vc ?_); refine hK _ ?_; clear K hK) | refine TS.imp ?_))
  refine TR.imp ?_; intro K hK; simp only [go_sem, hP, hn]; (repeat refine vc ?_); refine c1 (by rw [hP, hT]; exact has_k Tk n 1) rfl rfl rfl trivial (by simp only [go_sem, hP, hn]; try trivial) (by simp only [go_sem, hP, hn]; try rfl) (by rw [hn]; decide) (by rfl) ?_; simp only [go_sem, hP, hn]; (repeat refine vc ?_); refine hK _ ?_; clear K hK
  refine Tr.cond rfl (fun h1 => ?_) (fun h1 => ?_)
  · (repeat (first | (refine TR.imp ?_; intro K hK; simp only [go_sem, hP, hn]; (repeat refine vc ?_); refine hK _ ?_; clear K hK) | refine TS.imp ?_))
    simp only [RetQ, go_sem]
    unfold Nd.span; rw [h1, if_pos rfl]
  · (repeat (first | (refine TR.imp ?_; intro K hK; simp only [go_sem, hP, hn]; (repeat refine vc ?_); refine hK _ ?_; clear K hK) | refine TS.imp ?_))
    refine TR.imp ?_; intro K hK; simp only [go_sem, hP, hn]; (repeat refine vc ?_); refine c1 (by rw [hP, hT]; exact has_k Tk n 16) rfl rfl rfl trivial (by simp only [go_sem, hP, hn]; try trivial) (by simp only [go_sem, hP, hn]; try rfl) (by rw [hn]; decide) (by rfl) ?_; simp only [go_sem, hP, hn]; (repeat refine vc ?_); refine hK _ ?_; clear K hK
    refine Tr.cond rfl (fun h2 => ?_) (fun h2 => ?_)
    · (repeat (first | (refine TR.imp ?_; intro K hK; simp only [go_sem, hP, hn]; (repeat refine vc ?_); refine hK _ ?_; clear K hK) | refine TS.imp ?_))
      simp only [RetQ, go_sem]
      unfold Nd.span; rw [h1, h2]; rfl
    · (repeat (first | (refine TR.imp ?_; intro K hK; simp only [go_sem, hP, hn]; (repeat refine vc ?_); refine hK _ ?_; clear K hK) | refine TS.imp ?_))
      simp only [RetQ, go_sem]
      unfold Nd.span; rw [h1, h2]; rfl
theorem Step_k {T : World → Prop} (Tk : KT T) (n : Nd) : Ct Go.Proofs.Tryz.prog T 100 [.agg n.cs] true (fun r => r = .d (.i .i64 n.stp)) := by
  refine Ct_of Tk.m Go.Proofs.Tryz.func100 rfl rfl Go.Proofs.Tryz.ntmps100 (by simp) (rs := [.tmp 2]) rfl fun E hP hn hT => ?_
  (repeat (first | (refine TR.imp ?_; intro K hK; simp only [go_sem, hP, hn]; (repeat refine vc ?_); refine hK _ ?_; clear K hK) | refine TS.imp ?_))
  refine TR.imp ?_; intro K hK; simp only [go_sem, hP, hn]; (repeat refine vc ?_); refine c1 (by rw [hP, hT]; exact has_k Tk n 1) rfl rfl rfl trivial (by simp only [go_sem, hP, hn]; try trivial) (by simp only [go_sem, hP, hn]; try rfl) (by rw [hn]; decide) (by rfl) ?_; simp only [go_sem, hP, hn]; (repeat refine vc ?_); refine hK _ ?_; clear K hK
  refine Tr.cond rfl (fun h1 => ?_) (fun h1 => ?_)
  · (repeat (first | (refine TR.imp ?_; intro K hK; simp only [go_sem, hP, hn]; (repeat refine vc ?_); refine hK _ ?_; clear K hK) | refine TS.imp ?_))
    simp only [RetQ, go_sem]
    unfold Nd.stp; rw [h1]; rfl
  · (repeat (first | (refine TR.imp ?_; intro K hK; simp only [go_sem, hP, hn]; (repeat refine vc ?_); refine hK _ ?_; clear K hK) | refine TS.imp ?_))
    simp only [RetQ, go_sem]
    unfold Nd.stp; rw [h1]; rfl
theorem in_k {T : World → Prop} (Tm : TP T) (x lo hi : Int) : Ct Go.Proofs.Tryz.prog T 104 [.d (.i .i64 x), .d (.i .i64 lo), .d (.i .i64 hi)] true (fun r => r = .d (.b (inB x lo hi))) := by
  refine Ct_of Tm Go.Proofs.Tryz.func104 rfl rfl Go.Proofs.Tryz.ntmps104 (by simp) (rs := [.tmp 6]) rfl fun E hP hn hT => ?_
  (repeat (first | (refine TR.imp ?_; intro K hK; simp only [go_sem, hP, hn]; (repeat refine vc ?_); refine hK _ ?_; clear K hK) | refine TS.imp ?_))
  simp only [RetQ, go_sem]
  unfold inB
  cases decide (lo ≤ x) <;> rfl
theorem every_k {T : World → Prop} (Tm : TP T) (l : List Int) (lo hi : Int) (hl : l.length ≤ 65536) : Ct Go.Proofs.Tryz.prog T 103 [.d (.row [.i .i64 0] (l.map intC)), .d (.i .i64 lo), .d (.i .i64 hi)] true (fun r => r = .d (.b (l.all (inB · lo hi)))) := by
  refine Ct_of Tm Go.Proofs.Tryz.func103 rfl rfl Go.Proofs.Tryz.ntmps103 (by simp) (rs := [.tmp 6]) rfl fun E hP hn hT => ?_
  (repeat (first | (refine TR.imp ?_; intro K hK; simp only [go_sem, hP, hn]; (repeat refine vc ?_); refine hK _ ?_; clear K hK) | refine TS.imp ?_))
  refine Tr.loop (fun n s => ∃ j : Int, s = ⟨[(1, .d (.i .i64 lo)), (2, .d (.i .i64 hi)), (9, .d (.row [.i .i64 0] (l.map intC))), (10, .d (.i .i64 l.length)), (11, .d (.i .i64 j))], []⟩ ∧ 0 ≤ j ∧ j + n = l.length ∧ l.all (inB · lo hi) = (l.drop j.toNat).all (inB · lo hi)) l.length ⟨_, (Le.mv (by simp only [go_sem, hP, hn]; first | done | (simp; done) | (simp [intC]; done) | (repeat (first | rfl | constructor))) (by simp only [go_sem, hP, hn]; first | done | (simp; done) | (simp [intC]; done) | (repeat (first | rfl | constructor)))), 0, rfl, by omega, by omega, by simp⟩ ?_
  rintro n s ⟨j, rfl, h0, h1, h2⟩
  (repeat (first | (refine TR.imp ?_; intro K hK; simp only [go_sem, hP, hn]; (repeat refine vc ?_); refine hK _ ?_; clear K hK) | refine TS.imp ?_))
  refine Tr.cond rfl (fun hb => ?_) (fun hb => ?_)
  · have hj : j < l.length := by simpa using hb
    (repeat (first | (refine TR.imp ?_; intro K hK; simp only [go_sem, hP, hn]; (repeat refine vc ?_); refine hK _ ?_; clear K hK) | refine TS.imp ?_))
    refine TR.imp ?_; intro K hK; simp only [go_sem, hP, hn]; (repeat refine vc ?_); refine c1 (by rw [hP, hT]; exact in_k Tm (rd l j) lo hi) rfl rfl rfl trivial (by simp only [go_sem, hP, hn]; try trivial) (by simp only [go_sem, hP, hn]; try rfl) (by rw [hn]; decide) (by rfl) ?_; simp only [go_sem, hP, hn]; (repeat refine vc ?_); refine hK _ ?_; clear K hK
    refine Tr.cond rfl (fun hc => ?_) (fun hc => ?_)
    · (repeat (first | (refine TR.imp ?_; intro K hK; simp only [go_sem, hP, hn]; (repeat refine vc ?_); refine hK _ ?_; clear K hK) | refine TS.imp ?_))
      simp only [RetQ, go_sem]
      rw [h2, drop_rd h0 hj]
      simp_all
    · (repeat (first | (refine TR.imp ?_; intro K hK; simp only [go_sem, hP, hn]; (repeat refine vc ?_); refine hK _ ?_; clear K hK) | refine TS.imp ?_))
      rw [w64 (by omega) (by omega)]
      refine ⟨n - 1, _, by omega, ?_, j + 1, rfl, by omega, by omega, ?_⟩
      · exact (Le.mv (by simp only [go_sem, hP, hn]; first | done | (simp; done) | (simp [intC]; done) | (repeat (first | rfl | constructor))) (by simp only [go_sem, hP, hn]; first | done | (simp; done) | (simp [intC]; done) | (repeat (first | rfl | constructor))))
      rw [h2, drop_rd h0 hj, List.all_cons]
      simp_all
  · (repeat (first | (refine TR.imp ?_; intro K hK; simp only [go_sem, hP, hn]; (repeat refine vc ?_); refine hK _ ?_; clear K hK) | refine TS.imp ?_))
    simp only [RetQ, go_sem]
    rw [h2, drop_end (by simpa using hb)]
    rfl
def Nd.chn (n : Nd) : List (Int × Bool) → Bool
  | [] => true
  | p :: r => if (p.2 && !n.has p.1) = true then false else n.chn r
def Nd.bareL (n : Nd) : List (Int × Bool) := [(1, n.step != 0 || n.gap != 0 || n.left != 0 || n.right != 0), (17, n.size != 0), (2, n.wid != 0), (4, decide (0 < (n.ws.length : Int)) || decide (0 < (n.bs.length : Int))), (32, n.low != 0 || n.high != 0), (64, n.mult != 0 || n.shift != 0)]
theorem bare_chn (n : Nd) : n.bare = n.chn n.bareL := by simp only [Nd.bareL, Nd.chn, Nd.bare, Int.natCast_pos]
theorem chn_t {n : Nd} {x : Int} {b : Bool} {l : List (Int × Bool)} (h : (b && !n.has x) = true) : n.chn ((x, b) :: l) = false := if_pos h
theorem chn_f {n : Nd} {x : Int} {b : Bool} {l : List (Int × Bool)} (h : (b && !n.has x) = false) : n.chn ((x, b) :: l) = n.chn l := if_neg (by show ¬ (b && !n.has x) = true; rw [h]; decide)
theorem bare_k {T : World → Prop} (Tk : KT T) (n : Nd) : Ct Go.Proofs.Tryz.prog T 105 [.agg n.cs] true (fun r => r = .d (.b n.bare)) := by
  refine Ct_of Tk.m Go.Proofs.Tryz.func105 rfl rfl Go.Proofs.Tryz.ntmps105 (by simp) (rs := [.tmp 2]) rfl fun E hP hn hT => ?_
  (repeat (first | (refine TR.imp ?_; intro K hK; simp only [go_sem, hP, hn]; (repeat refine vc ?_); refine hK _ ?_; clear K hK) | refine TS.imp ?_))
  refine Tr.loop (fun m s => ∃ j : Nat, s = ⟨[(62, .d (.i .i64 j)), (61, .agg (n.bareL.flatMap fun p => [.d (.i .i64 p.1), .d (.b p.2)])), (1, .ptr 1 0)], [(1, .box 50 n.cs)]⟩ ∧ j + m = 6 ∧ n.bare = n.chn (n.bareL.drop j)) 6 ⟨_, Le.forget (by simp only [Nd.bareL, List.flatMap_cons, List.flatMap_nil]; simp only [go_sem, hP, hn]; try simp), 0, rfl, by omega, bare_chn n⟩ ?_
  rintro m s ⟨j, rfl, h0, h1⟩
  by_cases hj : j < 6
  · have hq : j = 0 ∨ j = 1 ∨ j = 2 ∨ j = 3 ∨ j = 4 ∨ j = 5 := by omega
    have lt (a : Nat) (h : a < 6) : decide ((a : Int) < 6) = true := decide_eq_true (by omega)
    simp only [Nd.bareL, List.flatMap_cons, List.flatMap_nil, List.cons_append, List.nil_append] at h1 ⊢
    rcases hq with rfl | rfl | rfl | rfl | rfl | rfl
    · (repeat (first | (refine TR.imp ?_; intro K hK; simp only [go_sem, hP, hn]; (repeat refine vc ?_); refine hK _ ?_; clear K hK) | refine TS.imp ?_))
      refine Tr.cond rfl (fun hb => ?_) (fun hb => ?_)
      · (repeat (first | (refine TR.imp ?_; intro K hK; simp only [go_sem, hP, hn]; (repeat refine vc ?_); refine hK _ ?_; clear K hK) | refine TS.imp ?_))
        refine TR.imp ?_; intro K hK; simp only [go_sem, hP, hn]; (repeat refine vc ?_); refine c2 (fun hg => by rw [hP, hT]; exact has_k Tk n 1) rfl rfl rfl (fun hg => trivial) (fun hg => by clear hK; revert hg; simp only [go_sem, hP, hn]; first | trivial | omega | (simp; done) | (simp +contextual; done) | grind) (fun hg => by simp only [go_sem, hP, hn]; try rfl) (by rw [hn]; decide) (by rfl) ?_; simp only [go_sem, hP, hn]; (repeat refine vc ?_); refine hK _ ?_; clear K hK
        refine Tr.cond rfl (fun hc => ?_) (fun hc => ?_)
        · (repeat (first | (refine TR.imp ?_; intro K hK; simp only [go_sem, hP, hn]; (repeat refine vc ?_); refine hK _ ?_; clear K hK) | refine TS.imp ?_))
          simp only [RetQ, go_sem]
          exact congrArg S.d (congrArg D.b (h1.trans (chn_t hc)).symm)
        · (repeat (first | (refine TR.imp ?_; intro K hK; simp only [go_sem, hP, hn]; (repeat refine vc ?_); refine hK _ ?_; clear K hK) | refine TS.imp ?_))
          rw [w64 (by omega) (by omega)]
          refine ⟨m - 1, _, by omega, ?_, 1, rfl, by omega, ?_⟩
          · exact (Le.mv (by simp only [go_sem, hP, hn]; first | done | (simp; done) | (simp [intC]; done) | (repeat (first | rfl | constructor))) (by simp only [go_sem, hP, hn]; first | done | (simp; done) | (simp [intC]; done) | (repeat (first | rfl | constructor))))
          exact h1.trans (chn_f hc)
      · exact absurd hb (by simp)
    · (repeat (first | (refine TR.imp ?_; intro K hK; simp only [go_sem, hP, hn]; (repeat refine vc ?_); refine hK _ ?_; clear K hK) | refine TS.imp ?_))
      refine Tr.cond rfl (fun hb => ?_) (fun hb => ?_)
      · (repeat (first | (refine TR.imp ?_; intro K hK; simp only [go_sem, hP, hn]; (repeat refine vc ?_); refine hK _ ?_; clear K hK) | refine TS.imp ?_))
        refine TR.imp ?_; intro K hK; simp only [go_sem, hP, hn]; (repeat refine vc ?_); refine c2 (fun hg => by rw [hP, hT]; exact has_k Tk n 17) rfl rfl rfl (fun hg => trivial) (fun hg => by clear hK; revert hg; simp only [go_sem, hP, hn]; first | trivial | omega | (simp; done) | (simp +contextual; done) | grind) (fun hg => by simp only [go_sem, hP, hn]; try rfl) (by rw [hn]; decide) (by rfl) ?_; simp only [go_sem, hP, hn]; (repeat refine vc ?_); refine hK _ ?_; clear K hK
        refine Tr.cond rfl (fun hc => ?_) (fun hc => ?_)
        · (repeat (first | (refine TR.imp ?_; intro K hK; simp only [go_sem, hP, hn]; (repeat refine vc ?_); refine hK _ ?_; clear K hK) | refine TS.imp ?_))
          simp only [RetQ, go_sem]
          exact congrArg S.d (congrArg D.b (h1.trans (chn_t hc)).symm)
        · (repeat (first | (refine TR.imp ?_; intro K hK; simp only [go_sem, hP, hn]; (repeat refine vc ?_); refine hK _ ?_; clear K hK) | refine TS.imp ?_))
          rw [w64 (by omega) (by omega)]
          refine ⟨m - 1, _, by omega, ?_, 2, rfl, by omega, ?_⟩
          · exact (Le.mv (by simp only [go_sem, hP, hn]; first | done | (simp; done) | (simp [intC]; done) | (repeat (first | rfl | constructor))) (by simp only [go_sem, hP, hn]; first | done | (simp; done) | (simp [intC]; done) | (repeat (first | rfl | constructor))))
          exact h1.trans (chn_f hc)
      · exact absurd hb (by simp)
    · (repeat (first | (refine TR.imp ?_; intro K hK; simp only [go_sem, hP, hn]; (repeat refine vc ?_); refine hK _ ?_; clear K hK) | refine TS.imp ?_))
      refine Tr.cond rfl (fun hb => ?_) (fun hb => ?_)
      · (repeat (first | (refine TR.imp ?_; intro K hK; simp only [go_sem, hP, hn]; (repeat refine vc ?_); refine hK _ ?_; clear K hK) | refine TS.imp ?_))
        refine TR.imp ?_; intro K hK; simp only [go_sem, hP, hn]; (repeat refine vc ?_); refine c2 (fun hg => by rw [hP, hT]; exact has_k Tk n 2) rfl rfl rfl (fun hg => trivial) (fun hg => by clear hK; revert hg; simp only [go_sem, hP, hn]; first | trivial | omega | (simp; done) | (simp +contextual; done) | grind) (fun hg => by simp only [go_sem, hP, hn]; try rfl) (by rw [hn]; decide) (by rfl) ?_; simp only [go_sem, hP, hn]; (repeat refine vc ?_); refine hK _ ?_; clear K hK
        refine Tr.cond rfl (fun hc => ?_) (fun hc => ?_)
        · (repeat (first | (refine TR.imp ?_; intro K hK; simp only [go_sem, hP, hn]; (repeat refine vc ?_); refine hK _ ?_; clear K hK) | refine TS.imp ?_))
          simp only [RetQ, go_sem]
          exact congrArg S.d (congrArg D.b (h1.trans (chn_t hc)).symm)
        · (repeat (first | (refine TR.imp ?_; intro K hK; simp only [go_sem, hP, hn]; (repeat refine vc ?_); refine hK _ ?_; clear K hK) | refine TS.imp ?_))
          rw [w64 (by omega) (by omega)]
          refine ⟨m - 1, _, by omega, ?_, 3, rfl, by omega, ?_⟩
          · exact (Le.mv (by simp only [go_sem, hP, hn]; first | done | (simp; done) | (simp [intC]; done) | (repeat (first | rfl | constructor))) (by simp only [go_sem, hP, hn]; first | done | (simp; done) | (simp [intC]; done) | (repeat (first | rfl | constructor))))
          exact h1.trans (chn_f hc)
      · exact absurd hb (by simp)
    · (repeat (first | (refine TR.imp ?_; intro K hK; simp only [go_sem, hP, hn]; (repeat refine vc ?_); refine hK _ ?_; clear K hK) | refine TS.imp ?_))
      refine Tr.cond rfl (fun hb => ?_) (fun hb => ?_)
      · (repeat (first | (refine TR.imp ?_; intro K hK; simp only [go_sem, hP, hn]; (repeat refine vc ?_); refine hK _ ?_; clear K hK) | refine TS.imp ?_))
        refine TR.imp ?_; intro K hK; simp only [go_sem, hP, hn]; (repeat refine vc ?_); refine c2 (fun hg => by rw [hP, hT]; exact has_k Tk n 4) rfl rfl rfl (fun hg => trivial) (fun hg => by clear hK; revert hg; simp only [go_sem, hP, hn]; first | trivial | omega | (simp; done) | (simp +contextual; done) | grind) (fun hg => by simp only [go_sem, hP, hn]; try rfl) (by rw [hn]; decide) (by rfl) ?_; simp only [go_sem, hP, hn]; (repeat refine vc ?_); refine hK _ ?_; clear K hK
        refine Tr.cond rfl (fun hc => ?_) (fun hc => ?_)
        · (repeat (first | (refine TR.imp ?_; intro K hK; simp only [go_sem, hP, hn]; (repeat refine vc ?_); refine hK _ ?_; clear K hK) | refine TS.imp ?_))
          simp only [RetQ, go_sem]
          exact congrArg S.d (congrArg D.b (h1.trans (chn_t hc)).symm)
        · (repeat (first | (refine TR.imp ?_; intro K hK; simp only [go_sem, hP, hn]; (repeat refine vc ?_); refine hK _ ?_; clear K hK) | refine TS.imp ?_))
          rw [w64 (by omega) (by omega)]
          refine ⟨m - 1, _, by omega, ?_, 4, rfl, by omega, ?_⟩
          · exact (Le.mv (by simp only [go_sem, hP, hn]; first | done | (simp; done) | (simp [intC]; done) | (repeat (first | rfl | constructor))) (by simp only [go_sem, hP, hn]; first | done | (simp; done) | (simp [intC]; done) | (repeat (first | rfl | constructor))))
          exact h1.trans (chn_f hc)
      · exact absurd hb (by simp)
    · (repeat (first | (refine TR.imp ?_; intro K hK; simp only [go_sem, hP, hn]; (repeat refine vc ?_); refine hK _ ?_; clear K hK) | refine TS.imp ?_))
      refine Tr.cond rfl (fun hb => ?_) (fun hb => ?_)
      · (repeat (first | (refine TR.imp ?_; intro K hK; simp only [go_sem, hP, hn]; (repeat refine vc ?_); refine hK _ ?_; clear K hK) | refine TS.imp ?_))
        refine TR.imp ?_; intro K hK; simp only [go_sem, hP, hn]; (repeat refine vc ?_); refine c2 (fun hg => by rw [hP, hT]; exact has_k Tk n 32) rfl rfl rfl (fun hg => trivial) (fun hg => by clear hK; revert hg; simp only [go_sem, hP, hn]; first | trivial | omega | (simp; done) | (simp +contextual; done) | grind) (fun hg => by simp only [go_sem, hP, hn]; try rfl) (by rw [hn]; decide) (by rfl) ?_; simp only [go_sem, hP, hn]; (repeat refine vc ?_); refine hK _ ?_; clear K hK
        refine Tr.cond rfl (fun hc => ?_) (fun hc => ?_)
        · (repeat (first | (refine TR.imp ?_; intro K hK; simp only [go_sem, hP, hn]; (repeat refine vc ?_); refine hK _ ?_; clear K hK) | refine TS.imp ?_))
          simp only [RetQ, go_sem]
          exact congrArg S.d (congrArg D.b (h1.trans (chn_t hc)).symm)
        · (repeat (first | (refine TR.imp ?_; intro K hK; simp only [go_sem, hP, hn]; (repeat refine vc ?_); refine hK _ ?_; clear K hK) | refine TS.imp ?_))
          rw [w64 (by omega) (by omega)]
          refine ⟨m - 1, _, by omega, ?_, 5, rfl, by omega, ?_⟩
          · exact (Le.mv (by simp only [go_sem, hP, hn]; first | done | (simp; done) | (simp [intC]; done) | (repeat (first | rfl | constructor))) (by simp only [go_sem, hP, hn]; first | done | (simp; done) | (simp [intC]; done) | (repeat (first | rfl | constructor))))
          exact h1.trans (chn_f hc)
      · exact absurd hb (by simp)
    · (repeat (first | (refine TR.imp ?_; intro K hK; simp only [go_sem, hP, hn]; (repeat refine vc ?_); refine hK _ ?_; clear K hK) | refine TS.imp ?_))
      refine Tr.cond rfl (fun hb => ?_) (fun hb => ?_)
      · (repeat (first | (refine TR.imp ?_; intro K hK; simp only [go_sem, hP, hn]; (repeat refine vc ?_); refine hK _ ?_; clear K hK) | refine TS.imp ?_))
        refine TR.imp ?_; intro K hK; simp only [go_sem, hP, hn]; (repeat refine vc ?_); refine c2 (fun hg => by rw [hP, hT]; exact has_k Tk n 64) rfl rfl rfl (fun hg => trivial) (fun hg => by clear hK; revert hg; simp only [go_sem, hP, hn]; first | trivial | omega | (simp; done) | (simp +contextual; done) | grind) (fun hg => by simp only [go_sem, hP, hn]; try rfl) (by rw [hn]; decide) (by rfl) ?_; simp only [go_sem, hP, hn]; (repeat refine vc ?_); refine hK _ ?_; clear K hK
        refine Tr.cond rfl (fun hc => ?_) (fun hc => ?_)
        · (repeat (first | (refine TR.imp ?_; intro K hK; simp only [go_sem, hP, hn]; (repeat refine vc ?_); refine hK _ ?_; clear K hK) | refine TS.imp ?_))
          simp only [RetQ, go_sem]
          exact congrArg S.d (congrArg D.b (h1.trans (chn_t hc)).symm)
        · (repeat (first | (refine TR.imp ?_; intro K hK; simp only [go_sem, hP, hn]; (repeat refine vc ?_); refine hK _ ?_; clear K hK) | refine TS.imp ?_))
          rw [w64 (by omega) (by omega)]
          refine ⟨m - 1, _, by omega, ?_, 6, rfl, by omega, ?_⟩
          · exact (Le.mv (by simp only [go_sem, hP, hn]; first | done | (simp; done) | (simp [intC]; done) | (repeat (first | rfl | constructor))) (by simp only [go_sem, hP, hn]; first | done | (simp; done) | (simp [intC]; done) | (repeat (first | rfl | constructor))))
          exact h1.trans (chn_f hc)
      · exact absurd hb (by simp)
  · (repeat (first | (refine TR.imp ?_; intro K hK; simp only [go_sem, hP, hn]; (repeat refine vc ?_); refine hK _ ?_; clear K hK) | refine TS.imp ?_))
    refine Tr.cond rfl (fun hb => ?_) (fun hb => ?_)
    · exact absurd (of_decide_eq_true hb) (by omega)
    · (repeat (first | (refine TR.imp ?_; intro K hK; simp only [go_sem, hP, hn]; (repeat refine vc ?_); refine hK _ ?_; clear K hK) | refine TS.imp ?_))
      simp only [RetQ, go_sem]
      have : j = 6 := by omega
      subst this
      rw [h1]; rfl
theorem fits_k {T : World → Prop} (Tk : KT T) (n : Nd) (v : Int) (hw : n.ws.length ≤ 65536) (hs : n.bs.length ≤ 65536) : Ct Go.Proofs.Tryz.prog T 106 [.agg n.cs, .d (.i .i64 v)] true (fun r => r = .d (.b (n.fits v))) := by
  refine Ct_of Tk.m Go.Proofs.Tryz.func106 rfl rfl Go.Proofs.Tryz.ntmps106 (by simp) (rs := [.tmp 4]) rfl fun E hP hn hT => ?_
  (repeat (first | (refine TR.imp ?_; intro K hK; simp only [go_sem, hP, hn]; (repeat refine vc ?_); refine hK _ ?_; clear K hK) | refine TS.imp ?_))
  refine TR.imp ?_; intro K hK; simp only [go_sem, hP, hn]; (repeat refine vc ?_); refine c1 (by rw [hP, hT]; exact has_k Tk n 17) rfl rfl rfl trivial (by simp only [go_sem, hP, hn]; try trivial) (by simp only [go_sem, hP, hn]; try rfl) (by rw [hn]; decide) (by rfl) ?_; simp only [go_sem, hP, hn]; (repeat refine vc ?_); refine c2 (fun hg => by rw [hP, hT]; exact in_k Tk.m n.size 1 8) rfl rfl rfl (fun hg => trivial) (fun hg => by clear hK; revert hg; simp only [go_sem, hP, hn]; first | trivial | omega | (simp; done) | (simp +contextual; done) | grind) (fun hg => by simp only [go_sem, hP, hn]; try rfl) (by rw [hn]; decide) (by rfl) ?_; simp only [go_sem, hP, hn]; (repeat refine vc ?_); refine c2 (fun hg => by rw [hP, hT]; exact has_k Tk n 2) rfl rfl rfl (fun hg => trivial) (fun hg => by clear hK; revert hg; simp only [go_sem, hP, hn]; first | trivial | omega | (simp; done) | (simp +contextual; done) | grind) (fun hg => by simp only [go_sem, hP, hn]; try rfl) (by rw [hn]; decide) (by rfl) ?_; simp only [go_sem, hP, hn]; (repeat refine vc ?_); refine c2 (fun hg => by rw [hP, hT]; exact in_k Tk.m n.wid 1 16) rfl rfl rfl (fun hg => trivial) (fun hg => by clear hK; revert hg; simp only [go_sem, hP, hn]; first | trivial | omega | (simp; done) | (simp +contextual; done) | grind) (fun hg => by simp only [go_sem, hP, hn]; try rfl) (by rw [hn]; decide) (by rfl) ?_; simp only [go_sem, hP, hn]; (repeat refine vc ?_); refine hK _ ?_; clear K hK
  refine Tr.cond rfl (fun h1 => ?_) (fun h1 => ?_)
  · (repeat (first | (refine TR.imp ?_; intro K hK; simp only [go_sem, hP, hn]; (repeat refine vc ?_); refine hK _ ?_; clear K hK) | refine TS.imp ?_))
    simp only [RetQ, go_sem]
    have e : n.fit1 = true := h1
    unfold Nd.fits; rw [e]; rfl
  replace h1 : n.fit1 = false := h1
  (repeat (first | (refine TR.imp ?_; intro K hK; simp only [go_sem, hP, hn]; (repeat refine vc ?_); refine hK _ ?_; clear K hK) | refine TS.imp ?_))
  refine d5 (.p true 0 (.alt 1 (.p false 2 (.p true 3 (.p true 4 (.alt 5 (.p false 6 (.p true 7 (.p true 8 (.alt 9 (.p false 10 (.p false 11 (.p true 12 (.p true 13 (.p true 14 (.alt 15 (.p false 16 (.alt 17 (.p false 18 (.p false 19 (.p true 20 (.p true 21 (.p true 22 (.alt 23 (.p false 24 (.alt 25 (.p false 26 (.p false 27 (.p false 28 .nil))) .nil)) .nil)))))) .nil)) .nil)))))) .nil)))) .nil)))) .nil)) [] (by rw [hP]; kernel_rfl) (by kernel_rfl) (by simp only [go_sem, hP, hn]; try simp) (by exact fun _ _ h => h) ?_; intro K hK; simp only [go_sem, hP, hn]; (repeat refine vc ?_); refine p1 (by rw [hP, hT]; exact has_k Tk n 1) rfl rfl rfl trivial (by simp only [go_sem, hP, hn]; try trivial) (by simp only [go_sem, hP, hn]; try rfl) (by rw [hn]; decide) (by rfl) ?_; simp only [go_sem, hP, hn]; (repeat refine vc ?_); refine p2 (fun hg => by rw [hP, hT]; exact in_k Tk.m n.step 1 4) rfl rfl rfl (fun hg => trivial) (fun hg => by clear hK; revert hg; simp only [go_sem, hP, hn]; first | trivial | omega | (simp; done) | (simp +contextual; done) | grind) (fun hg => by simp only [go_sem, hP, hn]; try rfl) (by rw [hn]; decide) (by rfl) ?_; simp only [go_sem, hP, hn]; (repeat refine vc ?_); refine p2 (fun hg => by rw [hP, hT]; exact in_k Tk.m n.gap 1 4) rfl rfl rfl (fun hg => trivial) (fun hg => by clear hK; revert hg; simp only [go_sem, hP, hn]; first | trivial | omega | (simp; done) | (simp +contextual; done) | grind) (fun hg => by simp only [go_sem, hP, hn]; try rfl) (by rw [hn]; decide) (by rfl) ?_; simp only [go_sem, hP, hn]; (repeat refine vc ?_); refine p2 (fun hg => by rw [hP, hT]; exact Span_k Tk n) rfl rfl rfl (fun hg => trivial) (fun hg => by clear hK; revert hg; simp only [go_sem, hP, hn]; first | trivial | omega | (simp; done) | (simp +contextual; done) | grind) (fun hg => by simp only [go_sem, hP, hn]; try rfl) (by rw [hn]; decide) (by rfl) ?_; simp only [go_sem, hP, hn]; (repeat refine vc ?_); refine p2 (fun hg => by rw [hP, hT]; exact in_k Tk.m n.left 0 (wrap64 (n.span - 1))) rfl rfl rfl (fun hg => trivial) (fun hg => by clear hK; revert hg; simp only [go_sem, hP, hn]; first | trivial | omega | (simp; done) | (simp +contextual; done) | grind) (fun hg => by simp only [go_sem, hP, hn]; try rfl) (by rw [hn]; decide) (by rfl) ?_; simp only [go_sem, hP, hn]; (repeat refine vc ?_); refine p2 (fun hg => by rw [hP, hT]; exact Span_k Tk n) rfl rfl rfl (fun hg => trivial) (fun hg => by clear hK; revert hg; simp only [go_sem, hP, hn]; first | trivial | omega | (simp; done) | (simp +contextual; done) | grind) (fun hg => by simp only [go_sem, hP, hn]; try rfl) (by rw [hn]; decide) (by rfl) ?_; simp only [go_sem, hP, hn]; (repeat refine vc ?_); refine p2 (fun hg => by rw [hP, hT]; exact in_k Tk.m n.right 0 (wrap64 (n.span - 1))) rfl rfl rfl (fun hg => trivial) (fun hg => by clear hK; revert hg; simp only [go_sem, hP, hn]; first | trivial | omega | (simp; done) | (simp +contextual; done) | grind) (fun hg => by simp only [go_sem, hP, hn]; try rfl) (by rw [hn]; decide) (by rfl) ?_; simp only [go_sem, hP, hn]; (repeat refine vc ?_); refine hK _ ?_; clear K hK
  have e3 : n.fit3 = (n.has 1 && !(inB n.step 1 4 && inB n.gap 1 4 && inB n.left 0 (wrap64 (n.span - 1)) && inB n.right 0 (wrap64 (n.span - 1)))) := by unfold Nd.fit3; simp only [Bool.not_and]
  refine Tr.cond rfl (fun h3 => ?_) (fun h3 => ?_)
  · (repeat (first | (refine TR.imp ?_; intro K hK; simp only [go_sem, hP, hn]; (repeat refine vc ?_); refine hK _ ?_; clear K hK) | refine TS.imp ?_))
    simp only [RetQ, go_sem]
    have e : n.fit3 = true := e3.trans h3
    unfold Nd.fits; rw [h1, e]; rfl
  replace h3 : n.fit3 = false := e3.trans h3
  (repeat (first | (refine TR.imp ?_; intro K hK; simp only [go_sem, hP, hn]; (repeat refine vc ?_); refine hK _ ?_; clear K hK) | refine TS.imp ?_))
  refine TR.imp ?_; intro K hK; simp only [go_sem, hP, hn]; (repeat refine vc ?_); refine c1 (by rw [hP, hT]; exact has_k Tk n 4) rfl rfl rfl trivial (by simp only [go_sem, hP, hn]; try trivial) (by simp only [go_sem, hP, hn]; try rfl) (by rw [hn]; decide) (by rfl) ?_; simp only [go_sem, hP, hn]; (repeat refine vc ?_); refine hK _ ?_; clear K hK
  refine Tr.cond rfl (fun h4 => ?_) (fun h4 => ?_)
  · (repeat (first | (refine TR.imp ?_; intro K hK; simp only [go_sem, hP, hn]; (repeat refine vc ?_); refine hK _ ?_; clear K hK) | refine TS.imp ?_))
    refine Tr.cond rfl (fun h2 => ?_) (fun h2 => ?_)
    · (repeat (first | (refine TR.imp ?_; intro K hK; simp only [go_sem, hP, hn]; (repeat refine vc ?_); refine hK _ ?_; clear K hK) | refine TS.imp ?_))
      refine TR.imp ?_; intro K hK; simp only [go_sem, hP, hn]; (repeat refine vc ?_); refine c2 (fun hg => by rw [hP, hT]; exact every_k Tk.m n.ws (-128) 127 hw) rfl rfl rfl (fun hg => trivial) (fun hg => by clear hK; revert hg; simp only [go_sem, hP, hn]; first | trivial | omega | (simp; done) | (simp +contextual; done) | grind) (fun hg => by simp only [go_sem, hP, hn]; try rfl) (by rw [hn]; decide) (by rfl) ?_; simp only [go_sem, hP, hn]; (repeat refine vc ?_); refine c2 (fun hg => by rw [hP, hT]; exact every_k Tk.m n.bs (-16777216) 16777216 hs) rfl rfl rfl (fun hg => trivial) (fun hg => by clear hK; revert hg; simp only [go_sem, hP, hn]; first | trivial | omega | (simp; done) | (simp +contextual; done) | grind) (fun hg => by simp only [go_sem, hP, hn]; try rfl) (by rw [hn]; decide) (by rfl) ?_; simp only [go_sem, hP, hn]; (repeat refine vc ?_); refine hK _ ?_; clear K hK
      refine Tr.cond rfl (fun h12 => ?_) (fun h12 => ?_)
      · (repeat (first | (refine TR.imp ?_; intro K hK; simp only [go_sem, hP, hn]; (repeat refine vc ?_); refine hK _ ?_; clear K hK) | refine TS.imp ?_))
        simp only [RetQ, go_sem]
        have e : n.fits v = n.fitW (v) (wrap64 n.size) := by unfold Nd.fits; simp only [h1, h3, h4, h2, if_true, if_false, Bool.false_eq_true]
        rw [Int.one_mul] at h12; rw [e]; unfold Nd.fitW Nd.fit12; rw [h12]; rfl
      · (repeat (first | (refine TR.imp ?_; intro K hK; simp only [go_sem, hP, hn]; (repeat refine vc ?_); refine hK _ ?_; clear K hK) | refine TS.imp ?_))
        refine TR.imp ?_; intro K hK; simp only [go_sem, hP, hn]; (repeat refine vc ?_); refine c1 (by rw [hP, hT]; exact in_k Tk.m n.mult 0 32767) rfl rfl rfl trivial (by simp only [go_sem, hP, hn]; try trivial) (by simp only [go_sem, hP, hn]; try rfl) (by rw [hn]; decide) (by rfl) ?_; simp only [go_sem, hP, hn]; (repeat refine vc ?_); refine c2 (fun hg => by rw [hP, hT]; exact in_k Tk.m n.shift 0 30) rfl rfl rfl (fun hg => trivial) (fun hg => by clear hK; revert hg; simp only [go_sem, hP, hn]; first | trivial | omega | (simp; done) | (simp +contextual; done) | grind) (fun hg => by simp only [go_sem, hP, hn]; try rfl) (by rw [hn]; decide) (by rfl) ?_; simp only [go_sem, hP, hn]; (repeat refine vc ?_); refine c2 (fun hg => by rw [hP, hT]; exact in_k Tk.m n.low (-2147483648) n.high) rfl rfl rfl (fun hg => trivial) (fun hg => by clear hK; revert hg; simp only [go_sem, hP, hn]; first | trivial | omega | (simp; done) | (simp +contextual; done) | grind) (fun hg => by simp only [go_sem, hP, hn]; try rfl) (by rw [hn]; decide) (by rfl) ?_; simp only [go_sem, hP, hn]; (repeat refine vc ?_); refine c2 (fun hg => by rw [hP, hT]; exact in_k Tk.m n.high n.low 2147483647) rfl rfl rfl (fun hg => trivial) (fun hg => by clear hK; revert hg; simp only [go_sem, hP, hn]; first | trivial | omega | (simp; done) | (simp +contextual; done) | grind) (fun hg => by simp only [go_sem, hP, hn]; try rfl) (by rw [hn]; decide) (by rfl) ?_; simp only [go_sem, hP, hn]; (repeat refine vc ?_); refine hK _ ?_; clear K hK
        (repeat (first | (refine TR.imp ?_; intro K hK; simp only [go_sem, hP, hn]; (repeat refine vc ?_); refine hK _ ?_; clear K hK) | refine TS.imp ?_))
        simp only [RetQ, go_sem]
        have e : n.fits v = n.fitW (v) (wrap64 n.size) := by unfold Nd.fits; simp only [h1, h3, h4, h2, if_true, if_false, Bool.false_eq_true]
        rw [Int.one_mul] at h12; rw [e]; unfold Nd.fitW Nd.fit12; rw [h12]; rfl
    · (repeat (first | (refine TR.imp ?_; intro K hK; simp only [go_sem, hP, hn]; (repeat refine vc ?_); refine hK _ ?_; clear K hK) | refine TS.imp ?_))
      refine Tr.cond rfl (fun h5 => ?_) (fun h5 => ?_)
      · (repeat (first | (refine TR.imp ?_; intro K hK; simp only [go_sem, hP, hn]; (repeat refine vc ?_); refine hK _ ?_; clear K hK) | refine TS.imp ?_))
        refine TR.imp ?_; intro K hK; simp only [go_sem, hP, hn]; (repeat refine vc ?_); refine c2 (fun hg => by rw [hP, hT]; exact every_k Tk.m n.ws (-128) 127 hw) rfl rfl rfl (fun hg => trivial) (fun hg => by clear hK; revert hg; simp only [go_sem, hP, hn]; first | trivial | omega | (simp; done) | (simp +contextual; done) | grind) (fun hg => by simp only [go_sem, hP, hn]; try rfl) (by rw [hn]; decide) (by rfl) ?_; simp only [go_sem, hP, hn]; (repeat refine vc ?_); refine c2 (fun hg => by rw [hP, hT]; exact every_k Tk.m n.bs (-16777216) 16777216 hs) rfl rfl rfl (fun hg => trivial) (fun hg => by clear hK; revert hg; simp only [go_sem, hP, hn]; first | trivial | omega | (simp; done) | (simp +contextual; done) | grind) (fun hg => by simp only [go_sem, hP, hn]; try rfl) (by rw [hn]; decide) (by rfl) ?_; simp only [go_sem, hP, hn]; (repeat refine vc ?_); refine hK _ ?_; clear K hK
        refine Tr.cond rfl (fun h12 => ?_) (fun h12 => ?_)
        · (repeat (first | (refine TR.imp ?_; intro K hK; simp only [go_sem, hP, hn]; (repeat refine vc ?_); refine hK _ ?_; clear K hK) | refine TS.imp ?_))
          simp only [RetQ, go_sem]
          have e : n.fits v = n.fitW (n.wid) (wrap64 (v * n.size)) := by unfold Nd.fits; simp only [h1, h3, h4, h2, h5, if_true, if_false, Bool.false_eq_true]
          rw [e]; unfold Nd.fitW Nd.fit12; rw [h12]; rfl
        · (repeat (first | (refine TR.imp ?_; intro K hK; simp only [go_sem, hP, hn]; (repeat refine vc ?_); refine hK _ ?_; clear K hK) | refine TS.imp ?_))
          refine TR.imp ?_; intro K hK; simp only [go_sem, hP, hn]; (repeat refine vc ?_); refine c1 (by rw [hP, hT]; exact in_k Tk.m n.mult 0 32767) rfl rfl rfl trivial (by simp only [go_sem, hP, hn]; try trivial) (by simp only [go_sem, hP, hn]; try rfl) (by rw [hn]; decide) (by rfl) ?_; simp only [go_sem, hP, hn]; (repeat refine vc ?_); refine c2 (fun hg => by rw [hP, hT]; exact in_k Tk.m n.shift 0 30) rfl rfl rfl (fun hg => trivial) (fun hg => by clear hK; revert hg; simp only [go_sem, hP, hn]; first | trivial | omega | (simp; done) | (simp +contextual; done) | grind) (fun hg => by simp only [go_sem, hP, hn]; try rfl) (by rw [hn]; decide) (by rfl) ?_; simp only [go_sem, hP, hn]; (repeat refine vc ?_); refine c2 (fun hg => by rw [hP, hT]; exact in_k Tk.m n.low (-2147483648) n.high) rfl rfl rfl (fun hg => trivial) (fun hg => by clear hK; revert hg; simp only [go_sem, hP, hn]; first | trivial | omega | (simp; done) | (simp +contextual; done) | grind) (fun hg => by simp only [go_sem, hP, hn]; try rfl) (by rw [hn]; decide) (by rfl) ?_; simp only [go_sem, hP, hn]; (repeat refine vc ?_); refine c2 (fun hg => by rw [hP, hT]; exact in_k Tk.m n.high n.low 2147483647) rfl rfl rfl (fun hg => trivial) (fun hg => by clear hK; revert hg; simp only [go_sem, hP, hn]; first | trivial | omega | (simp; done) | (simp +contextual; done) | grind) (fun hg => by simp only [go_sem, hP, hn]; try rfl) (by rw [hn]; decide) (by rfl) ?_; simp only [go_sem, hP, hn]; (repeat refine vc ?_); refine hK _ ?_; clear K hK
          (repeat (first | (refine TR.imp ?_; intro K hK; simp only [go_sem, hP, hn]; (repeat refine vc ?_); refine hK _ ?_; clear K hK) | refine TS.imp ?_))
          simp only [RetQ, go_sem]
          have e : n.fits v = n.fitW (n.wid) (wrap64 (v * n.size)) := by unfold Nd.fits; simp only [h1, h3, h4, h2, h5, if_true, if_false, Bool.false_eq_true]
          rw [e]; unfold Nd.fitW Nd.fit12; rw [h12]; rfl
      · (repeat (first | (refine TR.imp ?_; intro K hK; simp only [go_sem, hP, hn]; (repeat refine vc ?_); refine hK _ ?_; clear K hK) | refine TS.imp ?_))
        refine TR.imp ?_; intro K hK; simp only [go_sem, hP, hn]; (repeat refine vc ?_); refine c2 (fun hg => by rw [hP, hT]; exact every_k Tk.m n.ws (-128) 127 hw) rfl rfl rfl (fun hg => trivial) (fun hg => by clear hK; revert hg; simp only [go_sem, hP, hn]; first | trivial | omega | (simp; done) | (simp +contextual; done) | grind) (fun hg => by simp only [go_sem, hP, hn]; try rfl) (by rw [hn]; decide) (by rfl) ?_; simp only [go_sem, hP, hn]; (repeat refine vc ?_); refine c2 (fun hg => by rw [hP, hT]; exact every_k Tk.m n.bs (-16777216) 16777216 hs) rfl rfl rfl (fun hg => trivial) (fun hg => by clear hK; revert hg; simp only [go_sem, hP, hn]; first | trivial | omega | (simp; done) | (simp +contextual; done) | grind) (fun hg => by simp only [go_sem, hP, hn]; try rfl) (by rw [hn]; decide) (by rfl) ?_; simp only [go_sem, hP, hn]; (repeat refine vc ?_); refine hK _ ?_; clear K hK
        refine Tr.cond rfl (fun h12 => ?_) (fun h12 => ?_)
        · (repeat (first | (refine TR.imp ?_; intro K hK; simp only [go_sem, hP, hn]; (repeat refine vc ?_); refine hK _ ?_; clear K hK) | refine TS.imp ?_))
          simp only [RetQ, go_sem]
          have e : n.fits v = n.fitW (n.wid) (v) := by unfold Nd.fits; simp only [h1, h3, h4, h2, h5, if_true, if_false, Bool.false_eq_true]
          rw [e]; unfold Nd.fitW Nd.fit12; rw [h12]; rfl
        · (repeat (first | (refine TR.imp ?_; intro K hK; simp only [go_sem, hP, hn]; (repeat refine vc ?_); refine hK _ ?_; clear K hK) | refine TS.imp ?_))
          refine TR.imp ?_; intro K hK; simp only [go_sem, hP, hn]; (repeat refine vc ?_); refine c1 (by rw [hP, hT]; exact in_k Tk.m n.mult 0 32767) rfl rfl rfl trivial (by simp only [go_sem, hP, hn]; try trivial) (by simp only [go_sem, hP, hn]; try rfl) (by rw [hn]; decide) (by rfl) ?_; simp only [go_sem, hP, hn]; (repeat refine vc ?_); refine c2 (fun hg => by rw [hP, hT]; exact in_k Tk.m n.shift 0 30) rfl rfl rfl (fun hg => trivial) (fun hg => by clear hK; revert hg; simp only [go_sem, hP, hn]; first | trivial | omega | (simp; done) | (simp +contextual; done) | grind) (fun hg => by simp only [go_sem, hP, hn]; try rfl) (by rw [hn]; decide) (by rfl) ?_; simp only [go_sem, hP, hn]; (repeat refine vc ?_); refine c2 (fun hg => by rw [hP, hT]; exact in_k Tk.m n.low (-2147483648) n.high) rfl rfl rfl (fun hg => trivial) (fun hg => by clear hK; revert hg; simp only [go_sem, hP, hn]; first | trivial | omega | (simp; done) | (simp +contextual; done) | grind) (fun hg => by simp only [go_sem, hP, hn]; try rfl) (by rw [hn]; decide) (by rfl) ?_; simp only [go_sem, hP, hn]; (repeat refine vc ?_); refine c2 (fun hg => by rw [hP, hT]; exact in_k Tk.m n.high n.low 2147483647) rfl rfl rfl (fun hg => trivial) (fun hg => by clear hK; revert hg; simp only [go_sem, hP, hn]; first | trivial | omega | (simp; done) | (simp +contextual; done) | grind) (fun hg => by simp only [go_sem, hP, hn]; try rfl) (by rw [hn]; decide) (by rfl) ?_; simp only [go_sem, hP, hn]; (repeat refine vc ?_); refine hK _ ?_; clear K hK
          (repeat (first | (refine TR.imp ?_; intro K hK; simp only [go_sem, hP, hn]; (repeat refine vc ?_); refine hK _ ?_; clear K hK) | refine TS.imp ?_))
          simp only [RetQ, go_sem]
          have e : n.fits v = n.fitW (n.wid) (v) := by unfold Nd.fits; simp only [h1, h3, h4, h2, h5, if_true, if_false, Bool.false_eq_true]
          rw [e]; unfold Nd.fitW Nd.fit12; rw [h12]; rfl
  · (repeat (first | (refine TR.imp ?_; intro K hK; simp only [go_sem, hP, hn]; (repeat refine vc ?_); refine hK _ ?_; clear K hK) | refine TS.imp ?_))
    refine TR.imp ?_; intro K hK; simp only [go_sem, hP, hn]; (repeat refine vc ?_); refine c1 (by rw [hP, hT]; exact in_k Tk.m n.mult 0 32767) rfl rfl rfl trivial (by simp only [go_sem, hP, hn]; try trivial) (by simp only [go_sem, hP, hn]; try rfl) (by rw [hn]; decide) (by rfl) ?_; simp only [go_sem, hP, hn]; (repeat refine vc ?_); refine c2 (fun hg => by rw [hP, hT]; exact in_k Tk.m n.shift 0 30) rfl rfl rfl (fun hg => trivial) (fun hg => by clear hK; revert hg; simp only [go_sem, hP, hn]; first | trivial | omega | (simp; done) | (simp +contextual; done) | grind) (fun hg => by simp only [go_sem, hP, hn]; try rfl) (by rw [hn]; decide) (by rfl) ?_; simp only [go_sem, hP, hn]; (repeat refine vc ?_); refine c2 (fun hg => by rw [hP, hT]; exact in_k Tk.m n.low (-2147483648) n.high) rfl rfl rfl (fun hg => trivial) (fun hg => by clear hK; revert hg; simp only [go_sem, hP, hn]; first | trivial | omega | (simp; done) | (simp +contextual; done) | grind) (fun hg => by simp only [go_sem, hP, hn]; try rfl) (by rw [hn]; decide) (by rfl) ?_; simp only [go_sem, hP, hn]; (repeat refine vc ?_); refine c2 (fun hg => by rw [hP, hT]; exact in_k Tk.m n.high n.low 2147483647) rfl rfl rfl (fun hg => trivial) (fun hg => by clear hK; revert hg; simp only [go_sem, hP, hn]; first | trivial | omega | (simp; done) | (simp +contextual; done) | grind) (fun hg => by simp only [go_sem, hP, hn]; try rfl) (by rw [hn]; decide) (by rfl) ?_; simp only [go_sem, hP, hn]; (repeat refine vc ?_); refine hK _ ?_; clear K hK
    (repeat (first | (refine TR.imp ?_; intro K hK; simp only [go_sem, hP, hn]; (repeat refine vc ?_); refine hK _ ?_; clear K hK) | refine TS.imp ?_))
    simp only [RetQ, go_sem]
    unfold Nd.fits; rw [h1, h3, h4]; rfl
theorem Check_k {T : World → Prop} (Tk : KT T) (n : Nd) (l : List Int) (hw : n.ws.length ≤ 65536) (hs : n.bs.length ≤ 65536) (hl : l.length ≤ 65536) (hi : n.inn.length ≤ 65536) : Ct Go.Proofs.Tryz.prog T 60 [.agg n.cs, .d (.row [.i .i64 0] (l.map intC))] true (fun r => r = .d (.i .i64 (n.chk l))) := by
  refine Ct_of Tk.m Go.Proofs.Tryz.func60 rfl rfl Go.Proofs.Tryz.ntmps60 (by simp) (rs := [.tmp 4]) rfl fun E hP hn hT => ?_
  (repeat (first | (refine TR.imp ?_; intro K hK; simp only [go_sem, hP, hn]; (repeat refine vc ?_); refine hK _ ?_; clear K hK) | refine TS.imp ?_))
  refine TR.imp ?_; intro K hK; simp only [go_sem, hP, hn]; (repeat refine vc ?_); refine c2 (fun hg => by rw [hP, hT]; exact every_k Tk.m l 1 16 hl) rfl rfl rfl (fun hg => trivial) (fun hg => by clear hK; revert hg; simp only [go_sem, hP, hn]; first | trivial | omega | (simp; done) | (simp +contextual; done) | grind) (fun hg => by simp only [go_sem, hP, hn]; try rfl) (by rw [hn]; decide) (by rfl) ?_; simp only [go_sem, hP, hn]; (repeat refine vc ?_); refine hK _ ?_; clear K hK
  refine Tr.cond rfl (fun h1 => ?_) (fun h1 => ?_)
  · (repeat (first | (refine TR.imp ?_; intro K hK; simp only [go_sem, hP, hn]; (repeat refine vc ?_); refine hK _ ?_; clear K hK) | refine TS.imp ?_))
    simp only [RetQ, go_sem]
    have e : n.chk1 l = true := h1
    unfold Nd.chk; rw [e]; rfl
  replace h1 : n.chk1 l = false := h1
  (repeat (first | (refine TR.imp ?_; intro K hK; simp only [go_sem, hP, hn]; (repeat refine vc ?_); refine hK _ ?_; clear K hK) | refine TS.imp ?_))
  refine TR.imp ?_; intro K hK; simp only [go_sem, hP, hn]; (repeat refine vc ?_); refine c1 (by rw [hP, hT]; exact in_k Tk.m n.k 1 12) rfl rfl rfl trivial (by simp only [go_sem, hP, hn]; try trivial) (by simp only [go_sem, hP, hn]; try rfl) (by rw [hn]; decide) (by rfl) ?_; simp only [go_sem, hP, hn]; (repeat refine vc ?_); refine c2 (fun hg => by rw [hP, hT]; exact in_k Tk.m n.post 0 3) rfl rfl rfl (fun hg => trivial) (fun hg => by clear hK; revert hg; simp only [go_sem, hP, hn]; first | trivial | omega | (simp; done) | (simp +contextual; done) | grind) (fun hg => by simp only [go_sem, hP, hn]; try rfl) (by rw [hn]; decide) (by rfl) ?_; simp only [go_sem, hP, hn]; (repeat refine vc ?_); refine c2 (fun hg => by rw [hP, hT]; exact has_k Tk n 4) rfl rfl rfl (fun hg => trivial) (fun hg => by clear hK; revert hg; simp only [go_sem, hP, hn]; first | trivial | omega | (simp; done) | (simp +contextual; done) | grind) (fun hg => by simp only [go_sem, hP, hn]; try rfl) (by rw [hn]; decide) (by rfl) ?_; simp only [go_sem, hP, hn]; (repeat refine vc ?_); refine hK _ ?_; clear K hK
  refine Tr.cond rfl (fun h3 => ?_) (fun h3 => ?_)
  · (repeat (first | (refine TR.imp ?_; intro K hK; simp only [go_sem, hP, hn]; (repeat refine vc ?_); refine hK _ ?_; clear K hK) | refine TS.imp ?_))
    simp only [RetQ, go_sem]
    have e : n.chk3 = true := h3
    unfold Nd.chk; rw [h1, e]; rfl
  replace h3 : n.chk3 = false := h3
  (repeat (first | (refine TR.imp ?_; intro K hK; simp only [go_sem, hP, hn]; (repeat refine vc ?_); refine hK _ ?_; clear K hK) | refine TS.imp ?_))
  refine TR.imp ?_; intro K hK; simp only [go_sem, hP, hn]; (repeat refine vc ?_); refine c1 (by rw [hP, hT]; exact has_k Tk n 8) rfl rfl rfl trivial (by simp only [go_sem, hP, hn]; try trivial) (by simp only [go_sem, hP, hn]; try rfl) (by rw [hn]; decide) (by rfl) ?_; simp only [go_sem, hP, hn]; (repeat refine vc ?_); refine c2 (fun hg => by rw [hP, hT]; exact in_k Tk.m (l.length : Int) 2 4) rfl rfl rfl (fun hg => trivial) (fun hg => by clear hK; revert hg; simp only [go_sem, hP, hn]; first | trivial | omega | (simp; done) | (simp +contextual; done) | grind) (fun hg => by simp only [go_sem, hP, hn]; try rfl) (by rw [hn]; decide) (by rfl) ?_; simp only [go_sem, hP, hn]; (repeat refine vc ?_); refine c2 (fun hg => by rw [hP, hT]; exact has_k Tk n 8) rfl rfl rfl (fun hg => trivial) (fun hg => by clear hK; revert hg; simp only [go_sem, hP, hn]; first | trivial | omega | (simp; done) | (simp +contextual; done) | grind) (fun hg => by simp only [go_sem, hP, hn]; try rfl) (by rw [hn]; decide) (by rfl) ?_; simp only [go_sem, hP, hn]; (repeat refine vc ?_); refine c2 (fun hg => by rw [hP, hT]; exact bare_k Tk n) rfl rfl rfl (fun hg => trivial) (fun hg => by clear hK; revert hg; simp only [go_sem, hP, hn]; first | trivial | omega | (simp; done) | (simp +contextual; done) | grind) (fun hg => by simp only [go_sem, hP, hn]; try rfl) (by rw [hn]; decide) (by rfl) ?_; simp only [go_sem, hP, hn]; (repeat refine vc ?_); refine hK _ ?_; clear K hK
  refine Tr.cond rfl (fun h5 => ?_) (fun h5 => ?_)
  · (repeat (first | (refine TR.imp ?_; intro K hK; simp only [go_sem, hP, hn]; (repeat refine vc ?_); refine hK _ ?_; clear K hK) | refine TS.imp ?_))
    simp only [RetQ, go_sem]
    have e : n.chk5 l = true := h5
    unfold Nd.chk; rw [h1, h3, e]; rfl
  replace h5 : n.chk5 l = false := h5
  have hne : 0 < l.length := List.length_pos_iff.2 fun e => by subst e; rw [Nd.chk5_nil] at h5; cases h5
  (repeat (first | (refine TR.imp ?_; intro K hK; simp only [go_sem, hP, hn]; (repeat refine vc ?_); refine hK _ ?_; clear K hK) | refine TS.imp ?_))
  refine d5 (.p true 0 (.p true 1 (.p true 2 (.p true 3 (.alt 4 (.p false 5 (.p false 6 .nil)) .nil))))) [] (by rw [hP]; kernel_rfl) (by kernel_rfl) (by simp only [go_sem, hP, hn]; try simp) (by exact fun _ _ h => h) ?_; intro K hK; simp only [go_sem, hP, hn]; (repeat refine vc ?_); refine p1 (by rw [hP, hT]; exact fits_k Tk n (rd l 0) hw hs) rfl rfl rfl trivial (by simp only [go_sem, hP, hn]; try trivial) (by simp only [go_sem, hP, hn]; try rfl) (by rw [hn]; decide) (by rfl) ?_; simp only [go_sem, hP, hn]; (repeat refine vc ?_); refine hK _ ?_; clear K hK
  refine Tr.cond rfl (fun h7 => ?_) (fun h7 => ?_)
  · (repeat (first | (refine TR.imp ?_; intro K hK; simp only [go_sem, hP, hn]; (repeat refine vc ?_); refine hK _ ?_; clear K hK) | refine TS.imp ?_))
    simp only [RetQ, go_sem]
    unfold Nd.chk; rw [h1, h3, h5, h7]; rfl
  (repeat (first | (refine TR.imp ?_; intro K hK; simp only [go_sem, hP, hn]; (repeat refine vc ?_); refine hK _ ?_; clear K hK) | refine TS.imp ?_))
  have e0 : n.chk l = n.chkL (rd l 0) 0 l := by unfold Nd.chk; rw [h1, h3, h5, h7]; rfl
  refine Tr.loop (fun m s => ∃ j s0 : Int, s = ⟨[(74, .d (.i .i64 j)), (72, .d (.row [.i .i64 0] (l.map intC))), (73, .d (.i .i64 l.length)), (1, .d (.row [.i .i64 0] (l.map intC))), (5, .d (.i .i64 s0)), (2, .ptr 2 0)], [(2, .box 50 n.cs)]⟩ ∧ 0 ≤ j ∧ j + m = l.length ∧ n.chk l = n.chkL (rd l 0) s0 (l.drop j.toNat)) l.length ⟨_, (Le.mv (by simp only [go_sem, hP, hn]; first | done | (simp; done) | (simp [intC]; done) | (repeat (first | rfl | constructor))) (by simp only [go_sem, hP, hn]; first | done | (simp; done) | (simp [intC]; done) | (repeat (first | rfl | constructor)))), 0, 0, rfl, by omega, by omega, by simpa using e0⟩ ?_
  rintro m s ⟨j, s0, rfl, h0, hm, hc⟩
  (repeat (first | (refine TR.imp ?_; intro K hK; simp only [go_sem, hP, hn]; (repeat refine vc ?_); refine hK _ ?_; clear K hK) | refine TS.imp ?_))
  refine Tr.cond rfl (fun hb => ?_) (fun hb => ?_)
  · have hj : j < l.length := by simpa using hb
    rw [drop_rd h0 hj] at hc
    (repeat (first | (refine TR.imp ?_; intro K hK; simp only [go_sem, hP, hn]; (repeat refine vc ?_); refine hK _ ?_; clear K hK) | refine TS.imp ?_))
    refine Tr.cond rfl (fun hd => ?_) (fun hd => ?_)
    · (repeat (first | (refine TR.imp ?_; intro K hK; simp only [go_sem, hP, hn]; (repeat refine vc ?_); refine hK _ ?_; clear K hK) | refine TS.imp ?_))
      simp only [RetQ, go_sem]
      rw [hc]; unfold Nd.chkL; rw [if_pos hd]
    · (repeat (first | (refine TR.imp ?_; intro K hK; simp only [go_sem, hP, hn]; (repeat refine vc ?_); refine hK _ ?_; clear K hK) | refine TS.imp ?_))
      rw [w64 (x := j + 1) (by omega) (by omega)]
      refine ⟨m - 1, _, by omega, ?_, j + 1, wrap64 (s0 + rd l j), rfl, by omega, by omega, ?_⟩
      · exact (Le.mv (by simp only [go_sem, hP, hn]; first | done | (simp; done) | (simp [intC]; done) | (repeat (first | rfl | constructor))) (by simp only [go_sem, hP, hn]; first | done | (simp; done) | (simp [intC]; done) | (repeat (first | rfl | constructor))))
      rw [hc, show (j + 1).toNat = j.toNat + 1 by omega]; conv => lhs; unfold Nd.chkL
      rw [if_neg (by rw [hd]; decide)]
  · rw [drop_end (by simpa using hb)] at hc
    (repeat (first | (refine TR.imp ?_; intro K hK; simp only [go_sem, hP, hn]; (repeat refine vc ?_); refine hK _ ?_; clear K hK) | refine TS.imp ?_))
    refine Tr.cond rfl (fun hd => ?_) (fun hd => ?_)
    · (repeat (first | (refine TR.imp ?_; intro K hK; simp only [go_sem, hP, hn]; (repeat refine vc ?_); refine hK _ ?_; clear K hK) | refine TS.imp ?_))
      simp only [RetQ, go_sem]
      rw [hc]; unfold Nd.chkL; rw [if_pos hd]
    · (repeat (first | (refine TR.imp ?_; intro K hK; simp only [go_sem, hP, hn]; (repeat refine vc ?_); refine hK _ ?_; clear K hK) | refine TS.imp ?_))
      simp only [RetQ, go_sem]
      rw [hc]; unfold Nd.chkL; rw [if_neg (by rw [hd]; decide)]
theorem Width_k {T : World → Prop} (Tk : KT T) (n : Nd) (l : List Int) (hw : n.ws.length ≤ 65536) (hs : n.bs.length ≤ 65536) (hl : l.length ≤ 65536) (hi : n.inn.length ≤ 65536) : Ct Go.Proofs.Tryz.prog T 62 [.agg n.cs, .d (.row [.i .i64 0] (l.map intC))] true (fun r => r = .d (.i .i64 (n.wide l))) := by
  refine Ct_of Tk.m Go.Proofs.Tryz.func62 rfl rfl Go.Proofs.Tryz.ntmps62 (by simp) (rs := [.tmp 4]) rfl fun E hP hn hT => ?_
  (repeat (first | (refine TR.imp ?_; intro K hK; simp only [go_sem, hP, hn]; (repeat refine vc ?_); refine hK _ ?_; clear K hK) | refine TS.imp ?_))
  refine TR.imp ?_; intro K hK; simp only [go_sem, hP, hn]; (repeat refine vc ?_); refine c1 (by rw [hP, hT]; exact Check_k Tk n l hw hs hl hi) rfl rfl rfl trivial (by simp only [go_sem, hP, hn]; try trivial) (by simp only [go_sem, hP, hn]; try rfl) (by rw [hn]; decide) (by rfl) ?_; simp only [go_sem, hP, hn]; (repeat refine vc ?_); refine hK _ ?_; clear K hK
  refine Tr.cond rfl (fun h1 => ?_) (fun h1 => ?_)
  · (repeat (first | (refine TR.imp ?_; intro K hK; simp only [go_sem, hP, hn]; (repeat refine vc ?_); refine hK _ ?_; clear K hK) | refine TS.imp ?_))
    simp only [RetQ, go_sem]
    unfold Nd.wide; rw [h1]; rfl
  have hne : 0 < l.length := List.length_pos_iff.2 fun e => by subst e; exact n.chk_ne (by simpa using h1)
  (repeat (first | (refine TR.imp ?_; intro K hK; simp only [go_sem, hP, hn]; (repeat refine vc ?_); refine hK _ ?_; clear K hK) | refine TS.imp ?_))
  refine TR.imp ?_; intro K hK; simp only [go_sem, hP, hn]; (repeat refine vc ?_); refine c1 (by rw [hP, hT]; exact has_k Tk n 2) rfl rfl rfl trivial (by simp only [go_sem, hP, hn]; try trivial) (by simp only [go_sem, hP, hn]; try rfl) (by rw [hn]; decide) (by rfl) ?_; simp only [go_sem, hP, hn]; (repeat refine vc ?_); refine hK _ ?_; clear K hK
  refine Tr.cond rfl (fun h2 => ?_) (fun h2 => ?_)
  · (repeat (first | (refine TR.imp ?_; intro K hK; simp only [go_sem, hP, hn]; (repeat refine vc ?_); refine hK _ ?_; clear K hK) | refine TS.imp ?_))
    simp only [RetQ, go_sem]
    unfold Nd.wide; rw [h1, h2]; rfl
  (repeat (first | (refine TR.imp ?_; intro K hK; simp only [go_sem, hP, hn]; (repeat refine vc ?_); refine hK _ ?_; clear K hK) | refine TS.imp ?_))
  refine Tr.cond rfl (fun h3 => ?_) (fun h3 => ?_)
  · (repeat (first | (refine TR.imp ?_; intro K hK; simp only [go_sem, hP, hn]; (repeat refine vc ?_); refine hK _ ?_; clear K hK) | refine TS.imp ?_))
    simp only [RetQ, go_sem]
    unfold Nd.wide; rw [h1, h2, h3]; rfl
  (repeat (first | (refine TR.imp ?_; intro K hK; simp only [go_sem, hP, hn]; (repeat refine vc ?_); refine hK _ ?_; clear K hK) | refine TS.imp ?_))
  refine Tr.cond rfl (fun h4 => ?_) (fun h4 => ?_)
  · (repeat (first | (refine TR.imp ?_; intro K hK; simp only [go_sem, hP, hn]; (repeat refine vc ?_); refine hK _ ?_; clear K hK) | refine TS.imp ?_))
    have e0 : n.wide l = sumL 0 l := by unfold Nd.wide; rw [h1, h2, h3, h4]; rfl
    refine Tr.loop (fun m s => ∃ j s0 : Int, s = ⟨[(27, .d (.i .i64 j)), (25, .d (.row [.i .i64 0] (l.map intC))), (26, .d (.i .i64 l.length)), (5, .d (.i .i64 s0))], []⟩ ∧ 0 ≤ j ∧ j + m = l.length ∧ n.wide l = sumL s0 (l.drop j.toNat)) l.length ⟨_, (Le.mv (by simp only [go_sem, hP, hn]; first | done | (simp; done) | (simp [intC]; done) | (repeat (first | rfl | constructor))) (by simp only [go_sem, hP, hn]; first | done | (simp; done) | (simp [intC]; done) | (repeat (first | rfl | constructor)))), 0, 0, rfl, by omega, by omega, by simpa using e0⟩ ?_
    rintro m s ⟨j, s0, rfl, h0, hm, hc⟩
    (repeat (first | (refine TR.imp ?_; intro K hK; simp only [go_sem, hP, hn]; (repeat refine vc ?_); refine hK _ ?_; clear K hK) | refine TS.imp ?_))
    refine Tr.cond rfl (fun hb => ?_) (fun hb => ?_)
    · have hj : j < l.length := by simpa using hb
      rw [drop_rd h0 hj] at hc
      (repeat (first | (refine TR.imp ?_; intro K hK; simp only [go_sem, hP, hn]; (repeat refine vc ?_); refine hK _ ?_; clear K hK) | refine TS.imp ?_))
      rw [w64 (x := j + 1) (by omega) (by omega)]
      refine ⟨m - 1, _, by omega, ?_, j + 1, wrap64 (s0 + rd l j), rfl, by omega, by omega, ?_⟩
      · exact (Le.mv (by simp only [go_sem, hP, hn]; first | done | (simp; done) | (simp [intC]; done) | (repeat (first | rfl | constructor))) (by simp only [go_sem, hP, hn]; first | done | (simp; done) | (simp [intC]; done) | (repeat (first | rfl | constructor))))
      rw [hc, show (j + 1).toNat = j.toNat + 1 by omega]; rfl
    · rw [drop_end (by simpa using hb)] at hc
      (repeat (first | (refine TR.imp ?_; intro K hK; simp only [go_sem, hP, hn]; (repeat refine vc ?_); refine hK _ ?_; clear K hK) | refine TS.imp ?_))
      simp only [RetQ, go_sem]
      rw [hc]; rfl
  · (repeat (first | (refine TR.imp ?_; intro K hK; simp only [go_sem, hP, hn]; (repeat refine vc ?_); refine hK _ ?_; clear K hK) | refine TS.imp ?_))
    simp only [RetQ, go_sem]
    unfold Nd.wide; rw [h1, h2, h3, h4]; rfl
theorem may_c {T : World → Prop} (Tm : TP T) (wd lo hi out : Int) (ns : List Nd) (hn : ns.length ≤ 65536) (hin : ∀ n ∈ ns, n.inn.length ≤ 65536) : Ct Go.Proofs.Tryz.prog T 57 [.agg (gcs wd lo hi out (.d (rowN ns)))] true (fun r => r = .d (.i .i64 (mayG wd lo hi out ns))) := by
  refine Ct_of Tm Go.Proofs.Tryz.func57 rfl rfl Go.Proofs.Tryz.ntmps57 (by simp) (rs := [.tmp 2]) rfl fun E hP hn hT => ?_
  (repeat (first | (refine TR.imp ?_; intro K hK; simp only [go_sem, hP, hn]; (repeat refine vc ?_); refine hK _ ?_; clear K hK) | refine TS.imp ?_))
  refine Tr.cond rfl (fun h1 => ?_) (fun h1 => ?_)
  · (repeat (first | (refine TR.imp ?_; intro K hK; simp only [go_sem, hP, hn]; (repeat refine vc ?_); refine hK _ ?_; clear K hK) | refine TS.imp ?_))
    simp only [RetQ, go_sem]
    unfold mayG; rw [if_pos h1]
  (repeat (first | (refine TR.imp ?_; intro K hK; simp only [go_sem, hP, hn]; (repeat refine vc ?_); refine hK _ ?_; clear K hK) | refine TS.imp ?_))
  refine Tr.cond rfl (fun h2 => ?_) (fun h2 => ?_)
  · (repeat (first | (refine TR.imp ?_; intro K hK; simp only [go_sem, hP, hn]; (repeat refine vc ?_); refine hK _ ?_; clear K hK) | refine TS.imp ?_))
    simp only [RetQ, go_sem]
    unfold mayG; rw [if_neg (by rw [h1]; decide), if_pos (show mayQ wd lo hi out ns.length = true from h2)]
  (repeat (first | (refine TR.imp ?_; intro K hK; simp only [go_sem, hP, hn]; (repeat refine vc ?_); refine hK _ ?_; clear K hK) | refine TS.imp ?_))
  have hN : ns.length ≤ 12 := by
    simp only [Bool.or_eq_false_iff, decide_eq_false_iff_not] at h1; omega
  have key : ∀ b, ns.all (mayN ns.length) = b → mayG wd lo hi out ns = if b = true then 0 else 1 := fun b e => by
    unfold mayG; rw [if_neg (by rw [h1]; decide), if_neg (show ¬ mayQ wd lo hi out ns.length = true from fun h => by rw [show mayQ wd lo hi out ns.length = false from h2] at h; cases h), e]
  clear h1 h2
  refine Tr.le (Le.keep [1, 2, 3, 54, 55, 56]) ?_; simp only [List.map_cons, List.map_nil, lk, Nat.reduceEqDiff, reduceIte]
  refine Tr.loop (fun m s => ∃ (i : Int), s = ⟨[(1, .ptr 1 0), (2, .d (.i .i64 0)), (3, .d (.i .i64 ns.length)), (54, .d (rowN ns)), (55, .d (.i .i64 ns.length)), (56, .d (.i .i64 i))], [(1, .box 28 (gcs wd lo hi out (.d (rowN ns))))]⟩ ∧ 0 ≤ i ∧ i + m = ns.length ∧ ns.all (mayN ns.length) = (ns.drop i.toNat).all (mayN ns.length)) ns.length ⟨_, (Le.mv (by simp only [go_sem, hP, hn]; first | done | (simp; done) | (simp [intC]; done) | (repeat (first | rfl | constructor))) (by simp only [go_sem, hP, hn]; first | done | (simp; done) | (simp [intC]; done) | (repeat (first | rfl | constructor)))), 0, rfl, by omega, by omega, by simp⟩ ?_
  rintro m s ⟨i, rfl, hi0, him, hall⟩
  (repeat (first | (refine TR.imp ?_; intro K hK; simp only [go_sem, hP, hn]; (repeat refine vc ?_); refine hK _ ?_; clear K hK) | refine TS.imp ?_))
  refine Tr.cond rfl (fun hb => ?_) (fun hb => ?_)
  · have hin1 : i < ns.length := by simpa using hb
    have hnd := rw_nd ns i hi0 hin1
    have hq := hin _ (nd_mem hi0 hin1)
    rw [drop_nd hi0 hin1, List.all_cons] at hall
    (repeat refine TS.imp ?_)
    refine TR.imp ?_; intro K hK; simp only [hnd, go_sem, hP, hn]; (repeat refine vc ?_); refine hK _ ?_; clear K hK
    generalize nd ns i = q at hq hall ⊢
    (repeat (first | (refine TR.imp ?_; intro K hK; simp only [go_sem, hP, hn]; (repeat refine vc ?_); refine hK _ ?_; clear K hK) | refine TS.imp ?_))
    refine Tr.le (Le.keep [1, 2, 3, 5, 54, 55, 56, 61, 62, 63]) ?_; simp only [List.map_cons, List.map_nil, lk, Nat.reduceEqDiff, reduceIte]
    refine Tr.loop (fun m2 s => ∃ (j : Int), s = ⟨[(1, .ptr 1 0), (2, .d (.i .i64 0)), (3, .d (.i .i64 ns.length)), (5, .ptr 5 0), (54, .d (rowN ns)), (55, .d (.i .i64 ns.length)), (56, .d (.i .i64 i)), (61, .d (.row [.i .i64 0] (q.inn.map intC))), (62, .d (.i .i64 q.inn.length)), (63, .d (.i .i64 j))], [(5, .box 50 q.cs), (1, .box 28 (gcs wd lo hi out (.d (rowN ns))))]⟩ ∧ 0 ≤ j ∧ j + m2 = q.inn.length ∧ mayN ns.length q = (q.inn.drop j.toNat).all (inB · 0 ns.length)) q.inn.length ⟨_, (Le.mv (by simp only [go_sem, hP, hn]; first | done | (simp; done) | (simp [intC]; done) | (repeat (first | rfl | constructor))) (by simp only [go_sem, hP, hn]; first | done | (simp; done) | (simp [intC]; done) | (repeat (first | rfl | constructor)))), 0, rfl, by omega, by omega, by simp [mayN]⟩ ?_
    rintro m2 s ⟨j, rfl, hj0, hjm, hqa⟩
    (repeat (first | (refine TR.imp ?_; intro K hK; simp only [go_sem, hP, hn]; (repeat refine vc ?_); refine hK _ ?_; clear K hK) | refine TS.imp ?_))
    refine Tr.cond rfl (fun hc => ?_) (fun hc => ?_)
    · have hj : j < q.inn.length := by simpa using hc
      rw [drop_rd hj0 hj, List.all_cons] at hqa
      (repeat (first | (refine TR.imp ?_; intro K hK; simp only [go_sem, hP, hn]; (repeat refine vc ?_); refine hK _ ?_; clear K hK) | refine TS.imp ?_))
      refine Tr.cond rfl (fun hd => ?_) (fun hd => ?_)
      · (repeat (first | (refine TR.imp ?_; intro K hK; simp only [go_sem, hP, hn]; (repeat refine vc ?_); refine hK _ ?_; clear K hK) | refine TS.imp ?_))
        simp only [RetQ, go_sem]
        have : inB (rd q.inn j) 0 ns.length = false := by
          unfold inB; simp only [Bool.or_eq_true, decide_eq_true_eq] at hd; simp; omega
        rw [key false (by rw [hall, hqa, this, Bool.false_and, Bool.false_and])]; rfl
      · (repeat (first | (refine TR.imp ?_; intro K hK; simp only [go_sem, hP, hn]; (repeat refine vc ?_); refine hK _ ?_; clear K hK) | refine TS.imp ?_))
        rw [w64 (x := j + 1) (by omega) (by omega)]
        refine ⟨m2 - 1, _, by omega, ?_, j + 1, rfl, by omega, by omega, ?_⟩
        · exact (Le.mv (by simp only [go_sem, hP, hn]; first | done | (simp; done) | (simp [intC]; done) | (repeat (first | rfl | constructor))) (by simp only [go_sem, hP, hn]; first | done | (simp; done) | (simp [intC]; done) | (repeat (first | rfl | constructor))))
        have : inB (rd q.inn j) 0 ns.length = true := by
          unfold inB; simp only [Bool.or_eq_false_iff, decide_eq_false_iff_not] at hd; simp; omega
        rw [hqa, this, Bool.true_and]
    · rw [drop_end (by simpa using hc)] at hqa
      (repeat (first | (refine TR.imp ?_; intro K hK; simp only [go_sem, hP, hn]; (repeat refine vc ?_); refine hK _ ?_; clear K hK) | refine TS.imp ?_))
      rw [w64 (x := i + 1) (by omega) (by omega)]
      refine ⟨m - 1, _, by omega, ?_, i + 1, rfl, by omega, by omega, ?_⟩
      · exact (Le.mv (by simp only [go_sem, hP, hn]; first | done | (simp; done) | (simp [intC]; done) | (repeat (first | rfl | constructor))) (by simp only [go_sem, hP, hn]; first | done | (simp; done) | (simp [intC]; done) | (repeat (first | rfl | constructor))))
      rw [hall, hqa]; rfl
  · rw [drop_end (by simpa using hb)] at hall
    (repeat (first | (refine TR.imp ?_; intro K hK; simp only [go_sem, hP, hn]; (repeat refine vc ?_); refine hK _ ?_; clear K hK) | refine TS.imp ?_))
    simp only [RetQ, go_sem]
    rw [key true (by rw [hall]; rfl)]; rfl
/-! closures of graph, and slices' functions over them -/
theorem rateF_c {T : World → Prop} (Tm : TP T) (x r : Int) : Cg Go.Proofs.Tryz.prog T 107 [(1000, .box 3 [.d (.i .i64 r)])] [.d (.i .i64 x), .ptr 1000 0] (fun v H => H = [(1000, .box 3 [.d (.i .i64 r)])] ∧ v = .d (.b (x != r))) := by
  refine Cg_of [1000] Tm Go.Proofs.Tryz.func107 rfl rfl Go.Proofs.Tryz.ntmps107 (by simp) rfl (rs := [.tmp 3]) rfl fun E hP hn hT hpn => ?_
  (repeat (first | (refine TR.imp ?_; intro K hK; simp only [go_sem, hP, hn]; (repeat refine vc ?_); refine hK _ ?_; clear K hK) | refine TS.imp ?_))
  simp only [RetG, go_sem]; (repeat with_reducible refine vc ?_)
theorem rateIdx_c {T : World → Prop} (Tm : TP T) (l : List Int) (r : Int) (hl : l.length ≤ 65536) : Cg Go.Proofs.Tryz.prog T 127 [(1000, .box 3 [.d (.i .i64 r)])] [.d (.row [.i .i64 0] (l.map intC)), .fn 107 [.ptr 1000 0]] (fun v H => H = [(1000, .box 3 [.d (.i .i64 r)])] ∧ ∃ j : Int, decide (0 ≤ j) = l.any (· != r) ∧ v = .d (.i .i64 j)) := by
  refine Cg_of [1000] Tm Go.Proofs.Tryz.func127 rfl rfl Go.Proofs.Tryz.ntmps127 (by simp) rfl (rs := [.tmp 4]) rfl fun E hP hn hT hpn => ?_
  (repeat (first | (refine TR.imp ?_; intro K hK; simp only [go_sem, hP, hn]; (repeat refine vc ?_); refine hK _ ?_; clear K hK) | refine TS.imp ?_))
  refine Tr.loop (fun m s => ∃ (j : Int), s = ⟨[(0, .d (.row [.i .i64 0] (l.map intC))), (1, .fn 107 [.ptr 1000 0]), (7, .d (.i .i64 l.length)), (8, .d (.i .i64 j))], [(1000, .box 3 [.d (.i .i64 r)])]⟩ ∧ 0 ≤ j ∧ j + m = l.length ∧ l.any (· != r) = (l.drop j.toNat).any (· != r)) l.length ⟨_, (Le.mv (by simp only [go_sem, hP, hn]; first | done | (simp; done) | (simp [intC]; done) | (repeat (first | rfl | constructor))) (by simp only [go_sem, hP, hn]; first | done | (simp; done) | (simp [intC]; done) | (repeat (first | rfl | constructor)))), 0, rfl, by omega, by omega, by simp⟩ ?_
  rintro m s ⟨j, rfl, hj0, hjm, hany⟩
  (repeat (first | (refine TR.imp ?_; intro K hK; simp only [go_sem, hP, hn]; (repeat refine vc ?_); refine hK _ ?_; clear K hK) | refine TS.imp ?_))
  refine Tr.cond rfl (fun hb => ?_) (fun hb => ?_)
  · have hj : j < l.length := by simpa using hb
    rw [drop_rd hj0 hj, List.any_cons] at hany
    (repeat refine TS.imp ?_)
    refine TR.imp ?_; intro K hK; simp only [go_sem, hP, hn]; (repeat refine vc ?_); refine hK _ ?_; clear K hK
    (repeat refine TS.imp ?_)
    refine TR.imp ?_; intro K hK; simp only [go_sem, hP, hn]
    (repeat refine vc ?_)
    refine CallN_cs (Hi := [(1000, .box 3 [.d (.i .i64 r)])] ) (by rw [hP, hT]; exact  rateF_c Tm (rd l j) r) rfl rfl rfl trivial (by simp only [go_sem, hP, hn]; try trivial) (by simp only [go_sem, hP, hn]; try rfl) (by simp only [inH, go_sem, hP, hn]; try simp) (by rw [hn]; decide) ?_; simp only [go_sem, hP, hn]; (repeat refine vc ?_)
    refine hK _ ?_; clear K hK
    refine Tr.cond rfl (fun hc => ?_) (fun hc => ?_)
    · (repeat (first | (refine TR.imp ?_; intro K hK; simp only [go_sem, hP, hn]; (repeat refine vc ?_); refine hK _ ?_; clear K hK) | refine TS.imp ?_))
      simp only [RetG, go_sem]; (repeat with_reducible refine vc ?_)
      refine ⟨_, ?_, rfl⟩
      rw [hany, hc, Bool.true_or]; simpa using hj0
    · (repeat (first | (refine TR.imp ?_; intro K hK; simp only [go_sem, hP, hn]; (repeat refine vc ?_); refine hK _ ?_; clear K hK) | refine TS.imp ?_))
      rw [w64 (x := j + 1) (by omega) (by omega)]
      refine ⟨m - 1, _, by omega, ?_, j + 1, rfl, by omega, by omega, ?_⟩
      · exact (Le.mv (by simp only [go_sem, hP, hn]; first | done | (simp; done) | (simp [intC]; done) | (repeat (first | rfl | constructor))) (by simp only [go_sem, hP, hn]; first | done | (simp; done) | (simp [intC]; done) | (repeat (first | rfl | constructor))))
      rw [hany, hc, Bool.false_or]
  · rw [drop_end (by simpa using hb)] at hany
    (repeat (first | (refine TR.imp ?_; intro K hK; simp only [go_sem, hP, hn]; (repeat refine vc ?_); refine hK _ ?_; clear K hK) | refine TS.imp ?_))
    simp only [RetG, go_sem]; (repeat with_reducible refine vc ?_)
    refine ⟨_, ?_, rfl⟩
    rw [hany]; rfl
theorem rateAny_c {T : World → Prop} (Tm : TP T) (l : List Int) (r : Int) (hl : l.length ≤ 65536) : Cg Go.Proofs.Tryz.prog T 101 [(1000, .box 3 [.d (.i .i64 r)])] [.d (.row [.i .i64 0] (l.map intC)), .fn 107 [.ptr 1000 0]] (fun v H => H = [(1000, .box 3 [.d (.i .i64 r)])] ∧ v = .d (.b (l.any (· != r)))) := by
  refine Cg_of [1000] Tm Go.Proofs.Tryz.func101 rfl rfl Go.Proofs.Tryz.ntmps101 (by simp) rfl (rs := [.tmp 4]) rfl fun E hP hn hT hpn => ?_
  (repeat refine TS.imp ?_)
  refine TR.imp ?_; intro K hK; simp only [go_sem, hP, hn]; (repeat refine vc ?_); refine hK _ ?_; clear K hK
  refine TR.imp ?_; intro K hK; simp only [go_sem, hP, hn]
  (repeat refine vc ?_)
  refine CallN_cx (Hi := [(1000, .box 3 [.d (.i .i64 r)])] ) (by rw [hP, hT]; exact  rateIdx_c Tm l r hl ) rfl rfl rfl trivial (by simp only [go_sem, hP, hn]; try trivial) (by simp only [go_sem, hP, hn]; try rfl) (by simp only [inH, go_sem, hP, hn]; try simp) (by rw [hn]; decide) (fun r Ho hr => ?_); obtain ⟨rfl, hr⟩ := hr; obtain  ⟨j, hj, rfl⟩ := hr; refine ⟨fun k hk => (by rw [newK_same] at hk; cases hk), ?_⟩; simp only [cgS, newK, touK, go_sem, hP, hn]; (repeat refine vc ?_)
  refine hK _ ?_; clear K hK
  rw [hj]
  (repeat (first | (refine TR.imp ?_; intro K hK; simp only [go_sem, hP, hn]; (repeat refine vc ?_); refine hK _ ?_; clear K hK) | refine TS.imp ?_))
  simp only [RetG, go_sem]; (repeat with_reducible refine vc ?_)
theorem rate_k {T : World → Prop} (Tk : KT T) (n : Nd) (l : List Int) (h0 : 0 < l.length) (hl : l.length ≤ 65536) : Cg Go.Proofs.Tryz.prog T 61 [] [.agg n.cs, .d (.row [.i .i64 0] (l.map intC))] (fun r H => H = [] ∧ r = .tup [.d (.i .i64 (n.grate l).1), .d (.b (n.grate l).2)]) := by
  refine Cg_of [] Tk.m Go.Proofs.Tryz.func61 rfl rfl Go.Proofs.Tryz.ntmps61 (by simp) rfl (rs := [.tmp 4, .tmp 5]) rfl fun E hP hn hT hpn => ?_
  (repeat (first | (refine TR.imp ?_; intro K hK; simp only [go_sem, hP, hn]; (repeat refine vc ?_); refine hK _ ?_; clear K hK) | refine TS.imp ?_))
  refine Tr.le (Le.keep [1, 2, 6]) ?_; simp only [List.map_cons, List.map_nil, lk, Nat.reduceEqDiff, reduceIte]
  refine Tr.le (Le.ren 6 1000 (by rw [hpn] <;> rfl) rfl rfl) ?_; simp only [renT, renH, renO, renS, renL, rn, go_sem, hP, hn]
  refine TR.imp ?_; intro K hK; simp only [go_sem, hP, hn]; (repeat refine vc ?_); refine c1 (by rw [hP, hT]; exact Span_k Tk n) rfl rfl rfl trivial (by simp only [go_sem, hP, hn]; try trivial) (by simp only [go_sem, hP, hn]; try rfl) (by rw [hn]; decide) (by rfl) ?_; simp only [go_sem, hP, hn]; (repeat refine vc ?_); refine hK _ ?_; clear K hK
  refine Tr.le (Le.keep [1, 2, 6, 7]) ?_; simp only [List.map_cons, List.map_nil, lk, Nat.reduceEqDiff, reduceIte]
  (repeat refine TS.imp ?_)
  refine TR.imp ?_; intro K hK; simp only [go_sem, hP, hn]
  (repeat refine vc ?_)
  refine CallN_cs (Hi := [(1000, .box 3 [.d (.i .i64 (rd l 0))])] ) (by rw [hP, hT]; exact  rateAny_c Tk.m l (rd l 0) hl) rfl rfl rfl trivial (by simp only [go_sem, hP, hn]; try trivial) (by simp only [go_sem, hP, hn]; try rfl) (by simp only [inH, go_sem, hP, hn]; try simp) (by rw [hn]; decide) ?_; simp only [go_sem, hP, hn]; (repeat refine vc ?_)
  refine hK _ ?_; clear K hK
  refine Tr.cond rfl (fun h1 => ?_) (fun h1 => ?_)
  · (repeat (first | (refine TR.imp ?_; intro K hK; simp only [go_sem, hP, hn]; (repeat refine vc ?_); refine hK _ ?_; clear K hK) | refine TS.imp ?_))
    simp only [RetG, go_sem]; (repeat with_reducible refine vc ?_)
    rw [show n.grate l = (0, false) from if_pos h1]
  (repeat (first | (refine TR.imp ?_; intro K hK; simp only [go_sem, hP, hn]; (repeat refine vc ?_); refine hK _ ?_; clear K hK) | refine TS.imp ?_))
  refine Tr.cond rfl (fun h2 => ?_) (fun h2 => ?_)
  · (repeat (first | (refine TR.imp ?_; intro K hK; simp only [go_sem, hP, hn]; (repeat refine vc ?_); refine hK _ ?_; clear K hK) | refine TS.imp ?_))
    simp only [RetG, go_sem]; (repeat with_reducible refine vc ?_)
    rw [show n.grate l = (0, true) by unfold Nd.grate; rw [if_neg (by unfold Nd.gwin; rw [h1]; decide), if_pos h2]]
  (repeat (first | (refine TR.imp ?_; intro K hK; simp only [go_sem, hP, hn]; (repeat refine vc ?_); refine hK _ ?_; clear K hK) | refine TS.imp ?_))
  refine d5 (.p true 0 (.p true 1 (.alt 2 (.p false 3 (.p false 4 (.p true 5 .nil))) .nil))) [] (by rw [hP]; kernel_rfl) (by kernel_rfl) (by simp only [go_sem, hP, hn]; try simp) (by exact fun _ _ h => h) ?_; intro K hK; simp only [go_sem, hP, hn]; (repeat refine vc ?_); refine p1 (by rw [hP, hT]; exact Step_k Tk n) rfl rfl rfl trivial (by simp only [go_sem, hP, hn]; try trivial) (by simp only [go_sem, hP, hn]; try rfl) (by rw [hn]; decide) (by rfl) ?_; simp only [go_sem, hP, hn]; (repeat refine vc ?_); refine hK _ ?_; clear K hK
  (repeat (first | (refine TR.imp ?_; intro K hK; simp only [go_sem, hP, hn]; (repeat refine vc ?_); refine hK _ ?_; clear K hK) | refine TS.imp ?_))
  simp only [RetG, go_sem]; (repeat with_reducible refine vc ?_)
  rw [show n.grate l = (wrap64 (rd l 0 * n.stp), true) by unfold Nd.grate; rw [if_neg (by unfold Nd.gwin; rw [h1]; decide), if_neg (by rw [h2]; decide)]]
section
/-! graph.ordered's closure, and slices' functions over it -/
theorem und109 : (Go.Proofs.Tryz.prog).underlying 109 = some (.map 3 3) := Go.Proofs.Tryz.underlying109
theorem und3 : (Go.Proofs.Tryz.prog).underlying 3 = some (.int .i64) := Go.Proofs.Tryz.underlying3
theorem zero3 (w : World) : (zeroValue 3).run Go.Proofs.Tryz.prog w = .ok (.int .i64 0) w := by rfl
def OB (m : List (Int × Int)) (n : Nat) : Hp := [(1000, .box 109 [.own 1001]), (1001, .mp (mapR Go.Proofs.Tryz.prog 3 3 n m))]
attribute [local go_sem] OB
theorem map0 (i : Int) : (mlook [(0, 0)] i).isSome = (i == 0 || ([] : List Int).contains i) := by
  simp only [mlook]
  by_cases e : (0 : Int) = i
  · subst e; rfl
  · rw [if_neg e, show (i == 0) = false by simpa using fun h : i = 0 => e h.symm]; rfl
theorem ordF_c {T : World → Prop} (Tm : TP T) (x : Int) (m : List (Int × Int)) (n : Nat) (hx : (Lit.int .i64 x).wf = true) : Cg Go.Proofs.Tryz.prog T 102 (OB m n) [.d (.i .i64 x), .ptr 1000 0] (fun v H => H = OB m n ∧ v = .d (.b !(mlook m x).isSome)) := by
  refine Cg_of [1000, 1001] Tm Go.Proofs.Tryz.func102 rfl rfl Go.Proofs.Tryz.ntmps102 (by simp) rfl (rs := [.tmp 3]) rfl fun E hP hn hT hpn => ?_
  (repeat refine TS.imp ?_)
  refine TR.imp ?_; intro K hK; simp only [go_sem, hP, hn]; (repeat refine vc ?_); refine hK _ ?_; clear K hK
  refine TR.imp ?_; intro K hK; simp only [go_sem, hP, hn]
  (repeat refine vc ?_)
  refine CallN_look (k := 3) (e := 3) rfl rfl (by rw [hn]; decide) rfl (by simp only [go_sem, hP, hn]; try trivial) rfl (by simp only [go_sem, hP, hn]; try trivial) hx (by rw [hP]; rfl) (by rw [hP]; exact und109) (by rw [hP]; exact und3) (by rw [hP]; exact und3) (by rw [hP]; exact zero3) ?_; simp only [go_sem, hP, hn]; (repeat refine vc ?_)
  refine hK _ ?_; clear K hK
  (repeat (first | (refine TR.imp ?_; intro K hK; simp only [go_sem, hP, hn]; (repeat refine vc ?_); refine hK _ ?_; clear K hK) | refine TS.imp ?_))
  simp only [RetG, go_sem]; (repeat with_reducible refine vc ?_)
theorem ordIdx_c {T : World → Prop} (Tm : TP T) (l : List Int) (m : List (Int × Int)) (n : Nat) (hl : l.length ≤ 65536) (hx : ∀ x ∈ l, (Lit.int .i64 x).wf = true) : Cg Go.Proofs.Tryz.prog T 127 (OB m n) [.d (.row [.i .i64 0] (l.map intC)), .fn 102 [.ptr 1000 0]] (fun v H => H = OB m n ∧ ∃ j : Int, decide (0 ≤ j) = l.any (fun x => !(mlook m x).isSome) ∧ v = .d (.i .i64 j)) := by
  refine Cg_of [1000, 1001] Tm Go.Proofs.Tryz.func127 rfl rfl Go.Proofs.Tryz.ntmps127 (by simp) rfl (rs := [.tmp 4]) rfl fun E hP hn hT hpn => ?_
  (repeat (first | (refine TR.imp ?_; intro K hK; simp only [go_sem, hP, hn]; (repeat refine vc ?_); refine hK _ ?_; clear K hK) | refine TS.imp ?_))
  refine Tr.loop (fun m2 s => ∃ (j : Int), s = ⟨[(0, .d (.row [.i .i64 0] (l.map intC))), (1, .fn 102 [.ptr 1000 0]), (7, .d (.i .i64 l.length)), (8, .d (.i .i64 j))], OB m n⟩ ∧ 0 ≤ j ∧ j + m2 = l.length ∧ l.any (fun x => !(mlook m x).isSome) = (l.drop j.toNat).any (fun x => !(mlook m x).isSome)) l.length ⟨_, (Le.mv (by simp only [go_sem, hP, hn]; first | done | (simp; done) | (simp [intC]; done) | (repeat (first | rfl | constructor))) (by simp only [go_sem, hP, hn]; first | done | (simp; done) | (simp [intC]; done) | (repeat (first | rfl | constructor)))), 0, rfl, by omega, by omega, by simp⟩ ?_
  rintro m2 s ⟨j, rfl, hj0, hjm, hany⟩
  (repeat (first | (refine TR.imp ?_; intro K hK; simp only [go_sem, hP, hn]; (repeat refine vc ?_); refine hK _ ?_; clear K hK) | refine TS.imp ?_))
  refine Tr.cond rfl (fun hb => ?_) (fun hb => ?_)
  · have hj : j < l.length := by simpa using hb
    rw [drop_rd hj0 hj, List.any_cons] at hany
    (repeat refine TS.imp ?_)
    refine TR.imp ?_; intro K hK; simp only [go_sem, hP, hn]; (repeat refine vc ?_); refine hK _ ?_; clear K hK
    (repeat refine TS.imp ?_)
    refine TR.imp ?_; intro K hK; simp only [go_sem, hP, hn]
    (repeat refine vc ?_)
    refine CallN_cs (Hi := OB m n ) (by rw [hP, hT]; exact  ordF_c Tm (rd l j) m n (hx _ (rd_mem hj0 hj))) rfl rfl rfl trivial (by simp only [go_sem, hP, hn]; try trivial) (by simp only [go_sem, hP, hn]; try rfl) (by simp only [inH, go_sem, hP, hn]; try simp) (by rw [hn]; decide) ?_; simp only [go_sem, hP, hn]; (repeat refine vc ?_)
    refine hK _ ?_; clear K hK
    refine Tr.cond rfl (fun hc => ?_) (fun hc => ?_)
    · (repeat (first | (refine TR.imp ?_; intro K hK; simp only [go_sem, hP, hn]; (repeat refine vc ?_); refine hK _ ?_; clear K hK) | refine TS.imp ?_))
      simp only [RetG, go_sem]; (repeat with_reducible refine vc ?_)
      refine ⟨_, ?_, rfl⟩
      rw [hany, hc, Bool.true_or]; simpa using hj0
    · (repeat (first | (refine TR.imp ?_; intro K hK; simp only [go_sem, hP, hn]; (repeat refine vc ?_); refine hK _ ?_; clear K hK) | refine TS.imp ?_))
      rw [w64 (x := j + 1) (by omega) (by omega)]
      refine ⟨m2 - 1, _, by omega, ?_, j + 1, rfl, by omega, by omega, ?_⟩
      · exact (Le.mv (by simp only [go_sem, hP, hn]; first | done | (simp; done) | (simp [intC]; done) | (repeat (first | rfl | constructor))) (by simp only [go_sem, hP, hn]; first | done | (simp; done) | (simp [intC]; done) | (repeat (first | rfl | constructor))))
      rw [hany, hc, Bool.false_or]
  · rw [drop_end (by simpa using hb)] at hany
    (repeat (first | (refine TR.imp ?_; intro K hK; simp only [go_sem, hP, hn]; (repeat refine vc ?_); refine hK _ ?_; clear K hK) | refine TS.imp ?_))
    simp only [RetG, go_sem]; (repeat with_reducible refine vc ?_)
    refine ⟨_, ?_, rfl⟩
    rw [hany]; rfl
theorem ordAny_c {T : World → Prop} (Tm : TP T) (l : List Int) (m : List (Int × Int)) (n : Nat) (hl : l.length ≤ 65536) (hx : ∀ x ∈ l, (Lit.int .i64 x).wf = true) : Cg Go.Proofs.Tryz.prog T 101 (OB m n) [.d (.row [.i .i64 0] (l.map intC)), .fn 102 [.ptr 1000 0]] (fun v H => H = OB m n ∧ v = .d (.b (l.any (fun x => !(mlook m x).isSome)))) := by
  refine Cg_of [1000, 1001] Tm Go.Proofs.Tryz.func101 rfl rfl Go.Proofs.Tryz.ntmps101 (by simp) rfl (rs := [.tmp 4]) rfl fun E hP hn hT hpn => ?_
  (repeat refine TS.imp ?_)
  refine TR.imp ?_; intro K hK; simp only [go_sem, hP, hn]; (repeat refine vc ?_); refine hK _ ?_; clear K hK
  refine TR.imp ?_; intro K hK; simp only [go_sem, hP, hn]
  (repeat refine vc ?_)
  refine CallN_cx (Hi := OB m n ) (by rw [hP, hT]; exact  ordIdx_c Tm l m n hl hx ) rfl rfl rfl trivial (by simp only [go_sem, hP, hn]; try trivial) (by simp only [go_sem, hP, hn]; try rfl) (by simp only [inH, go_sem, hP, hn]; try simp) (by rw [hn]; decide) (fun r Ho hr => ?_); obtain ⟨rfl, hr⟩ := hr; obtain  ⟨j, hj, rfl⟩ := hr; refine ⟨fun k hk => (by rw [newK_same] at hk; cases hk), ?_⟩; simp only [cgS, newK, touK, go_sem, hP, hn]; (repeat refine vc ?_)
  refine hK _ ?_; clear K hK
  rw [hj]
  (repeat (first | (refine TR.imp ?_; intro K hK; simp only [go_sem, hP, hn]; (repeat refine vc ?_); refine hK _ ?_; clear K hK) | refine TS.imp ?_))
  simp only [RetG, go_sem]; (repeat with_reducible refine vc ?_)
theorem ordered_c {T : World → Prop} (Tm : TP T) (ns : List Nd) (hn : ns.length ≤ 12) (hin : ∀ n ∈ ns, n.inn.length ≤ 65536 ∧ ∀ j ∈ n.inn, 0 ≤ j ∧ j ≤ ns.length) : Cg Go.Proofs.Tryz.prog T 58 [] [.d (rowN ns)] (fun r H => H = [] ∧ r = .tup [.d (.row [.i .i64 0] ((order ns).map intC)), .d (.b ((order ns).length == ns.length))]) := by
  refine Cg_of [] Tm Go.Proofs.Tryz.func58 rfl rfl Go.Proofs.Tryz.ntmps58 (by simp) rfl (rs := [.tmp 2, .tmp 3]) rfl fun E hP hn hT hpn => ?_
  (repeat refine TS.imp ?_)
  refine TR.imp ?_; intro K hK; simp only [go_sem, hP, hn]; (repeat refine vc ?_); refine hK _ ?_; clear K hK
  (repeat refine TS.imp ?_)
  refine TR.imp ?_; intro K hK; simp only [go_sem, hP, hn]
  refine CallN_mk (k := 3) (e := 3) rfl rfl (by rw [hn]; decide) ?_; simp only [go_sem, hP, hn]; (repeat refine vc ?_)
  refine CallN_put (k := 3) (e := 3) (by first | exact .inl rfl | exact .inr rfl) rfl rfl (by simp only [go_sem, hP, hn]; try trivial) rfl (by simp only [go_sem, hP, hn]; try trivial) (by decide) rfl (by simp only [go_sem, hP, hn]; try trivial) (by decide) (by rw [hP]; rfl) (by rw [hP]; exact und109) (by rw [hP]; exact und3) (by rw [hP]; exact und3) (by decide) ?_; simp only [hP]; simp only [go_sem, hP, hn]; (repeat refine vc ?_)
  refine hK _ ?_; clear K hK
  (repeat (first | (refine TR.imp ?_; intro K hK; simp only [go_sem, hP, hn]; (repeat refine vc ?_); refine hK _ ?_; clear K hK) | refine TS.imp ?_))
  refine Tr.le (Le.keep [0, 4, 5, 12, 13, 14]) ?_; simp only [List.map_cons, List.map_nil, lk, Nat.reduceEqDiff, reduceIte]
  refine Tr.le (Le.ren 10 1001 (by rw [hpn] <;> rfl) rfl rfl) ?_; simp only [renT, renH, renO, renS, renL, rn, go_sem, hP, hn]
  refine Tr.le (Le.ren 4 1000 (by rw [hpn] <;> rfl) rfl rfl) ?_; simp only [renT, renH, renO, renS, renL, rn, go_sem, hP, hn]
  refine Tr.le (Le.nilslot 3001 5 3 [.i .i64 0] rfl (by rw [hpn] <;> rfl) rfl rfl) ?_
  refine Tr.loop (fun m s => ∃ (k : Int) (o : List Int) (mm : List (Int × Int)), s = ⟨[(0, .d (rowN ns)), (4, .ptr 1000 0), (5, .own 3001), (13, .d (.i .i64 ns.length)), (14, .d (.i .i64 k))], [(3001, .row 3 [.i .i64 0] (o.map intC)), (1000, .box 109 [.own 1001]), (1001, .mp (mapR Go.Proofs.Tryz.prog 3 3 (o.length + 1) mm))]⟩ ∧ 0 ≤ k ∧ k + m = ns.length ∧ order ns = ordR ns m o ∧ (∀ i, (mlook mm i).isSome = (i == 0 || o.contains i)) ∧ (o.length : Int) ≤ k) ns.length ⟨_, (Le.mv (by simp only [go_sem, hP, hn]; first | done | (simp; done) | (simp [intC]; done) | (repeat (first | rfl | constructor))) (by simp only [go_sem, hP, hn]; first | done | (simp; done) | (simp [intC]; done) | (repeat (first | rfl | constructor)))), 0, [], [(0, 0)], rfl, by omega, by omega, rfl, map0, by simp⟩ ?_
  rintro m s ⟨k, o, mm, rfl, hk0, hkm, hord, hmap, hok⟩
  (repeat (first | (refine TR.imp ?_; intro K hK; simp only [go_sem, hP, hn]; (repeat refine vc ?_); refine hK _ ?_; clear K hK) | refine TS.imp ?_))
  refine Tr.cond rfl (fun hb => ?_) (fun hb => ?_)
  · have hk : k < ns.length := by simpa using hb
    (repeat (first | (refine TR.imp ?_; intro K hK; simp only [go_sem, hP, hn]; (repeat refine vc ?_); refine hK _ ?_; clear K hK) | refine TS.imp ?_))
    refine Tr.le (Le.keep [0, 4, 5, 13, 14, 16, 17, 18]) ?_; simp only [List.map_cons, List.map_nil, lk, Nat.reduceEqDiff, reduceIte]
    have hnx0 : order ns = match nextO ns o ns.length 1 with
      | none => ordR ns (m - 1) o
      | some i => ordR ns (m - 1) (o ++ [i]) := by
      rw [hord]
      obtain ⟨m', rfl⟩ : ∃ m', m = m' + 1 := ⟨m - 1, by omega⟩
      rfl
    refine Tr.loop (fun m2 s => ∃ (i : Int), s = ⟨[(0, .d (rowN ns)), (4, .ptr 1000 0), (5, .own 3001), (13, .d (.i .i64 ns.length)), (14, .d (.i .i64 k)), (16, .d (rowN ns)), (17, .d (.i .i64 ns.length)), (18, .d (.i .i64 i))], [(3001, .row 3 [.i .i64 0] (o.map intC)), (1000, .box 109 [.own 1001]), (1001, .mp (mapR Go.Proofs.Tryz.prog 3 3 (o.length + 1) mm))]⟩ ∧ 0 ≤ i ∧ i + m2 = ns.length ∧ nextO ns o ns.length 1 = nextO ns o m2 (i + 1)) ns.length ⟨_, (Le.mv (by simp only [go_sem, hP, hn]; first | done | (simp; done) | (simp [intC]; done) | (repeat (first | rfl | constructor))) (by simp only [go_sem, hP, hn]; first | done | (simp; done) | (simp [intC]; done) | (repeat (first | rfl | constructor)))), 0, rfl, by omega, by omega, rfl⟩ ?_
    rintro m2 s ⟨i, rfl, hi0, him, hnx⟩
    (repeat (first | (refine TR.imp ?_; intro K hK; simp only [go_sem, hP, hn]; (repeat refine vc ?_); refine hK _ ?_; clear K hK) | refine TS.imp ?_))
    refine Tr.cond rfl (fun hc => ?_) (fun hc => ?_)
    · have hin1 : i < ns.length := by simpa using hc
      obtain ⟨m3, rfl⟩ : ∃ m3, m2 = m3 + 1 := ⟨m2 - 1, by omega⟩
      have hnd := rw_nd ns i hi0 hin1
      have hq := hin _ (nd_mem hi0 hin1)
      have hmay : mayO ns o (i + 1) = (!o.contains (i + 1) && (nd ns i).inn.all fun j => j == 0 || o.contains j) := by unfold mayO; rw [show i + 1 - 1 = i by omega]
      have hi1 : wrap64 (i + 1) = i + 1 := w64 (by omega) (by omega)
      have hwf : ∀ x : Int, 0 ≤ x → x ≤ 100 → (Lit.int .i64 x).wf = true := fun x h0 h1 => by
        
        rw [show (Lit.int .i64 x).wf = (decide ((-9223372036854775808 : Int) ≤ x) && decide (x ≤ 9223372036854775807)) from rfl, Bool.and_eq_true, decide_eq_true_eq, decide_eq_true_eq]; omega
      have hB : ((mlook mm (i + 1)).isSome || (nd ns i).inn.any fun x => !(mlook mm x).isSome) = !mayO ns o (i + 1) := by
        rw [hmay, hmap, show (i + 1 == (0 : Int)) = false by simpa using (by omega : i + 1 ≠ 0)]
        simp only [hmap, Bool.false_or, ← List.not_all_eq_any_not]
        cases o.contains (i + 1) <;> cases ((nd ns i).inn.all fun j => j == 0 || o.contains j) <;> rfl
      clear hmay
      (repeat refine TS.imp ?_)
      refine TR.imp ?_; intro K hK; simp only [hnd, go_sem, hP, hn]; (repeat refine vc ?_); refine hK _ ?_; clear K hK
      generalize nd ns i = q at hq hB ⊢
      refine Tr.le (Le.keep [0, 4, 5, 6, 7, 13, 14, 16, 17, 18]) ?_; simp only [List.map_cons, List.map_nil, lk, Nat.reduceEqDiff, reduceIte]
      (repeat refine TS.imp ?_)
      refine TR.imp ?_; intro K hK; simp only [hi1, go_sem, hP, hn]
      (repeat refine vc ?_)
      refine CallN_look (k := 3) (e := 3) rfl rfl (by rw [hn]; decide) rfl (by simp only [go_sem, hP, hn]; try trivial) rfl (by simp only [go_sem, hP, hn]; try trivial) (hwf _ (by omega) (by omega)) (by rw [hP]; rfl) (by rw [hP]; exact und109) (by rw [hP]; exact und3) (by rw [hP]; exact und3) (by rw [hP]; exact zero3) ?_; simp only [go_sem, hP, hn]; (repeat refine vc ?_)
      refine hK _ ?_; clear K hK
      refine Tr.le (Le.keep [0, 4, 5, 6, 7, 9, 13, 14, 16, 17, 18]) ?_; simp only [List.map_cons, List.map_nil, lk, Nat.reduceEqDiff, reduceIte]
      (repeat refine TS.imp ?_)
      refine TR.imp ?_; intro K hK; simp only [go_sem, hP, hn]
      (repeat refine vc ?_)
      refine CallN_gs (Hi := OB mm (o.length + 1) ) (fun hg => by rw [hP, hT]; exact  ordAny_c Tm q.inn mm (o.length + 1) (by omega) (fun x hx => hwf x (by have := hq.2 x hx; omega) (by have := hq.2 x hx; omega))) rfl rfl rfl (fun hg => trivial) (fun hg => by clear hK; revert hg; simp only [go_sem, hP, hn] <;> first | trivial | omega | (simp; done) | (simp +contextual; done) | grind) (fun hg => by simp only [go_sem, hP, hn]; try rfl) (by simp only [inH, go_sem, hP, hn]; try simp) (by rw [hn]; decide) ?_; simp only [go_sem, hP, hn]; (repeat refine vc ?_)
      refine hK _ ?_; clear K hK
      refine Tr.cond rfl (fun hd => ?_) (fun hd => ?_)
      · (repeat (first | (refine TR.imp ?_; intro K hK; simp only [go_sem, hP, hn]; (repeat refine vc ?_); refine hK _ ?_; clear K hK) | refine TS.imp ?_))
        rw [hi1]
        refine ⟨m3, _, by omega, ?_, i + 1, rfl, by omega, by omega, ?_⟩
        · exact (Le.mv (by simp only [go_sem, hP, hn]; first | done | (simp; done) | (simp [intC]; done) | (repeat (first | rfl | constructor))) (by simp only [go_sem, hP, hn]; first | done | (simp; done) | (simp [intC]; done) | (repeat (first | rfl | constructor))))
        · rw [hnx]; show (if mayO ns o (i + 1) = true then _ else _) = _; rw [if_neg (by rw [hB] at hd; intro h; rw [h] at hd; cases hd)]
      · (repeat refine TS.imp ?_)
        refine TR.imp ?_; intro K hK; simp only [hi1, go_sem, hP, hn]
        (repeat refine vc ?_)
        refine CallN_put (k := 3) (e := 3) (by first | exact .inl rfl | exact .inr rfl) rfl rfl (by simp only [go_sem, hP, hn]; try trivial) rfl (by simp only [go_sem, hP, hn]; try trivial) (hwf _ (by omega) (by omega)) rfl (by simp only [go_sem, hP, hn]; try trivial) (hwf _ (by omega) (by omega)) (by rw [hP]; rfl) (by rw [hP]; exact und109) (by rw [hP]; exact und3) (by rw [hP]; exact und3) (by have := mln; omega) ?_; simp only [hP]; simp only [go_sem, hP, hn]; (repeat refine vc ?_)
        refine hK _ ?_; clear K hK
        (repeat (first | (refine TR.imp ?_; intro K hK; simp only [go_sem, hP, hn]; (repeat refine vc ?_); refine hK _ ?_; clear K hK) | refine TS.imp ?_))
        rw [w64 (x := k + 1) (by omega) (by omega), hi1]
        have hmy : mayO ns o (i + 1) = true := by rw [hB] at hd; cases h : mayO ns o (i + 1) <;> simp_all
        refine ⟨m - 1, _, by omega, ?_, k + 1, o ++ [i + 1], (i + 1, (o.length : Int)) :: mm, rfl, by omega, by omega, ?_, ?_, ?_⟩
        · rw [show (o ++ [i + 1]).length + 1 = o.length + 1 + 1 by simp]
          refine Le.trans (b := ⟨[(0, .d (rowN ns)), (4, .ptr 1000 0), (5, .own 46), (13, .d (.i .i64 ns.length)), (14, .d (.i .i64 (k + 1)))], [(46, .row 3 [.i .i64 0] ((o ++ [i + 1]).map intC)), (1000, .box 109 [.own 1001]), (1001, .mp (mapR Go.Proofs.Tryz.prog 3 3 (o.length + 1 + 1) ((i + 1, (o.length : Int)) :: mm)))]⟩) (Le.mv (by simp only [go_sem, hP, hn]; first | done | (simp; done) | (simp [intC]; done) | (repeat (first | rfl | constructor))) (by simp only [go_sem, hP, hn]; first | done | (simp; done) | (simp [intC]; done) | (repeat (first | rfl | constructor)))) ?_
          refine Le.trans (Le.ren 46 3001 (by rw [hpn] <;> rfl) rfl rfl) ?_; simp only [renT, renH, renO, renS, renL, rn, go_sem, hP, hn]
          exact (Le.mv (by simp only [go_sem, hP, hn]; first | done | (simp; done) | (simp [intC]; done) | (repeat (first | rfl | constructor))) (by simp only [go_sem, hP, hn]; first | done | (simp; done) | (simp [intC]; done) | (repeat (first | rfl | constructor))))
        · rw [hnx0, hnx]; show (match (if mayO ns o (i + 1) = true then some (i + 1) else _) with | none => _ | some i => _) = _; rw [if_pos hmy]
        · intro j
          simp only [mlook, List.contains_append, List.contains_cons, List.contains_nil, Bool.or_false]
          by_cases e : i + 1 = j
          · subst e; simp
          · rw [if_neg e, hmap j, show (j == i + 1) = false by simpa using fun h : j = i + 1 => e h.symm]; simp
        · simp; omega
    · (repeat (first | (refine TR.imp ?_; intro K hK; simp only [go_sem, hP, hn]; (repeat refine vc ?_); refine hK _ ?_; clear K hK) | refine TS.imp ?_))
      rw [w64 (x := k + 1) (by omega) (by omega)]
      have hm2 : m2 = 0 := by have := of_decide_eq_false hc; omega
      subst hm2
      refine ⟨m - 1, _, by omega, ?_, k + 1, o, mm, rfl, by omega, by omega, ?_, hmap, by omega⟩
      · exact (Le.mv (by simp only [go_sem, hP, hn]; first | done | (simp; done) | (simp [intC]; done) | (repeat (first | rfl | constructor))) (by simp only [go_sem, hP, hn]; first | done | (simp; done) | (simp [intC]; done) | (repeat (first | rfl | constructor))))
      · rw [hnx0, hnx]; rfl
  · (repeat (first | (refine TR.imp ?_; intro K hK; simp only [go_sem, hP, hn]; (repeat refine vc ?_); refine hK _ ?_; clear K hK) | refine TS.imp ?_))
    simp only [RetG, go_sem]; (repeat with_reducible refine vc ?_)
    have hm : m = 0 := by have := of_decide_eq_false hb; omega
    subst hm
    rw [hord, show ((o.length : Int) == (ns.length : Int)) = (o.length == ns.length) by rw [Bool.eq_iff_iff]; simp; omega]
    rfl
end
def ltup (q : Int × List Int × List Int × List Int) : S := .tup [.agg [.d (.row [.i .i64 0] (q.2.1.map intC)), .d (.row [.i .i64 0] (q.2.2.1.map intC)), .d (.row [.i .i64 0] (q.2.2.2.map intC))], .d (.i .i64 q.1)]
theorem lookL_cons (ns : List Nd) (i : Int) (r W R : List Int) : lookL ns (i :: r) W R = if ((nd ns (i - 1)).chk ((nd ns (i - 1)).inn.map (rd W)) != 0) = true then ((nd ns (i - 1)).chk ((nd ns (i - 1)).inn.map (rd W)), [], [])
    else if (!((nd ns (i - 1)).grate ((nd ns (i - 1)).inn.map (rd R))).2) = true then (15, [], [])
    else lookL ns r (W.set i.toNat ((nd ns (i - 1)).wide ((nd ns (i - 1)).inn.map (rd W)))) (R.set i.toNat ((nd ns (i - 1)).grate ((nd ns (i - 1)).inn.map (rd R))).1) := rfl
theorem look_c {T : World → Prop} (Tk : KT T) (wd lo hi out : Int) (ns : List Nd) (hns : ns.length ≤ 65536) (hin : ∀ n ∈ ns, n.inn.length ≤ 4096 ∧ n.ws.length ≤ 65536 ∧ n.bs.length ≤ 65536) : Cg Go.Proofs.Tryz.prog T 34 [] [.agg (gcs wd lo hi out (.d (rowN ns)))] (fun r H => H = [] ∧ r = ltup (lookG wd lo hi out ns)) := by
  refine Cg_of [] Tk.m Go.Proofs.Tryz.func34 rfl rfl Go.Proofs.Tryz.ntmps34 (by simp) rfl (rs := [.cell 2 67, .tmp 3]) rfl fun E hP hn hT hpn => ?_
  (repeat refine TS.imp ?_)
  refine TR.imp ?_; intro K hK; simp only [go_sem, hP, hn]; (repeat refine vc ?_); refine hK _ ?_; clear K hK
  (repeat refine TS.imp ?_)
  refine TR.imp ?_; intro K hK; simp only [go_sem, hP, hn]
  (repeat refine vc ?_)
  refine c1 (by rw [hP, hT]; exact may_c Tk.m wd lo hi out ns hns (fun n h => by have := hin n h; omega)) rfl rfl rfl trivial (by simp only [go_sem, hP, hn]; try trivial) (by simp only [go_sem, hP, hn]; try rfl) (by rw [hn]; decide) (by rfl) ?_; simp only [go_sem, hP, hn]; (repeat refine vc ?_)
  refine hK _ ?_; clear K hK
  (repeat (first | (refine TR.imp ?_; intro K hK; simp only [go_sem, hP, hn]; (repeat refine vc ?_); refine hK _ ?_; clear K hK) | refine TS.imp ?_))
  refine Tr.cond rfl (fun h1 => ?_) (fun h1 => ?_)
  · (repeat refine TS.imp ?_)
    refine TR.imp ?_; intro K hK; simp only [go_sem, hP, hn]; (repeat refine vc ?_); refine hK _ ?_; clear K hK
    refine Tr.le (Le.wbox 2 [.d (.row [.i .i64 0] []), .d (.row [.i .i64 0] []), .d (.row [.i .i64 0] [])] rfl (by simp [wk])) ?_; simp only [go_sem, hP, hn]
    (repeat (first | (refine TR.imp ?_; intro K hK; simp only [go_sem, hP, hn]; (repeat refine vc ?_); refine hK _ ?_; clear K hK) | refine TS.imp ?_))
    simp only [RetG, go_sem]; (repeat with_reducible refine vc ?_)
    rw [show lookG wd lo hi out ns = (mayG wd lo hi out ns, [], [], []) from if_pos h1]; rfl
  have hmay : mayG wd lo hi out ns = 0 := bne_eq_false_iff_eq.mp h1
  have hLG : lookG wd lo hi out ns = if (!((order ns).length == ns.length)) = true then (13, [], [], []) else match lookL ns (order ns) (wd :: List.replicate ns.length 0) (1 :: List.replicate ns.length 0) with | (e, W, R) => if (e != 0) = true then (e, [], [], []) else (0, order ns, W, R) := by
    unfold lookG; rw [if_neg (by rw [h1]; decide)]
  have hN := mayG_ok hmay
  clear h1
  (repeat refine TS.imp ?_)
  refine TR.imp ?_; intro K hK; simp only [go_sem, hP, hn]
  (repeat refine vc ?_)
  refine CallN_cs (Hi := [] ) (by rw [hP, hT]; exact  ordered_c Tk.m ns hN.2.1 (fun n h => ⟨by have := hin n h; omega, hN.2.2 n h⟩)) rfl rfl rfl trivial (by simp only [go_sem, hP, hn]; try trivial) (by simp only [go_sem, hP, hn]; try rfl) (by simp only [inH, go_sem, hP, hn]; try simp) (by rw [hn]; decide) ?_; simp only [go_sem, hP, hn]; (repeat refine vc ?_)
  refine hK _ ?_; clear K hK
  (repeat (first | (refine TR.imp ?_; intro K hK; simp only [go_sem, hP, hn]; (repeat refine vc ?_); refine hK _ ?_; clear K hK) | refine TS.imp ?_))
  refine Tr.cond rfl (fun h2 => ?_) (fun h2 => ?_)
  · (repeat refine TS.imp ?_)
    refine TR.imp ?_; intro K hK; simp only [go_sem, hP, hn]; (repeat refine vc ?_); refine hK _ ?_; clear K hK
    refine Tr.le (Le.wbox 2 [.d (.row [.i .i64 0] []), .d (.row [.i .i64 0] []), .d (.row [.i .i64 0] [])] rfl (by simp [wk])) ?_; simp only [go_sem, hP, hn]
    (repeat (first | (refine TR.imp ?_; intro K hK; simp only [go_sem, hP, hn]; (repeat refine vc ?_); refine hK _ ?_; clear K hK) | refine TS.imp ?_))
    simp only [RetG, go_sem]; (repeat with_reducible refine vc ?_)
    rw [hLG, if_pos h2]; rfl
  rw [if_neg (by rw [h2]; decide)] at hLG
  have hol : (order ns).length = ns.length := by simpa using h2
  have hor : ∀ x ∈ order ns, 1 ≤ x ∧ x ≤ ns.length := ordR_range (by simp)
  clear h2
  generalize hos : order ns = os at hLG hol hor ⊢
  (repeat refine TS.imp ?_)
  refine Tr.le (Le.keep [1, 2, 3, 4, 5]) ?_; simp only [List.map_cons, List.map_nil, lk, Nat.reduceEqDiff, reduceIte]
  refine Tr.meet (fun s => s = ⟨[(1, .ptr 1 0), (2, .ptr 2 0), (3, .d (.i .i64 0)), (5, .d (.row [.i .i64 0] (os.map intC))), (7, .ptr 7 0)], [(1, .box 28 (gcs wd lo hi out (.d (rowN ns)))), (2, .box 67 [.d .nil, .d .nil, .d .nil]), (7, .box 67 [.d (.row [.i .i64 0] (os.map intC)), .own 34, .own 39]), (34, .row 3 [.i .i64 0] ((List.replicate (ns.length + 1) 0).map intC)), (39, .row 3 [.i .i64 0] ((List.replicate (ns.length + 1) 0).map intC))]⟩) ?_ ?_
  rotate_left
  · refine d5 (.p true 0 (.p true 1 (.p true 2 (.p true 3 (.p true 4 (.p true 6 (.p true 7 (.p true 8 (.p true 9 (.alt 5 (.alt 10 (.p false 11 (.alt 12 (.alt 13 .nil .nil) .nil)) (.alt 12 (.alt 10 (.p false 11 (.alt 13 .nil .nil)) .nil) .nil)) (.alt 10 (.alt 5 (.p false 11 (.alt 12 (.alt 13 .nil .nil) .nil)) (.alt 12 (.alt 5 (.p false 11 (.alt 13 .nil .nil)) .nil) .nil)) (.alt 12 (.alt 5 (.alt 10 (.p false 11 (.alt 13 .nil .nil)) .nil) (.alt 10 (.alt 5 (.p false 11 (.alt 13 .nil .nil)) .nil) .nil)) .nil)))))))))))) [] (by rw [hP]; kernel_rfl) (by kernel_rfl) (by simp only [go_sem, hP, hn]; try simp) (by exact fun _ _ h => h) ?_; intro K hK; simp only [go_sem, hP, hn]
    simp only [show wrap64 ((ns.length : Int) + 1) = ((ns.length + 1 : Nat) : Int) from w64 (by omega) (by omega), Int.toNat_natCast]
    (repeat' (refine And.intro ?_ ?_)); all_goals (first | (refine hK _ ?_; (refine ⟨_, ?_, rfl⟩; exact (Le.mv (by simp only [go_sem, hP, hn]; first | done | (simp; done) | (simp [intC]; done) | (repeat (first | rfl | constructor))) (by simp only [go_sem, hP, hn]; first | done | (simp; done) | (simp [intC]; done) | (repeat (first | rfl | constructor)))))) | (first | trivial | omega | (simp <;> omega) | (simp +contextual; done) | (clear hK; grind)))
  rintro s rfl
  refine d5 (.p true 0 (.p true 1 (.p true 2 (.p true 3 (.p true 4 (.p true 5 (.p true 6 (.alt 7 (.p true 8 (.alt 9 .nil .nil)) .nil)))))))) [34, 39] (by rw [hP]; kernel_rfl) (by kernel_rfl) (by simp only [go_sem, hP, hn]; try simp) (by exact fun _ _ h => h) ?_; intro K hK; simp only [go_sem, hP, hn]
  (repeat refine vc ?_)
  rw [show (List.replicate (ns.length + 1) (0 : Int)).set 0 1 = 1 :: List.replicate ns.length 0 from rfl, show (List.replicate (ns.length + 1) (0 : Int)).set 0 wd = wd :: List.replicate ns.length 0 from rfl]
  refine hK _ ?_; clear K hK
  (repeat (first | (refine TR.imp ?_; intro K hK; simp only [go_sem, hP, hn]; (repeat refine vc ?_); refine hK _ ?_; clear K hK) | refine TS.imp ?_))
  refine Tr.le (Le.keep [1, 2, 3, 5, 7, 49, 50, 51]) ?_; simp only [List.map_cons, List.map_nil, lk, Nat.reduceEqDiff, reduceIte]
  refine Tr.loop (fun m s => ∃ (k : Int) (W R : List Int), s = ⟨[(1, .ptr 1 0), (2, .ptr 2 0), (3, .d (.i .i64 0)), (7, .ptr 7 0), (49, .d (.row [.i .i64 0] (os.map intC))), (50, .d (.i .i64 os.length)), (51, .d (.i .i64 k))], [(1, .box 28 (gcs wd lo hi out (.d (rowN ns)))), (2, .box 67 [.d .nil, .d .nil, .d .nil]), (7, .box 67 [.d (.row [.i .i64 0] (os.map intC)), .own 34, .own 39]), (34, .row 3 [.i .i64 0] (W.map intC)), (39, .row 3 [.i .i64 0] (R.map intC))]⟩ ∧ 0 ≤ k ∧ k + m = os.length ∧ W.length = ns.length + 1 ∧ R.length = ns.length + 1 ∧ lookL ns os (wd :: List.replicate ns.length 0) (1 :: List.replicate ns.length 0) = lookL ns (os.drop k.toNat) W R) os.length ⟨_, (Le.mv (by simp only [go_sem, hP, hn]; first | done | (simp; done) | (simp [intC]; done) | (repeat (first | rfl | constructor))) (by simp only [go_sem, hP, hn]; first | done | (simp; done) | (simp [intC]; done) | (repeat (first | rfl | constructor)))), 0, wd :: List.replicate ns.length 0, 1 :: List.replicate ns.length 0, rfl, by omega, by omega, by simp, by simp, rfl⟩ ?_
  rintro m s ⟨k, W, R, rfl, hk0, hkm, hWl, hRl, hL⟩
  (repeat (first | (refine TR.imp ?_; intro K hK; simp only [go_sem, hP, hn]; (repeat refine vc ?_); refine hK _ ?_; clear K hK) | refine TS.imp ?_))
  refine Tr.cond rfl (fun hb => ?_) (fun hb => ?_)
  · have hk1 : k < os.length := by simpa using hb
    rw [drop_rd hk0 hk1] at hL
    have hi := hor _ (rd_mem hk0 hk1)
    have hiw : wrap64 (rd os k - 1) = rd os k - 1 := w64 (by omega) (by omega)
    have hnd := rw_nd ns (rd os k - 1) (by omega) (by omega)
    have hmem := nd_mem (ns := ns) (i := rd os k - 1) (by omega) (by omega)
    have hq := hin _ hmem
    have hqi := hN.2.2 _ hmem
    rw [lookL_cons] at hL
    (repeat refine TS.imp ?_)
    refine TR.imp ?_; intro K hK; simp only [go_sem, hP, hn]; (repeat refine vc ?_); refine hK _ ?_; clear K hK
    generalize rd os k = i at hi hiw hnd hmem hq hqi hL ⊢
    (repeat refine TS.imp ?_)
    refine TR.imp ?_; intro K hK; simp only [hiw, hnd, go_sem, hP, hn]
    (repeat refine vc ?_)
    generalize nd ns (i - 1) = q at hq hqi hL ⊢
    refine hK _ ?_; clear K hK
    refine Tr.le (Le.keep [1, 2, 3, 7, 9, 10, 49, 50, 51]) ?_; simp only [List.map_cons, List.map_nil, lk, Nat.reduceEqDiff, reduceIte]
    (repeat refine TS.imp ?_)
    have hqW : ∀ x ∈ q.inn, 0 ≤ x ∧ x < W.length := fun x hx => by have := hqi x hx; omega
    have hml : (q.inn.map (rd W)).length ≤ 65536 := by rw [List.length_map]; omega
    have hmr : (q.inn.map (rd R)).length ≤ 65536 := by rw [List.length_map]; omega
    have hqR : ∀ x ∈ q.inn, 0 ≤ x ∧ x < R.length := fun x hx => by have := hqi x hx; omega
    refine TR.imp ?_; intro K hK; simp only [go_sem, hP, hn]; (repeat refine vc ?_); refine c1 (by rw [hP, hT]; exact pick_c Tk.m W q.inn (by omega) (by omega) hqW) rfl rfl rfl trivial (by simp only [go_sem, hP, hn]; try trivial) (by simp only [go_sem, hP, hn]; try rfl) (by rw [hn]; decide) (by rfl) ?_; simp only [go_sem, hP, hn]; (repeat refine vc ?_); refine hK _ ?_; clear K hK
    (repeat refine TS.imp ?_)
    refine TR.imp ?_; intro K hK; simp only [go_sem, hP, hn]; (repeat refine vc ?_); refine c1 (by rw [hP, hT]; exact Check_k Tk q (q.inn.map (rd W)) (by omega) (by omega) hml (by omega)) rfl rfl rfl trivial (by simp only [go_sem, hP, hn]; try trivial) (by simp only [go_sem, hP, hn]; try rfl) (by rw [hn]; decide) (by rfl) ?_; simp only [go_sem, hP, hn]; (repeat refine vc ?_); refine hK _ ?_; clear K hK
    (repeat (first | (refine TR.imp ?_; intro K hK; simp only [go_sem, hP, hn]; (repeat refine vc ?_); refine hK _ ?_; clear K hK) | refine TS.imp ?_))
    refine Tr.cond rfl (fun hc => ?_) (fun hc => ?_)
    · rw [if_pos hc] at hL
      (repeat refine TS.imp ?_)
      refine TR.imp ?_; intro K hK; simp only [go_sem, hP, hn]; (repeat refine vc ?_); refine hK _ ?_; clear K hK
      refine Tr.le (Le.wbox 2 [.d (.row [.i .i64 0] []), .d (.row [.i .i64 0] []), .d (.row [.i .i64 0] [])] rfl (by simp [wk])) ?_; simp only [go_sem, hP, hn]
      (repeat (first | (refine TR.imp ?_; intro K hK; simp only [go_sem, hP, hn]; (repeat refine vc ?_); refine hK _ ?_; clear K hK) | refine TS.imp ?_))
      simp only [RetG, go_sem]; (repeat with_reducible refine vc ?_)
      rw [hLG, hL]; simp only [if_pos hc]; rfl
    rw [if_neg (by rw [hc]; decide)] at hL
    have hc0 : q.chk (q.inn.map (rd W)) = 0 := bne_eq_false_iff_eq.mp hc
    have hpos : 0 < q.inn.length := by
      rcases Nat.eq_zero_or_pos q.inn.length with h | h
      · rw [List.eq_nil_of_length_eq_zero h] at hc0; exact absurd hc0 (Nd.chk_ne q)
      · exact h
    (repeat refine TS.imp ?_)
    refine Tr.le (Le.keep [1, 2, 3, 7, 9, 10, 11, 49, 50, 51]) ?_; simp only [List.map_cons, List.map_nil, lk, Nat.reduceEqDiff, reduceIte]
    refine d5 (.p true 0 (.p true 1 (.p true 2 (.p true 3 (.p true 4 (.alt 5 (.alt 6 (.p false 7 (.p false 8 (.p false 9 (.p false 10 (.p false 11 .nil))))) .nil) .nil)))))) [] (by rw [hP]; kernel_rfl) (by kernel_rfl) (by simp only [go_sem, hP, hn]; try simp) (by exact fun _ _ h => h) ?_; intro K hK; simp only [go_sem, hP, hn]
    (repeat refine vc ?_)
    refine p1 (by rw [hP, hT]; exact pick_c Tk.m R q.inn (by omega) (by omega) hqR) rfl rfl rfl trivial (by simp only [go_sem, hP, hn]; try trivial) (by simp only [go_sem, hP, hn]; try rfl) (by rw [hn]; decide) (by rfl) ?_; simp only [go_sem, hP, hn]; (repeat refine vc ?_)
    refine CallP_cs (by rw [hP, hT]; exact rate_k Tk q (q.inn.map (rd R)) (by simpa using hpos) hmr) rfl rfl rfl trivial (by simp only [go_sem, hP, hn]; try trivial) (by simp only [go_sem, hP, hn]; try rfl) (by rw [hn]; decide) ?_; simp only [go_sem, hP, hn]; (repeat refine vc ?_)
    refine hK _ ?_; clear K hK
    (repeat (first | (refine TR.imp ?_; intro K hK; simp only [go_sem, hP, hn]; (repeat refine vc ?_); refine hK _ ?_; clear K hK) | refine TS.imp ?_))
    refine Tr.cond rfl (fun hd => ?_) (fun hd => ?_)
    · rw [if_pos hd] at hL
      (repeat refine TS.imp ?_)
      refine TR.imp ?_; intro K hK; simp only [go_sem, hP, hn]; (repeat refine vc ?_); refine hK _ ?_; clear K hK
      refine Tr.le (Le.wbox 2 [.d (.row [.i .i64 0] []), .d (.row [.i .i64 0] []), .d (.row [.i .i64 0] [])] rfl (by simp [wk])) ?_; simp only [go_sem, hP, hn]
      (repeat (first | (refine TR.imp ?_; intro K hK; simp only [go_sem, hP, hn]; (repeat refine vc ?_); refine hK _ ?_; clear K hK) | refine TS.imp ?_))
      simp only [RetG, go_sem]; (repeat with_reducible refine vc ?_)
      rw [hLG, hL]; rfl
    rw [if_neg (by rw [hd]; decide)] at hL
    (repeat refine TS.imp ?_)
    refine Tr.le (Le.keep [1, 2, 3, 7, 9, 10, 11, 12, 49, 50, 51]) ?_; simp only [List.map_cons, List.map_nil, lk, Nat.reduceEqDiff, reduceIte]
    refine d5 (.p true 0 (.p true 1 (.p true 2 (.p true 3 (.p true 4 (.p true 5 (.p true 6 (.p true 7 (.p true 9 (.alt 8 (.p true 10 (.alt 11 (.p true 12 (.alt 13 .nil .nil)) .nil)) .nil)))))))))) [34, 39] (by rw [hP]; kernel_rfl) (by kernel_rfl) (by simp only [go_sem, hP, hn]; try simp) (by exact fun _ _ h => h) ?_; intro K hK; simp only [go_sem, hP, hn]
    (repeat refine vc ?_)
    refine p1 (by rw [hP, hT]; exact Width_k Tk q (q.inn.map (rd W)) (by omega) (by omega) hml (by omega)) rfl rfl rfl trivial (by simp only [go_sem, hP, hn]; try trivial) (by simp only [go_sem, hP, hn]; try rfl) (by rw [hn]; decide) (by rfl) ?_; simp only [go_sem, hP, hn]; (repeat refine vc ?_)
    refine hK _ ?_; clear K hK
    (repeat (first | (refine TR.imp ?_; intro K hK; simp only [go_sem, hP, hn]; (repeat refine vc ?_); refine hK _ ?_; clear K hK) | refine TS.imp ?_))
    rw [w64 (x := k + 1) (by omega) (by omega)]
    refine ⟨m - 1, _, by omega, ?_, k + 1, W.set i.toNat (q.wide (q.inn.map (rd W))), R.set i.toNat (q.grate (q.inn.map (rd R))).1, rfl, by omega, by omega, by simpa using hWl, by simpa using hRl, hL⟩
    exact (Le.mv (by simp only [go_sem, hP, hn]; first | done | (simp; done) | (simp [intC]; done) | (repeat (first | rfl | constructor))) (by simp only [go_sem, hP, hn]; first | done | (simp; done) | (simp [intC]; done) | (repeat (first | rfl | constructor))))
  rw [drop_end (by simpa using hb)] at hL
  (repeat (first | (refine TR.imp ?_; intro K hK; simp only [go_sem, hP, hn]; (repeat refine vc ?_); refine hK _ ?_; clear K hK) | refine TS.imp ?_))
  simp only [RetG, go_sem]; (repeat with_reducible refine vc ?_)
  rw [hLG, hL]; rfl
theorem Order_c {T : World → Prop} (Tk : KT T) (wd lo hi out : Int) (ns : List Nd) (hns : ns.length ≤ 65536) (hin : ∀ n ∈ ns, n.inn.length ≤ 4096 ∧ n.ws.length ≤ 65536 ∧ n.bs.length ≤ 65536) : Cg Go.Proofs.Tryz.prog T 25 [] [.agg (gcs wd lo hi out (.d (rowN ns)))] (fun r H => H = [] ∧ r = .d (.row [.i .i64 0] ((lookG wd lo hi out ns).2.1.map intC))) := by
  refine Cg_of [] Tk.m Go.Proofs.Tryz.func25 rfl rfl Go.Proofs.Tryz.ntmps25 (by simp) rfl (rs := [.tmp 2]) rfl fun E hP hn hT hpn => ?_
  (repeat refine TS.imp ?_)
  refine TR.imp ?_; intro K hK; simp only [go_sem, hP, hn]; (repeat refine vc ?_); refine hK _ ?_; clear K hK
  (repeat refine TS.imp ?_)
  refine TR.imp ?_; intro K hK; simp only [go_sem, hP, hn]
  (repeat refine vc ?_)
  refine CallN_cs (Hi := [] ) (by rw [hP, hT]; exact  look_c Tk wd lo hi out ns hns hin) rfl rfl rfl trivial (by simp only [go_sem, hP, hn]; try trivial) (by simp only [go_sem, hP, hn]; try rfl) (by simp only [inH, go_sem, hP, hn]; try simp) (by rw [hn]; decide) ?_; simp only [go_sem, hP, hn]; (repeat refine vc ?_)
  simp only [ltup]
  simp only [go_sem, hP, hn]
  (repeat refine vc ?_)
  refine hK _ ?_; clear K hK
  (repeat (first | (refine TR.imp ?_; intro K hK; simp only [go_sem, hP, hn]; (repeat refine vc ?_); refine hK _ ?_; clear K hK) | refine TS.imp ?_))
  simp only [RetG, go_sem]; (repeat with_reducible refine vc ?_)
theorem Widths_c {T : World → Prop} (Tk : KT T) (wd lo hi out : Int) (ns : List Nd) (hns : ns.length ≤ 65536) (hin : ∀ n ∈ ns, n.inn.length ≤ 4096 ∧ n.ws.length ≤ 65536 ∧ n.bs.length ≤ 65536) : Cg Go.Proofs.Tryz.prog T 23 [] [.agg (gcs wd lo hi out (.d (rowN ns)))] (fun r H => H = [] ∧ r = .d (.row [.i .i64 0] ((lookG wd lo hi out ns).2.2.1.map intC))) := by
  refine Cg_of [] Tk.m Go.Proofs.Tryz.func23 rfl rfl Go.Proofs.Tryz.ntmps23 (by simp) rfl (rs := [.tmp 2]) rfl fun E hP hn hT hpn => ?_
  (repeat refine TS.imp ?_)
  refine TR.imp ?_; intro K hK; simp only [go_sem, hP, hn]; (repeat refine vc ?_); refine hK _ ?_; clear K hK
  (repeat refine TS.imp ?_)
  refine TR.imp ?_; intro K hK; simp only [go_sem, hP, hn]
  (repeat refine vc ?_)
  refine CallN_cs (Hi := [] ) (by rw [hP, hT]; exact  look_c Tk wd lo hi out ns hns hin) rfl rfl rfl trivial (by simp only [go_sem, hP, hn]; try trivial) (by simp only [go_sem, hP, hn]; try rfl) (by simp only [inH, go_sem, hP, hn]; try simp) (by rw [hn]; decide) ?_; simp only [go_sem, hP, hn]; (repeat refine vc ?_)
  simp only [ltup]
  simp only [go_sem, hP, hn]
  (repeat refine vc ?_)
  refine hK _ ?_; clear K hK
  (repeat (first | (refine TR.imp ?_; intro K hK; simp only [go_sem, hP, hn]; (repeat refine vc ?_); refine hK _ ?_; clear K hK) | refine TS.imp ?_))
  simp only [RetG, go_sem]; (repeat with_reducible refine vc ?_)
theorem Check_c {T : World → Prop} (Tk : KT T) (wd lo hi out : Int) (ns : List Nd) (hns : ns.length ≤ 65536) (hin : ∀ n ∈ ns, n.inn.length ≤ 4096 ∧ n.ws.length ≤ 65536 ∧ n.bs.length ≤ 65536) : Cg Go.Proofs.Tryz.prog T 33 [] [.agg (gcs wd lo hi out (.d (rowN ns)))] (fun r H => H = [] ∧ r = .d (.i .i64 (lookG wd lo hi out ns).1)) := by
  refine Cg_of [] Tk.m Go.Proofs.Tryz.func33 rfl rfl Go.Proofs.Tryz.ntmps33 (by simp) rfl (rs := [.tmp 2]) rfl fun E hP hn hT hpn => ?_
  (repeat refine TS.imp ?_)
  refine TR.imp ?_; intro K hK; simp only [go_sem, hP, hn]; (repeat refine vc ?_); refine hK _ ?_; clear K hK
  (repeat refine TS.imp ?_)
  refine TR.imp ?_; intro K hK; simp only [go_sem, hP, hn]
  (repeat refine vc ?_)
  refine CallN_cs (Hi := [] ) (by rw [hP, hT]; exact  look_c Tk wd lo hi out ns hns hin) rfl rfl rfl trivial (by simp only [go_sem, hP, hn]; try trivial) (by simp only [go_sem, hP, hn]; try rfl) (by simp only [inH, go_sem, hP, hn]; try simp) (by rw [hn]; decide) ?_; simp only [go_sem, hP, hn]; (repeat refine vc ?_)
  simp only [ltup]
  simp only [go_sem, hP, hn]
  (repeat refine vc ?_)
  refine hK _ ?_; clear K hK
  (repeat (first | (refine TR.imp ?_; intro K hK; simp only [go_sem, hP, hn]; (repeat refine vc ?_); refine hK _ ?_; clear K hK) | refine TS.imp ?_))
  simp only [RetG, go_sem]; (repeat with_reducible refine vc ?_)
theorem next_num (x n : Int) (hn : 0 < n) (h1 : n ≤ 1000000) : 0 ≤ Int.tmod (wrap64 (Int.tmod x n + n)) n ∧ Int.tmod (wrap64 (Int.tmod x n + n)) n < n := by
  have a1 : -n < Int.tmod x n := by have := Int.lt_tmod_of_pos x hn; omega
  have a2 : Int.tmod x n < n := Int.tmod_lt_of_pos x hn
  rw [w64 (by omega) (by omega)]
  exact ⟨Int.tmod_nonneg _ (by omega), Int.tmod_lt_of_pos _ hn⟩
theorem Next_c {T : World → Prop} (Tm : TP T) (l : List Int) (i n : Int) (hl : l.length ≤ 4096) (h0 : 0 ≤ i) (h1 : i ≤ l.length) (n0 : 0 < n) (n1 : n ≤ 1000000) : C1 Go.Proofs.Tryz.prog T 48 1000 (rowO l i) [.ptr 1000 0, .d (.i .i64 n)] (fun r o => ∃ v j : Int, r = .d (.i .i64 v) ∧ o = rowO l j ∧ 0 ≤ v ∧ v < n ∧ 0 ≤ j ∧ j ≤ l.length) := by
  refine Cg_of [1000] Tm Go.Proofs.Tryz.func48 rfl rfl Go.Proofs.Tryz.ntmps48 (by simp) rfl (rs := [.tmp 4]) rfl fun E hP hn hT hpn => ?_
  (repeat (first | (refine TR.imp ?_; intro K hK; simp only [go_sem, hP, hn]; (repeat refine vc ?_); refine hK _ ?_; clear K hK) | refine TS.imp ?_))
  refine d5 (.p true 0 (.p true 1 (.p true 2 (.p true 3 (.p true 4 (.p true 5 (.p true 6 (.p true 7 (.p true 8 (.p true 9 .nil)))))))))) [] (by rw [hP]; kernel_rfl) (by kernel_rfl) (by simp only [go_sem, hP, hn]; try simp) (by exact fun _ _ h => h) ?_; intro K hK; simp only [go_sem, hP, hn]; (repeat refine vc ?_); refine hK _ ?_; clear K hK
  refine Tr.cond rfl (fun hb => ?_) (fun hb => ?_)
  · (repeat (first | (refine TR.imp ?_; intro K hK; simp only [go_sem, hP, hn]; (repeat refine vc ?_); refine hK _ ?_; clear K hK) | refine TS.imp ?_))
    simp only [RetG, go_sem]; (repeat with_reducible refine vc ?_)
    exact ⟨_, rfl, 0, i, rfl, rfl, by omega, by omega, h0, h1⟩
  · have hj : i < l.length := by have := of_decide_eq_false hb; omega
    (repeat (first | (refine TR.imp ?_; intro K hK; simp only [go_sem, hP, hn]; (repeat refine vc ?_); refine hK _ ?_; clear K hK) | refine TS.imp ?_))
    rw [w64 (x := i + 1) (by omega) (by omega)]
    refine d5 (.p true 0 (.p true 1 (.p true 2 (.p true 3 (.p true 4 (.p true 5 (.p true 6 (.p true 7 (.p true 8 (.p true 9 (.p true 10 (.p true 11 (.p true 12 (.p true 13 (.p true 14 (.p true 15 (.p true 16 (.p true 17 .nil)))))))))))))))))) [] (by rw [hP]; kernel_rfl) (by kernel_rfl) (by simp only [go_sem, hP, hn]; try simp) (by exact fun _ _ h => h) ?_; intro K hK; simp only [go_sem, hP, hn]
    rw [w64 (x := i + 1 - 1) (by omega) (by omega)]
    (repeat refine vc ?_)
    refine hK _ ?_; clear K hK
    (repeat (first | (refine TR.imp ?_; intro K hK; simp only [go_sem, hP, hn]; (repeat refine vc ?_); refine hK _ ?_; clear K hK) | refine TS.imp ?_))
    simp only [RetG, go_sem]; (repeat with_reducible refine vc ?_)
    trace_state
    exact ⟨_, rfl, _, i + 1, rfl, rfl, (next_num _ n n0 n1).1, (next_num _ n n0 n1).2, by omega, by omega⟩
theorem row_c {T : World → Prop} (Tm : TP T) (l : List Int) (i m lo most : Int) (hl : l.length ≤ 4096) (h0 : 0 ≤ i) (h1 : i ≤ l.length) (m0 : 0 ≤ m) (m1 : m ≤ 4096) (n0 : 0 < most) (n1 : most ≤ 1000000) (lo0 : -1000000 ≤ lo) (lo1 : lo ≤ 1000000) : C1 Go.Proofs.Tryz.prog T 98 1000 (rowO l i) [.ptr 1000 0, .d (.i .i64 m), .d (.i .i64 lo), .d (.i .i64 most)] (fun r o => ∃ (xs : List Int) (j : Int), r = .d (.row [.i .i64 0] (xs.map intC)) ∧ o = rowO l j ∧ (xs.length : Int) = m ∧ (∀ x ∈ xs, lo ≤ x ∧ x < lo + most) ∧ 0 ≤ j ∧ j ≤ l.length) := by
  refine Cg_of [1000] Tm Go.Proofs.Tryz.func98 rfl rfl Go.Proofs.Tryz.ntmps98 (by simp) rfl (rs := [.tmp 8]) rfl fun E hP hn hT hpn => ?_
  (repeat (first | (refine TR.imp ?_; intro K hK; simp only [go_sem, hP, hn]; (repeat refine vc ?_); refine hK _ ?_; clear K hK) | refine TS.imp ?_))
  refine Tr.loop (fun n s => ∃ (xs : List Int) (k j : Int) (x : S) (H : Hp), s = ⟨[(0, .ptr 1000 0), (1, .d (.i .i64 m)), (2, .d (.i .i64 lo)), (3, .d (.i .i64 most)), (10, .d (.i .i64 k)), (9, x)], H⟩ ∧ ((x = .d .nil ∧ H = [(1000, rowO l j)] ∧ xs = []) ∨ (x = .own 23 ∧ H = [(23, .row 3 [.i .i64 0] (xs.map intC)), (1000, rowO l j)])) ∧ k = xs.length ∧ k + n = m ∧ (∀ x ∈ xs, lo ≤ x ∧ x < lo + most) ∧ 0 ≤ j ∧ j ≤ l.length) m.toNat ⟨_, (Le.mv (by simp only [go_sem, hP, hn]; first | done | (simp; done) | (simp [intC]; done) | (repeat (first | rfl | constructor))) (by simp only [go_sem, hP, hn]; first | done | (simp; done) | (simp [intC]; done) | (repeat (first | rfl | constructor)))), [], 0, i, _, _, rfl, .inl ⟨rfl, rfl, rfl⟩, by simp, by omega, by simp, h0, h1⟩ ?_
  rintro n s ⟨xs, k, j, x, H, rfl, (⟨rfl, rfl, rfl⟩ | ⟨rfl, rfl⟩), hk, hn1, hx, hj0, hj1⟩
  · simp only [List.length_nil] at hk
    (repeat (first | (refine TR.imp ?_; intro K hK; simp only [go_sem, hP, hn]; (repeat refine vc ?_); refine hK _ ?_; clear K hK) | refine TS.imp ?_))
    refine Tr.cond rfl (fun hb => ?_) (fun hb => ?_)
    · have hkm : k < m := by simpa using hb
      (repeat (first | (refine TR.imp ?_; intro K hK; simp only [go_sem, hP, hn]; (repeat refine vc ?_); refine hK _ ?_; clear K hK) | refine TS.imp ?_))
      refine TR.imp ?_; intro K hK; simp only [go_sem, hP, hn]
      (repeat refine vc ?_)
      refine CallN_c1 (by rw [hP, hT]; exact Next_c Tm l j most hl hj0 hj1 n0 n1 ) rfl rfl rfl trivial (by simp only [go_sem, hP, hn]; try trivial) (by simp only [go_sem, hP, hn]; try rfl) (by simp only [go_sem, hP, hn]; try rfl) (by rw [hn]; decide) (fun r ob' hr => ?_); obtain  ⟨v, j', rfl, rfl, hv0, hv1, hj0', hj1'⟩ := hr; simp only [go_sem, hP, hn]; (repeat refine vc ?_)
      refine hK _ ?_; clear K hK
      (repeat (first | (refine TR.imp ?_; intro K hK; simp only [go_sem, hP, hn]; (repeat refine vc ?_); refine hK _ ?_; clear K hK) | refine TS.imp ?_))
      rw [w64 (x := k + 1) (by omega) (by omega), w64 (x := lo + v) (by omega) (by omega)]
      refine ⟨n - 1, _, by omega, ?_, [lo + v], k + 1, j', .own 23, [(23, .row 3 [.i .i64 0] (([lo + v]).map intC)), (1000, rowO l j')], rfl, .inr ⟨rfl, rfl⟩, by simp; omega, by omega, ?_, hj0', hj1'⟩
      · exact (Le.mv (by simp only [go_sem, hP, hn]; first | done | (simp; done) | (simp [intC]; done) | (repeat (first | rfl | constructor))) (by simp only [go_sem, hP, hn]; first | done | (simp; done) | (simp [intC]; done) | (repeat (first | rfl | constructor))))
      · intro x hx'
        simp only [List.mem_append, List.mem_cons, List.not_mem_nil, or_false, false_or] at hx'
        subst hx'; omega
    · refine Tr.le (Le.nilrow 9 [.i .i64 0] rfl) ?_
      (repeat (first | (refine TR.imp ?_; intro K hK; simp only [go_sem, hP, hn]; (repeat refine vc ?_); refine hK _ ?_; clear K hK) | refine TS.imp ?_))
      simp only [RetG, go_sem]; (repeat with_reducible refine vc ?_)
      exact ⟨_, rfl, [], j, rfl, rfl, by have := of_decide_eq_false hb; simp at hk ⊢; omega, by simp, hj0, hj1⟩
  · skip
    (repeat (first | (refine TR.imp ?_; intro K hK; simp only [go_sem, hP, hn]; (repeat refine vc ?_); refine hK _ ?_; clear K hK) | refine TS.imp ?_))
    refine Tr.cond rfl (fun hb => ?_) (fun hb => ?_)
    · have hkm : k < m := by simpa using hb
      (repeat (first | (refine TR.imp ?_; intro K hK; simp only [go_sem, hP, hn]; (repeat refine vc ?_); refine hK _ ?_; clear K hK) | refine TS.imp ?_))
      refine TR.imp ?_; intro K hK; simp only [go_sem, hP, hn]
      (repeat refine vc ?_)
      refine CallN_c1 (by rw [hP, hT]; exact Next_c Tm l j most hl hj0 hj1 n0 n1 ) rfl rfl rfl trivial (by simp only [go_sem, hP, hn]; try trivial) (by simp only [go_sem, hP, hn]; try rfl) (by simp only [go_sem, hP, hn]; try rfl) (by rw [hn]; decide) (fun r ob' hr => ?_); obtain  ⟨v, j', rfl, rfl, hv0, hv1, hj0', hj1'⟩ := hr; simp only [go_sem, hP, hn]; (repeat refine vc ?_)
      refine hK _ ?_; clear K hK
      (repeat (first | (refine TR.imp ?_; intro K hK; simp only [go_sem, hP, hn]; (repeat refine vc ?_); refine hK _ ?_; clear K hK) | refine TS.imp ?_))
      rw [w64 (x := k + 1) (by omega) (by omega), w64 (x := lo + v) (by omega) (by omega)]
      refine ⟨n - 1, _, by omega, ?_, xs ++ [(lo + v)], k + 1, j', .own 23, [(23, .row 3 [.i .i64 0] ((xs ++ [(lo + v)]).map intC)), (1000, rowO l j')], rfl, .inr ⟨rfl, rfl⟩, by simp; omega, by omega, ?_, hj0', hj1'⟩
      · exact (Le.mv (by simp only [go_sem, hP, hn]; first | done | (simp; done) | (simp [intC]; done) | (repeat (first | rfl | constructor))) (by simp only [go_sem, hP, hn]; first | done | (simp; done) | (simp [intC]; done) | (repeat (first | rfl | constructor))))
      · intro x hx'
        simp only [List.mem_append, List.mem_cons, List.not_mem_nil, or_false, false_or] at hx'
        rcases hx' with hx' | rfl
        · exact hx x hx'
        · omega
    · (repeat (first | (refine TR.imp ?_; intro K hK; simp only [go_sem, hP, hn]; (repeat refine vc ?_); refine hK _ ?_; clear K hK) | refine TS.imp ?_))
      simp only [RetG, go_sem]; (repeat with_reducible refine vc ?_)
      exact ⟨_, rfl, xs, j, rfl, rfl, by have := of_decide_eq_false hb; omega, hx, hj0, hj1⟩
theorem Windows_r {T : World → Prop} (Tm : TP T) (k : Int) : Ct Go.Proofs.Tryz.prog T 42 [.d (.i .i64 k)] true (fun r => r = .d (.b (rWin k))) := by
  refine Ct_of Tm Go.Proofs.Tryz.func42 rfl rfl Go.Proofs.Tryz.ntmps42 (by simp) (rs := [.tmp 2]) rfl fun E hP hn hT => ?_
  (repeat (first | (refine TR.imp ?_; intro K hK; simp only [go_sem, hP, hn]; (repeat refine vc ?_); refine hK _ ?_; clear K hK) | refine TS.imp ?_))
  simp only [RetQ, go_sem]
  rfl
theorem four_r {T : World → Prop} (Tm : TP T) (k : Int) : Ct Go.Proofs.Tryz.prog T 116 [.d (.i .i64 k)] true (fun r => r = .d (.b (rFour k))) := by
  refine Ct_of Tm Go.Proofs.Tryz.func116 rfl rfl Go.Proofs.Tryz.ntmps116 (by simp) (rs := [.tmp 2]) rfl fun E hP hn hT => ?_
  (repeat (first | (refine TR.imp ?_; intro K hK; simp only [go_sem, hP, hn]; (repeat refine vc ?_); refine hK _ ?_; clear K hK) | refine TS.imp ?_))
  simp only [RetQ, go_sem]
  rfl
theorem weighs_r {T : World → Prop} (Tm : TP T) (k : Int) : Ct Go.Proofs.Tryz.prog T 81 [.d (.i .i64 k)] true (fun r => r = .d (.b (rWeighs k))) := by
  refine Ct_of Tm Go.Proofs.Tryz.func81 rfl rfl Go.Proofs.Tryz.ntmps81 (by simp) (rs := [.tmp 2]) rfl fun E hP hn hT => ?_
  (repeat (first | (refine TR.imp ?_; intro K hK; simp only [go_sem, hP, hn]; (repeat refine vc ?_); refine hK _ ?_; clear K hK) | refine TS.imp ?_))
  simp only [RetQ, go_sem]
  rfl
theorem Many_r {T : World → Prop} (Tm : TP T) (k : Int) : Ct Go.Proofs.Tryz.prog T 80 [.d (.i .i64 k)] true (fun r => r = .d (.b (rMany k))) := by
  refine Ct_of Tm Go.Proofs.Tryz.func80 rfl rfl Go.Proofs.Tryz.ntmps80 (by simp) (rs := [.tmp 2]) rfl fun E hP hn hT => ?_
  (repeat (first | (refine TR.imp ?_; intro K hK; simp only [go_sem, hP, hn]; (repeat refine vc ?_); refine hK _ ?_; clear K hK) | refine TS.imp ?_))
  simp only [RetQ, go_sem]
  rfl
theorem in_r {T : World → Prop} (Tm : TP T) (x lo hi : Int) : Ct Go.Proofs.Tryz.prog T 79 [.d (.i .i64 x), .d (.i .i64 lo), .d (.i .i64 hi)] true (fun r => r = .d (.b (inB x lo hi))) := by
  refine Ct_of Tm Go.Proofs.Tryz.func79 rfl rfl Go.Proofs.Tryz.ntmps79 (by simp) (rs := [.tmp 6]) rfl fun E hP hn hT => ?_
  (repeat (first | (refine TR.imp ?_; intro K hK; simp only [go_sem, hP, hn]; (repeat refine vc ?_); refine hK _ ?_; clear K hK) | refine TS.imp ?_))
  simp only [RetQ, go_sem]
  rfl
theorem all_r {T : World → Prop} (Tm : TP T) (l : List Int) (lo hi : Int) (hl : l.length ≤ 65536) : Ct Go.Proofs.Tryz.prog T 78 [.d (.row [.i .i64 0] (l.map intC)), .d (.i .i64 lo), .d (.i .i64 hi)] true (fun r => r = .d (.b (l.all (inB · lo hi)))) := by
  refine Ct_of Tm Go.Proofs.Tryz.func78 rfl rfl Go.Proofs.Tryz.ntmps78 (by simp) (rs := [.tmp 6]) rfl fun E hP hn hT => ?_
  (repeat (first | (refine TR.imp ?_; intro K hK; simp only [go_sem, hP, hn]; (repeat refine vc ?_); refine hK _ ?_; clear K hK) | refine TS.imp ?_))
  refine Tr.loop (fun n s => ∃ j : Int, s = ⟨[(0, .d (.row [.i .i64 0] (l.map intC))), (1, .d (.i .i64 lo)), (2, .d (.i .i64 hi)), (7, .d (.i .i64 j))], []⟩ ∧ 0 ≤ j ∧ j + n = l.length ∧ l.all (inB · lo hi) = (l.drop j.toNat).all (inB · lo hi)) l.length ⟨_, (Le.mv (by simp only [go_sem, hP, hn]; first | done | (simp; done) | (simp [intC]; done) | (repeat (first | rfl | constructor))) (by simp only [go_sem, hP, hn]; first | done | (simp; done) | (simp [intC]; done) | (repeat (first | rfl | constructor)))), 0, rfl, by omega, by omega, by simp⟩ ?_
  rintro n s ⟨j, rfl, h0, h1, h2⟩
  (repeat (first | (refine TR.imp ?_; intro K hK; simp only [go_sem, hP, hn]; (repeat refine vc ?_); refine hK _ ?_; clear K hK) | refine TS.imp ?_))
  refine Tr.cond rfl (fun hb => ?_) (fun hb => ?_)
  · have hj : j < l.length := by simpa using hb
    (repeat (first | (refine TR.imp ?_; intro K hK; simp only [go_sem, hP, hn]; (repeat refine vc ?_); refine hK _ ?_; clear K hK) | refine TS.imp ?_))
    refine Tr.cond rfl (fun hc => ?_) (fun hc => ?_)
    · (repeat (first | (refine TR.imp ?_; intro K hK; simp only [go_sem, hP, hn]; (repeat refine vc ?_); refine hK _ ?_; clear K hK) | refine TS.imp ?_))
      simp only [RetQ, go_sem]
      have e : inB (rd l j) lo hi = false := by
        unfold inB
        simp only [Bool.or_eq_true, decide_eq_true_eq] at hc
        rw [Bool.and_eq_false_iff, decide_eq_false_iff_not, decide_eq_false_iff_not]
        omega
      rw [h2, drop_rd h0 hj, List.all_cons, e, Bool.false_and]
    · (repeat (first | (refine TR.imp ?_; intro K hK; simp only [go_sem, hP, hn]; (repeat refine vc ?_); refine hK _ ?_; clear K hK) | refine TS.imp ?_))
      rw [w64 (by omega) (by omega)]
      refine ⟨n - 1, _, by omega, ?_, j + 1, rfl, by omega, by omega, ?_⟩
      · exact (Le.mv (by simp only [go_sem, hP, hn]; first | done | (simp; done) | (simp [intC]; done) | (repeat (first | rfl | constructor))) (by simp only [go_sem, hP, hn]; first | done | (simp; done) | (simp [intC]; done) | (repeat (first | rfl | constructor))))
      have e : inB (rd l j) lo hi = true := by
        unfold inB
        simp only [Bool.or_eq_false_iff, decide_eq_false_iff_not] at hc
        rw [Bool.and_eq_true, decide_eq_true_eq, decide_eq_true_eq]
        omega
      rw [h2, drop_rd h0 hj, List.all_cons, e, Bool.true_and]
  · (repeat (first | (refine TR.imp ?_; intro K hK; simp only [go_sem, hP, hn]; (repeat refine vc ?_); refine hK _ ?_; clear K hK) | refine TS.imp ?_))
    simp only [RetQ, go_sem]
    rw [h2, drop_end (by simpa using hb)]
    rfl
theorem Span_r {T : World → Prop} (Tm : TP T) (n : Nd) : Ct Go.Proofs.Tryz.prog T 117 [.agg n.cs] true (fun r => r = .d (.i .i64 n.rSpan)) := by
  refine Ct_of Tm Go.Proofs.Tryz.func117 rfl rfl Go.Proofs.Tryz.ntmps117 (by simp) (rs := [.tmp 2]) rfl fun E hP hn hT => ?_
  (repeat (first | (refine TR.imp ?_; intro K hK; simp only [go_sem, hP, hn]; (repeat refine vc ?_); refine hK _ ?_; clear K hK) | refine TS.imp ?_))
  refine Tr.cond rfl (fun h1 => ?_) (fun h1 => ?_)
  · (repeat (first | (refine TR.imp ?_; intro K hK; simp only [go_sem, hP, hn]; (repeat refine vc ?_); refine hK _ ?_; clear K hK) | refine TS.imp ?_))
    simp only [RetQ, go_sem]
    unfold Nd.rSpan; rw [h1]; rfl
  (repeat (first | (refine TR.imp ?_; intro K hK; simp only [go_sem, hP, hn]; (repeat refine vc ?_); refine hK _ ?_; clear K hK) | refine TS.imp ?_))
  refine TR.imp ?_; intro K hK; simp only [go_sem, hP, hn]; (repeat refine vc ?_); refine c1 (by rw [hP, hT]; exact Windows_r Tm n.k) rfl rfl rfl trivial (by simp only [go_sem, hP, hn]; try trivial) (by simp only [go_sem, hP, hn]; try rfl) (by rw [hn]; decide) (by rfl) ?_; simp only [go_sem, hP, hn]; (repeat refine vc ?_); refine hK _ ?_; clear K hK
  (repeat (first | (refine TR.imp ?_; intro K hK; simp only [go_sem, hP, hn]; (repeat refine vc ?_); refine hK _ ?_; clear K hK) | refine TS.imp ?_))
  refine Tr.cond rfl (fun h2 => ?_) (fun h2 => ?_)
  · (repeat (first | (refine TR.imp ?_; intro K hK; simp only [go_sem, hP, hn]; (repeat refine vc ?_); refine hK _ ?_; clear K hK) | refine TS.imp ?_))
    simp only [RetQ, go_sem]
    unfold Nd.rSpan; rw [h1, h2]; rfl
  · (repeat (first | (refine TR.imp ?_; intro K hK; simp only [go_sem, hP, hn]; (repeat refine vc ?_); refine hK _ ?_; clear K hK) | refine TS.imp ?_))
    simp only [RetQ, go_sem]
    unfold Nd.rSpan; rw [h1, h2]; rfl
theorem Step_r {T : World → Prop} (Tm : TP T) (n : Nd) : Ct Go.Proofs.Tryz.prog T 84 [.agg n.cs] true (fun r => r = .d (.i .i64 n.rStp)) := by
  refine Ct_of Tm Go.Proofs.Tryz.func84 rfl rfl Go.Proofs.Tryz.ntmps84 (by simp) (rs := [.tmp 2]) rfl fun E hP hn hT => ?_
  (repeat (first | (refine TR.imp ?_; intro K hK; simp only [go_sem, hP, hn]; (repeat refine vc ?_); refine hK _ ?_; clear K hK) | refine TS.imp ?_))
  refine TR.imp ?_; intro K hK; simp only [go_sem, hP, hn]; (repeat refine vc ?_); refine c1 (by rw [hP, hT]; exact four_r Tm n.k) rfl rfl rfl trivial (by simp only [go_sem, hP, hn]; try trivial) (by simp only [go_sem, hP, hn]; try rfl) (by rw [hn]; decide) (by rfl) ?_; simp only [go_sem, hP, hn]; (repeat refine vc ?_); refine hK _ ?_; clear K hK
  (repeat (first | (refine TR.imp ?_; intro K hK; simp only [go_sem, hP, hn]; (repeat refine vc ?_); refine hK _ ?_; clear K hK) | refine TS.imp ?_))
  refine Tr.cond rfl (fun h2 => ?_) (fun h2 => ?_)
  · (repeat (first | (refine TR.imp ?_; intro K hK; simp only [go_sem, hP, hn]; (repeat refine vc ?_); refine hK _ ?_; clear K hK) | refine TS.imp ?_))
    simp only [RetQ, go_sem]
    unfold Nd.rStp; rw [h2]; rfl
  · (repeat (first | (refine TR.imp ?_; intro K hK; simp only [go_sem, hP, hn]; (repeat refine vc ?_); refine hK _ ?_; clear K hK) | refine TS.imp ?_))
    simp only [RetQ, go_sem]
    unfold Nd.rStp; rw [h2]; rfl
theorem weights_r {T : World → Prop} (Tm : TP T) (n : Nd) (v : Int) : Ct Go.Proofs.Tryz.prog T 118 [.agg n.cs, .d (.i .i64 v)] true (fun r => r = .d (.i .i64 (n.rWeights v))) := by
  refine Ct_of Tm Go.Proofs.Tryz.func118 rfl rfl Go.Proofs.Tryz.ntmps118 (by simp) (rs := [.tmp 4]) rfl fun E hP hn hT => ?_
  (repeat (first | (refine TR.imp ?_; intro K hK; simp only [go_sem, hP, hn]; (repeat refine vc ?_); refine hK _ ?_; clear K hK) | refine TS.imp ?_))
  refine Tr.cond rfl (fun h1 => ?_) (fun h1 => ?_)
  · (repeat (first | (refine TR.imp ?_; intro K hK; simp only [go_sem, hP, hn]; (repeat refine vc ?_); refine hK _ ?_; clear K hK) | refine TS.imp ?_))
    simp only [RetQ, go_sem]
    unfold Nd.rWeights; rw [h1]; rfl
  (repeat (first | (refine TR.imp ?_; intro K hK; simp only [go_sem, hP, hn]; (repeat refine vc ?_); refine hK _ ?_; clear K hK) | refine TS.imp ?_))
  refine Tr.cond rfl (fun h2 => ?_) (fun h2 => ?_)
  · (repeat (first | (refine TR.imp ?_; intro K hK; simp only [go_sem, hP, hn]; (repeat refine vc ?_); refine hK _ ?_; clear K hK) | refine TS.imp ?_))
    simp only [RetQ, go_sem]
    unfold Nd.rWeights; rw [h1, h2]; rfl
  · (repeat (first | (refine TR.imp ?_; intro K hK; simp only [go_sem, hP, hn]; (repeat refine vc ?_); refine hK _ ?_; clear K hK) | refine TS.imp ?_))
    simp only [RetQ, go_sem]
    unfold Nd.rWeights; rw [h1, h2]; rfl
theorem else0_r {T : World → Prop} (Tm : TP T) (n : Nd) : Ct Go.Proofs.Tryz.prog T 82 [.agg n.cs] true (fun r => r = .d (.b n.else0)) := by
  refine Ct_of Tm Go.Proofs.Tryz.func82 rfl rfl Go.Proofs.Tryz.ntmps82 (by simp) (rs := [.tmp 2]) rfl fun E hP hn hT => ?_
  (repeat (first | (refine TR.imp ?_; intro K hK; simp only [go_sem, hP, hn]; (repeat refine vc ?_); refine hK _ ?_; clear K hK) | refine TS.imp ?_))
  refine TR.imp ?_; intro K hK; simp only [go_sem, hP, hn]; (repeat refine vc ?_); refine c1 (by rw [hP, hT]; exact four_r Tm n.k) rfl rfl rfl trivial (by simp only [go_sem, hP, hn]; try trivial) (by simp only [go_sem, hP, hn]; try rfl) (by rw [hn]; decide) (by rfl) ?_; simp only [go_sem, hP, hn]; (repeat refine vc ?_); refine hK _ ?_; clear K hK
  (repeat (first | (refine TR.imp ?_; intro K hK; simp only [go_sem, hP, hn]; (repeat refine vc ?_); refine hK _ ?_; clear K hK) | refine TS.imp ?_))
  refine TR.imp ?_; intro K hK; simp only [go_sem, hP, hn]; (repeat refine vc ?_); refine c1 (by rw [hP, hT]; exact weighs_r Tm n.k) rfl rfl rfl trivial (by simp only [go_sem, hP, hn]; try trivial) (by simp only [go_sem, hP, hn]; try rfl) (by rw [hn]; decide) (by rfl) ?_; simp only [go_sem, hP, hn]; (repeat refine vc ?_); refine hK _ ?_; clear K hK
  (repeat (first | (refine TR.imp ?_; intro K hK; simp only [go_sem, hP, hn]; (repeat refine vc ?_); refine hK _ ?_; clear K hK) | refine TS.imp ?_))
  refine Tr.cond rfl (fun h6 => ?_) (fun h6 => ?_)
  · (repeat (first | (refine TR.imp ?_; intro K hK; simp only [go_sem, hP, hn]; (repeat refine vc ?_); refine hK _ ?_; clear K hK) | refine TS.imp ?_))
    simp only [RetQ, go_sem]
    have e : n.e6 = true := h6
    unfold Nd.else0; rw [e]; rfl
  replace h6 : n.e6 = false := h6
  (repeat (first | (refine TR.imp ?_; intro K hK; simp only [go_sem, hP, hn]; (repeat refine vc ?_); refine hK _ ?_; clear K hK) | refine TS.imp ?_))
  refine Tr.cond rfl (fun h8 => ?_) (fun h8 => ?_)
  · (repeat (first | (refine TR.imp ?_; intro K hK; simp only [go_sem, hP, hn]; (repeat refine vc ?_); refine hK _ ?_; clear K hK) | refine TS.imp ?_))
    simp only [RetQ, go_sem]
    have e : n.e8 = true := h8
    unfold Nd.else0; rw [h6, e]; rfl
  replace h8 : n.e8 = false := h8
  (repeat (first | (refine TR.imp ?_; intro K hK; simp only [go_sem, hP, hn]; (repeat refine vc ?_); refine hK _ ?_; clear K hK) | refine TS.imp ?_))
  refine Tr.cond rfl (fun h10 => ?_) (fun h10 => ?_)
  · (repeat (first | (refine TR.imp ?_; intro K hK; simp only [go_sem, hP, hn]; (repeat refine vc ?_); refine hK _ ?_; clear K hK) | refine TS.imp ?_))
    simp only [RetQ, go_sem]
    have e : n.e10 = true := by unfold Nd.e10; simpa only [Int.natCast_pos] using h10
    unfold Nd.else0; rw [h6, h8, e]; rfl
  replace h10 : n.e10 = false := by unfold Nd.e10; simpa only [Int.natCast_pos] using h10
  (repeat (first | (refine TR.imp ?_; intro K hK; simp only [go_sem, hP, hn]; (repeat refine vc ?_); refine hK _ ?_; clear K hK) | refine TS.imp ?_))
  simp only [RetQ, go_sem]
  unfold Nd.else0; rw [h6, h8, h10]; rfl
theorem sized_r {T : World → Prop} (Tm : TP T) (n : Nd) (v : Int) (hw : n.ws.length ≤ 65536) (hs : n.bs.length ≤ 65536) : Ct Go.Proofs.Tryz.prog T 83 [.agg n.cs, .d (.i .i64 v)] true (fun r => r = .d (.b (n.sized v))) := by
  refine Ct_of Tm Go.Proofs.Tryz.func83 rfl rfl Go.Proofs.Tryz.ntmps83 (by simp) (rs := [.tmp 4]) rfl fun E hP hn hT => ?_
  (repeat (first | (refine TR.imp ?_; intro K hK; simp only [go_sem, hP, hn]; (repeat refine vc ?_); refine hK _ ?_; clear K hK) | refine TS.imp ?_))
  refine TR.imp ?_; intro K hK; simp only [go_sem, hP, hn]; (repeat refine vc ?_); refine c1 (by rw [hP, hT]; exact four_r Tm n.k) rfl rfl rfl trivial (by simp only [go_sem, hP, hn]; try trivial) (by simp only [go_sem, hP, hn]; try rfl) (by rw [hn]; decide) (by rfl) ?_; simp only [go_sem, hP, hn]; (repeat refine vc ?_); refine hK _ ?_; clear K hK
  (repeat (first | (refine TR.imp ?_; intro K hK; simp only [go_sem, hP, hn]; (repeat refine vc ?_); refine hK _ ?_; clear K hK) | refine TS.imp ?_))
  refine TR.imp ?_; intro K hK; simp only [go_sem, hP, hn]; (repeat refine vc ?_); refine c1 (by rw [hP, hT]; exact weighs_r Tm n.k) rfl rfl rfl trivial (by simp only [go_sem, hP, hn]; try trivial) (by simp only [go_sem, hP, hn]; try rfl) (by rw [hn]; decide) (by rfl) ?_; simp only [go_sem, hP, hn]; (repeat refine vc ?_); refine hK _ ?_; clear K hK
  (repeat (first | (refine TR.imp ?_; intro K hK; simp only [go_sem, hP, hn]; (repeat refine vc ?_); refine hK _ ?_; clear K hK) | refine TS.imp ?_))
  refine TR.imp ?_; intro K hK; simp only [go_sem, hP, hn]; (repeat refine vc ?_); refine c1 (by rw [hP, hT]; exact in_r Tm n.size 1 8) rfl rfl rfl trivial (by simp only [go_sem, hP, hn]; try trivial) (by simp only [go_sem, hP, hn]; try rfl) (by rw [hn]; decide) (by rfl) ?_; simp only [go_sem, hP, hn]; (repeat refine vc ?_); refine hK _ ?_; clear K hK
  (repeat (first | (refine TR.imp ?_; intro K hK; simp only [go_sem, hP, hn]; (repeat refine vc ?_); refine hK _ ?_; clear K hK) | refine TS.imp ?_))
  refine Tr.cond rfl (fun h4 => ?_) (fun h4 => ?_)
  · (repeat (first | (refine TR.imp ?_; intro K hK; simp only [go_sem, hP, hn]; (repeat refine vc ?_); refine hK _ ?_; clear K hK) | refine TS.imp ?_))
    simp only [RetQ, go_sem]
    have e : n.s4 = true := h4
    unfold Nd.sized; rw [e]; rfl
  replace h4 : n.s4 = false := h4
  (repeat (first | (refine TR.imp ?_; intro K hK; simp only [go_sem, hP, hn]; (repeat refine vc ?_); refine hK _ ?_; clear K hK) | refine TS.imp ?_))
  refine TR.imp ?_; intro K hK; simp only [go_sem, hP, hn]; (repeat refine vc ?_); refine c1 (by rw [hP, hT]; exact in_r Tm n.step 1 4) rfl rfl rfl trivial (by simp only [go_sem, hP, hn]; try trivial) (by simp only [go_sem, hP, hn]; try rfl) (by rw [hn]; decide) (by rfl) ?_; simp only [go_sem, hP, hn]; (repeat refine vc ?_); refine hK _ ?_; clear K hK
  (repeat (first | (refine TR.imp ?_; intro K hK; simp only [go_sem, hP, hn]; (repeat refine vc ?_); refine hK _ ?_; clear K hK) | refine TS.imp ?_))
  refine TR.imp ?_; intro K hK; simp only [go_sem, hP, hn]; (repeat refine vc ?_); refine c1 (by rw [hP, hT]; exact in_r Tm n.gap 1 4) rfl rfl rfl trivial (by simp only [go_sem, hP, hn]; try trivial) (by simp only [go_sem, hP, hn]; try rfl) (by rw [hn]; decide) (by rfl) ?_; simp only [go_sem, hP, hn]; (repeat refine vc ?_); refine hK _ ?_; clear K hK
  (repeat (first | (refine TR.imp ?_; intro K hK; simp only [go_sem, hP, hn]; (repeat refine vc ?_); refine hK _ ?_; clear K hK) | refine TS.imp ?_))
  refine Tr.cond rfl (fun h8 => ?_) (fun h8 => ?_)
  · (repeat (first | (refine TR.imp ?_; intro K hK; simp only [go_sem, hP, hn]; (repeat refine vc ?_); refine hK _ ?_; clear K hK) | refine TS.imp ?_))
    simp only [RetQ, go_sem]
    have e : n.s8 = true := h8
    unfold Nd.sized; rw [h4, e]; rfl
  replace h8 : n.s8 = false := h8
  (repeat (first | (refine TR.imp ?_; intro K hK; simp only [go_sem, hP, hn]; (repeat refine vc ?_); refine hK _ ?_; clear K hK) | refine TS.imp ?_))
  refine d5 (.p true 0 (.p true 1 (.p true 2 (.p true 3 (.p true 4 (.p true 5 (.p true 6 (.p true 7 (.p true 8 (.alt 9 (.p false 10 (.p false 11 (.p false 12 (.p true 13 (.p true 14 (.p true 15 (.p false 16 (.p false 17 (.p true 18 (.p true 19 (.p true 20 (.alt 21 (.p false 22 (.p false 23 (.p false 24 .nil))) .nil)))))))))))) .nil)))))))))) [] (by rw [hP]; kernel_rfl) (by kernel_rfl) (by simp only [go_sem, hP, hn]; try simp) (by exact fun _ _ h => h) ?_; intro K hK; simp only [go_sem, hP, hn]; (repeat refine vc ?_); refine p2 (fun hg => by rw [hP, hT]; exact Span_r Tm n) rfl rfl rfl (fun hg => trivial) (fun hg => by clear hK; revert hg; simp only [go_sem, hP, hn]; first | trivial | omega | (simp; done) | (simp +contextual; done) | grind) (fun hg => by simp only [go_sem, hP, hn]; try rfl) (by rw [hn]; decide) (by rfl) ?_; simp only [go_sem, hP, hn]; (repeat refine vc ?_); refine p2 (fun hg => by rw [hP, hT]; exact Span_r Tm n) rfl rfl rfl (fun hg => trivial) (fun hg => by clear hK; revert hg; simp only [go_sem, hP, hn]; first | trivial | omega | (simp; done) | (simp +contextual; done) | grind) (fun hg => by simp only [go_sem, hP, hn]; try rfl) (by rw [hn]; decide) (by rfl) ?_; simp only [go_sem, hP, hn]; (repeat refine vc ?_); refine hK _ ?_; clear K hK
  refine Tr.cond rfl (fun h10 => ?_) (fun h10 => ?_)
  · (repeat (first | (refine TR.imp ?_; intro K hK; simp only [go_sem, hP, hn]; (repeat refine vc ?_); refine hK _ ?_; clear K hK) | refine TS.imp ?_))
    simp only [RetQ, go_sem]
    have e : n.s10 = true := h10
    unfold Nd.sized; rw [h4, h8, e]; rfl
  replace h10 : n.s10 = false := h10
  (repeat (first | (refine TR.imp ?_; intro K hK; simp only [go_sem, hP, hn]; (repeat refine vc ?_); refine hK _ ?_; clear K hK) | refine TS.imp ?_))
  refine TR.imp ?_; intro K hK; simp only [go_sem, hP, hn]; (repeat refine vc ?_); refine c1 (by rw [hP, hT]; exact in_r Tm n.wid 1 16) rfl rfl rfl trivial (by simp only [go_sem, hP, hn]; try trivial) (by simp only [go_sem, hP, hn]; try rfl) (by rw [hn]; decide) (by rfl) ?_; simp only [go_sem, hP, hn]; (repeat refine vc ?_); refine hK _ ?_; clear K hK
  (repeat (first | (refine TR.imp ?_; intro K hK; simp only [go_sem, hP, hn]; (repeat refine vc ?_); refine hK _ ?_; clear K hK) | refine TS.imp ?_))
  refine Tr.cond rfl (fun h13 => ?_) (fun h13 => ?_)
  · (repeat (first | (refine TR.imp ?_; intro K hK; simp only [go_sem, hP, hn]; (repeat refine vc ?_); refine hK _ ?_; clear K hK) | refine TS.imp ?_))
    simp only [RetQ, go_sem]
    have e : n.s13 = true := h13
    unfold Nd.sized; rw [h4, h8, h10, e]; rfl
  replace h13 : n.s13 = false := h13
  (repeat (first | (refine TR.imp ?_; intro K hK; simp only [go_sem, hP, hn]; (repeat refine vc ?_); refine hK _ ?_; clear K hK) | refine TS.imp ?_))
  refine Tr.le (Le.keep [1, 2, 92]) ?_; simp only [List.map_cons, List.map_nil, lk, Nat.reduceEqDiff, reduceIte]
  refine Tr.cond rfl (fun hw0 => ?_) (fun hw0 => ?_)
  · (repeat (first | (refine TR.imp ?_; intro K hK; simp only [go_sem, hP, hn]; (repeat refine vc ?_); refine hK _ ?_; clear K hK) | refine TS.imp ?_))
    refine Tr.cond rfl (fun h2 => ?_) (fun h2 => ?_)
    · (repeat (first | (refine TR.imp ?_; intro K hK; simp only [go_sem, hP, hn]; (repeat refine vc ?_); refine hK _ ?_; clear K hK) | refine TS.imp ?_))
      refine Tr.le (Le.keep [1, 2, 11]) ?_; simp only [List.map_cons, List.map_nil, lk, Nat.reduceEqDiff, reduceIte]
      refine TR.imp ?_; intro K hK; simp only [go_sem, hP, hn]; (repeat refine vc ?_); refine c1 (by rw [hP, hT]; exact all_r Tm n.ws (-128) 127 hw) rfl rfl rfl trivial (by simp only [go_sem, hP, hn]; try trivial) (by simp only [go_sem, hP, hn]; try rfl) (by rw [hn]; decide) (by rfl) ?_; simp only [go_sem, hP, hn]; (repeat refine vc ?_); refine hK _ ?_; clear K hK
      (repeat (first | (refine TR.imp ?_; intro K hK; simp only [go_sem, hP, hn]; (repeat refine vc ?_); refine hK _ ?_; clear K hK) | refine TS.imp ?_))
      refine TR.imp ?_; intro K hK; simp only [go_sem, hP, hn]; (repeat refine vc ?_); refine c1 (by rw [hP, hT]; exact all_r Tm n.bs (-16777216) 16777216 hs) rfl rfl rfl trivial (by simp only [go_sem, hP, hn]; try trivial) (by simp only [go_sem, hP, hn]; try rfl) (by rw [hn]; decide) (by rfl) ?_; simp only [go_sem, hP, hn]; (repeat refine vc ?_); refine hK _ ?_; clear K hK
      (repeat (first | (refine TR.imp ?_; intro K hK; simp only [go_sem, hP, hn]; (repeat refine vc ?_); refine hK _ ?_; clear K hK) | refine TS.imp ?_))
      refine d5 (.p true 0 (.p true 1 (.p true 2 (.p true 3 (.p true 4 (.alt 5 (.p false 6 (.p false 7 (.p true 8 (.p true 9 (.p true 10 (.p true 11 (.p true 12 (.p false 13 (.p false 14 (.p true 15 (.p true 16 (.p false 17 (.p false 18 (.p true 19 (.p true 20 (.p false 21 .nil)))))))))))))))) .nil)))))) [] (by rw [hP]; kernel_rfl) (by kernel_rfl) (by simp only [go_sem, hP, hn]; try simp) (by exact fun _ _ h => h) ?_; intro K hK; simp only [go_sem, hP, hn]; (repeat refine vc ?_); refine p1 (by rw [hP, hT]; exact weights_r Tm n v) rfl rfl rfl trivial (by simp only [go_sem, hP, hn]; try trivial) (by simp only [go_sem, hP, hn]; try rfl) (by rw [hn]; decide) (by rfl) ?_; simp only [go_sem, hP, hn]; (repeat refine vc ?_); refine hK _ ?_; clear K hK
      refine Tr.cond rfl (fun h21 => ?_) (fun h21 => ?_)
      · (repeat (first | (refine TR.imp ?_; intro K hK; simp only [go_sem, hP, hn]; (repeat refine vc ?_); refine hK _ ?_; clear K hK) | refine TS.imp ?_))
        simp only [RetQ, go_sem]
        have e : n.s21 v (v) = true := h21
        unfold Nd.sized; simp only [h4, h8, h10, h13, hw0, h2, e, if_true, Bool.false_eq_true, if_false]
      · (repeat (first | (refine TR.imp ?_; intro K hK; simp only [go_sem, hP, hn]; (repeat refine vc ?_); refine hK _ ?_; clear K hK) | refine TS.imp ?_))
        refine Tr.le (Le.keep [2]) ?_; simp only [List.map_cons, List.map_nil, lk, Nat.reduceEqDiff, reduceIte]
        refine TR.imp ?_; intro K hK; simp only [go_sem, hP, hn]; (repeat refine vc ?_); refine c1 (by rw [hP, hT]; exact in_r Tm n.mult 0 32767) rfl rfl rfl trivial (by simp only [go_sem, hP, hn]; try trivial) (by simp only [go_sem, hP, hn]; try rfl) (by rw [hn]; decide) (by rfl) ?_; simp only [go_sem, hP, hn]; (repeat refine vc ?_); refine hK _ ?_; clear K hK
        (repeat (first | (refine TR.imp ?_; intro K hK; simp only [go_sem, hP, hn]; (repeat refine vc ?_); refine hK _ ?_; clear K hK) | refine TS.imp ?_))
        refine TR.imp ?_; intro K hK; simp only [go_sem, hP, hn]; (repeat refine vc ?_); refine c1 (by rw [hP, hT]; exact in_r Tm n.shift 0 30) rfl rfl rfl trivial (by simp only [go_sem, hP, hn]; try trivial) (by simp only [go_sem, hP, hn]; try rfl) (by rw [hn]; decide) (by rfl) ?_; simp only [go_sem, hP, hn]; (repeat refine vc ?_); refine hK _ ?_; clear K hK
        (repeat (first | (refine TR.imp ?_; intro K hK; simp only [go_sem, hP, hn]; (repeat refine vc ?_); refine hK _ ?_; clear K hK) | refine TS.imp ?_))
        refine TR.imp ?_; intro K hK; simp only [go_sem, hP, hn]; (repeat refine vc ?_); refine c1 (by rw [hP, hT]; exact in_r Tm n.low (-2147483648) 2147483647) rfl rfl rfl trivial (by simp only [go_sem, hP, hn]; try trivial) (by simp only [go_sem, hP, hn]; try rfl) (by rw [hn]; decide) (by rfl) ?_; simp only [go_sem, hP, hn]; (repeat refine vc ?_); refine hK _ ?_; clear K hK
        (repeat (first | (refine TR.imp ?_; intro K hK; simp only [go_sem, hP, hn]; (repeat refine vc ?_); refine hK _ ?_; clear K hK) | refine TS.imp ?_))
        refine TR.imp ?_; intro K hK; simp only [go_sem, hP, hn]; (repeat refine vc ?_); refine c1 (by rw [hP, hT]; exact in_r Tm n.high (-2147483648) 2147483647) rfl rfl rfl trivial (by simp only [go_sem, hP, hn]; try trivial) (by simp only [go_sem, hP, hn]; try rfl) (by rw [hn]; decide) (by rfl) ?_; simp only [go_sem, hP, hn]; (repeat refine vc ?_); refine hK _ ?_; clear K hK
        (repeat (first | (refine TR.imp ?_; intro K hK; simp only [go_sem, hP, hn]; (repeat refine vc ?_); refine hK _ ?_; clear K hK) | refine TS.imp ?_))
        simp only [RetQ, go_sem]
        have e : n.s27 = (inB n.mult 0 32767 && inB n.shift 0 30 && inB n.low (-2147483648) 2147483647 && inB n.high (-2147483648) 2147483647 && decide (n.low ≤ n.high)) := rfl
        have e1 : n.s21 v (v) = false := h21
        unfold Nd.sized; simp only [h4, h8, h10, h13, hw0, h2, e1, e, if_true, Bool.false_eq_true, if_false]
    · (repeat (first | (refine TR.imp ?_; intro K hK; simp only [go_sem, hP, hn]; (repeat refine vc ?_); refine hK _ ?_; clear K hK) | refine TS.imp ?_))
      refine Tr.le (Le.keep [1, 2, 11]) ?_; simp only [List.map_cons, List.map_nil, lk, Nat.reduceEqDiff, reduceIte]
      refine TR.imp ?_; intro K hK; simp only [go_sem, hP, hn]; (repeat refine vc ?_); refine c1 (by rw [hP, hT]; exact all_r Tm n.ws (-128) 127 hw) rfl rfl rfl trivial (by simp only [go_sem, hP, hn]; try trivial) (by simp only [go_sem, hP, hn]; try rfl) (by rw [hn]; decide) (by rfl) ?_; simp only [go_sem, hP, hn]; (repeat refine vc ?_); refine hK _ ?_; clear K hK
      (repeat (first | (refine TR.imp ?_; intro K hK; simp only [go_sem, hP, hn]; (repeat refine vc ?_); refine hK _ ?_; clear K hK) | refine TS.imp ?_))
      refine TR.imp ?_; intro K hK; simp only [go_sem, hP, hn]; (repeat refine vc ?_); refine c1 (by rw [hP, hT]; exact all_r Tm n.bs (-16777216) 16777216 hs) rfl rfl rfl trivial (by simp only [go_sem, hP, hn]; try trivial) (by simp only [go_sem, hP, hn]; try rfl) (by rw [hn]; decide) (by rfl) ?_; simp only [go_sem, hP, hn]; (repeat refine vc ?_); refine hK _ ?_; clear K hK
      (repeat (first | (refine TR.imp ?_; intro K hK; simp only [go_sem, hP, hn]; (repeat refine vc ?_); refine hK _ ?_; clear K hK) | refine TS.imp ?_))
      refine d5 (.p true 0 (.p true 1 (.p true 2 (.p true 3 (.p true 4 (.alt 5 (.p false 6 (.p false 7 (.p true 8 (.p true 9 (.p true 10 (.p true 11 (.p true 12 (.p false 13 (.p false 14 (.p true 15 (.p true 16 (.p false 17 (.p false 18 (.p true 19 (.p true 20 (.p false 21 .nil)))))))))))))))) .nil)))))) [] (by rw [hP]; kernel_rfl) (by kernel_rfl) (by simp only [go_sem, hP, hn]; try simp) (by exact fun _ _ h => h) ?_; intro K hK; simp only [go_sem, hP, hn]; (repeat refine vc ?_); refine p1 (by rw [hP, hT]; exact weights_r Tm n v) rfl rfl rfl trivial (by simp only [go_sem, hP, hn]; try trivial) (by simp only [go_sem, hP, hn]; try rfl) (by rw [hn]; decide) (by rfl) ?_; simp only [go_sem, hP, hn]; (repeat refine vc ?_); refine hK _ ?_; clear K hK
      refine Tr.cond rfl (fun h21 => ?_) (fun h21 => ?_)
      · (repeat (first | (refine TR.imp ?_; intro K hK; simp only [go_sem, hP, hn]; (repeat refine vc ?_); refine hK _ ?_; clear K hK) | refine TS.imp ?_))
        simp only [RetQ, go_sem]
        have e : n.s21 v (n.wid) = true := h21
        unfold Nd.sized; simp only [h4, h8, h10, h13, hw0, h2, e, if_true, Bool.false_eq_true, if_false]
      · (repeat (first | (refine TR.imp ?_; intro K hK; simp only [go_sem, hP, hn]; (repeat refine vc ?_); refine hK _ ?_; clear K hK) | refine TS.imp ?_))
        refine Tr.le (Le.keep [2]) ?_; simp only [List.map_cons, List.map_nil, lk, Nat.reduceEqDiff, reduceIte]
        refine TR.imp ?_; intro K hK; simp only [go_sem, hP, hn]; (repeat refine vc ?_); refine c1 (by rw [hP, hT]; exact in_r Tm n.mult 0 32767) rfl rfl rfl trivial (by simp only [go_sem, hP, hn]; try trivial) (by simp only [go_sem, hP, hn]; try rfl) (by rw [hn]; decide) (by rfl) ?_; simp only [go_sem, hP, hn]; (repeat refine vc ?_); refine hK _ ?_; clear K hK
        (repeat (first | (refine TR.imp ?_; intro K hK; simp only [go_sem, hP, hn]; (repeat refine vc ?_); refine hK _ ?_; clear K hK) | refine TS.imp ?_))
        refine TR.imp ?_; intro K hK; simp only [go_sem, hP, hn]; (repeat refine vc ?_); refine c1 (by rw [hP, hT]; exact in_r Tm n.shift 0 30) rfl rfl rfl trivial (by simp only [go_sem, hP, hn]; try trivial) (by simp only [go_sem, hP, hn]; try rfl) (by rw [hn]; decide) (by rfl) ?_; simp only [go_sem, hP, hn]; (repeat refine vc ?_); refine hK _ ?_; clear K hK
        (repeat (first | (refine TR.imp ?_; intro K hK; simp only [go_sem, hP, hn]; (repeat refine vc ?_); refine hK _ ?_; clear K hK) | refine TS.imp ?_))
        refine TR.imp ?_; intro K hK; simp only [go_sem, hP, hn]; (repeat refine vc ?_); refine c1 (by rw [hP, hT]; exact in_r Tm n.low (-2147483648) 2147483647) rfl rfl rfl trivial (by simp only [go_sem, hP, hn]; try trivial) (by simp only [go_sem, hP, hn]; try rfl) (by rw [hn]; decide) (by rfl) ?_; simp only [go_sem, hP, hn]; (repeat refine vc ?_); refine hK _ ?_; clear K hK
        (repeat (first | (refine TR.imp ?_; intro K hK; simp only [go_sem, hP, hn]; (repeat refine vc ?_); refine hK _ ?_; clear K hK) | refine TS.imp ?_))
        refine TR.imp ?_; intro K hK; simp only [go_sem, hP, hn]; (repeat refine vc ?_); refine c1 (by rw [hP, hT]; exact in_r Tm n.high (-2147483648) 2147483647) rfl rfl rfl trivial (by simp only [go_sem, hP, hn]; try trivial) (by simp only [go_sem, hP, hn]; try rfl) (by rw [hn]; decide) (by rfl) ?_; simp only [go_sem, hP, hn]; (repeat refine vc ?_); refine hK _ ?_; clear K hK
        (repeat (first | (refine TR.imp ?_; intro K hK; simp only [go_sem, hP, hn]; (repeat refine vc ?_); refine hK _ ?_; clear K hK) | refine TS.imp ?_))
        simp only [RetQ, go_sem]
        have e : n.s27 = (inB n.mult 0 32767 && inB n.shift 0 30 && inB n.low (-2147483648) 2147483647 && inB n.high (-2147483648) 2147483647 && decide (n.low ≤ n.high)) := rfl
        have e1 : n.s21 v (n.wid) = false := h21
        unfold Nd.sized; simp only [h4, h8, h10, h13, hw0, h2, e1, e, if_true, Bool.false_eq_true, if_false]
  · (repeat (first | (refine TR.imp ?_; intro K hK; simp only [go_sem, hP, hn]; (repeat refine vc ?_); refine hK _ ?_; clear K hK) | refine TS.imp ?_))
    refine Tr.le (Le.keep [2]) ?_; simp only [List.map_cons, List.map_nil, lk, Nat.reduceEqDiff, reduceIte]
    refine TR.imp ?_; intro K hK; simp only [go_sem, hP, hn]; (repeat refine vc ?_); refine c1 (by rw [hP, hT]; exact in_r Tm n.mult 0 32767) rfl rfl rfl trivial (by simp only [go_sem, hP, hn]; try trivial) (by simp only [go_sem, hP, hn]; try rfl) (by rw [hn]; decide) (by rfl) ?_; simp only [go_sem, hP, hn]; (repeat refine vc ?_); refine hK _ ?_; clear K hK
    (repeat (first | (refine TR.imp ?_; intro K hK; simp only [go_sem, hP, hn]; (repeat refine vc ?_); refine hK _ ?_; clear K hK) | refine TS.imp ?_))
    refine TR.imp ?_; intro K hK; simp only [go_sem, hP, hn]; (repeat refine vc ?_); refine c1 (by rw [hP, hT]; exact in_r Tm n.shift 0 30) rfl rfl rfl trivial (by simp only [go_sem, hP, hn]; try trivial) (by simp only [go_sem, hP, hn]; try rfl) (by rw [hn]; decide) (by rfl) ?_; simp only [go_sem, hP, hn]; (repeat refine vc ?_); refine hK _ ?_; clear K hK
    (repeat (first | (refine TR.imp ?_; intro K hK; simp only [go_sem, hP, hn]; (repeat refine vc ?_); refine hK _ ?_; clear K hK) | refine TS.imp ?_))
    refine TR.imp ?_; intro K hK; simp only [go_sem, hP, hn]; (repeat refine vc ?_); refine c1 (by rw [hP, hT]; exact in_r Tm n.low (-2147483648) 2147483647) rfl rfl rfl trivial (by simp only [go_sem, hP, hn]; try trivial) (by simp only [go_sem, hP, hn]; try rfl) (by rw [hn]; decide) (by rfl) ?_; simp only [go_sem, hP, hn]; (repeat refine vc ?_); refine hK _ ?_; clear K hK
    (repeat (first | (refine TR.imp ?_; intro K hK; simp only [go_sem, hP, hn]; (repeat refine vc ?_); refine hK _ ?_; clear K hK) | refine TS.imp ?_))
    refine TR.imp ?_; intro K hK; simp only [go_sem, hP, hn]; (repeat refine vc ?_); refine c1 (by rw [hP, hT]; exact in_r Tm n.high (-2147483648) 2147483647) rfl rfl rfl trivial (by simp only [go_sem, hP, hn]; try trivial) (by simp only [go_sem, hP, hn]; try rfl) (by rw [hn]; decide) (by rfl) ?_; simp only [go_sem, hP, hn]; (repeat refine vc ?_); refine hK _ ?_; clear K hK
    (repeat (first | (refine TR.imp ?_; intro K hK; simp only [go_sem, hP, hn]; (repeat refine vc ?_); refine hK _ ?_; clear K hK) | refine TS.imp ?_))
    simp only [RetQ, go_sem]
    have e : n.s27 = (inB n.mult 0 32767 && inB n.shift 0 30 && inB n.low (-2147483648) 2147483647 && inB n.high (-2147483648) 2147483647 && decide (n.low ≤ n.high)) := rfl
    unfold Nd.sized; simp only [h4, h8, h10, h13, hw0, e, Bool.false_eq_true, if_false]
theorem Check_r {T : World → Prop} (Tm : TP T) (n : Nd) (l : List Int) (hw : n.ws.length ≤ 65536) (hs : n.bs.length ≤ 65536) (hl : l.length ≤ 65536) (hi : n.inn.length ≤ 65536) : Ct Go.Proofs.Tryz.prog T 39 [.agg n.cs, .d (.row [.i .i64 0] (l.map intC))] true (fun r => r = .d (.i .i64 (n.rchk l))) := by
  refine Ct_of Tm Go.Proofs.Tryz.func39 rfl rfl Go.Proofs.Tryz.ntmps39 (by simp) (rs := [.tmp 4]) rfl fun E hP hn hT => ?_
  (repeat (first | (refine TR.imp ?_; intro K hK; simp only [go_sem, hP, hn]; (repeat refine vc ?_); refine hK _ ?_; clear K hK) | refine TS.imp ?_))
  refine TR.imp ?_; intro K hK; simp only [go_sem, hP, hn]; (repeat refine vc ?_); refine c1 (by rw [hP, hT]; exact all_r Tm l 1 16 hl) rfl rfl rfl trivial (by simp only [go_sem, hP, hn]; try trivial) (by simp only [go_sem, hP, hn]; try rfl) (by rw [hn]; decide) (by rfl) ?_; simp only [go_sem, hP, hn]; (repeat refine vc ?_); refine hK _ ?_; clear K hK
  (repeat (first | (refine TR.imp ?_; intro K hK; simp only [go_sem, hP, hn]; (repeat refine vc ?_); refine hK _ ?_; clear K hK) | refine TS.imp ?_))
  refine Tr.cond rfl (fun h1 => ?_) (fun h1 => ?_)
  · (repeat (first | (refine TR.imp ?_; intro K hK; simp only [go_sem, hP, hn]; (repeat refine vc ?_); refine hK _ ?_; clear K hK) | refine TS.imp ?_))
    simp only [RetQ, go_sem]
    have e : n.chk1 l = true := h1
    unfold Nd.rchk; rw [e]; rfl
  replace h1 : n.chk1 l = false := h1
  (repeat (first | (refine TR.imp ?_; intro K hK; simp only [go_sem, hP, hn]; (repeat refine vc ?_); refine hK _ ?_; clear K hK) | refine TS.imp ?_))
  refine TR.imp ?_; intro K hK; simp only [go_sem, hP, hn]; (repeat refine vc ?_); refine c1 (by rw [hP, hT]; exact in_r Tm n.k 1 12) rfl rfl rfl trivial (by simp only [go_sem, hP, hn]; try trivial) (by simp only [go_sem, hP, hn]; try rfl) (by rw [hn]; decide) (by rfl) ?_; simp only [go_sem, hP, hn]; (repeat refine vc ?_); refine hK _ ?_; clear K hK
  (repeat (first | (refine TR.imp ?_; intro K hK; simp only [go_sem, hP, hn]; (repeat refine vc ?_); refine hK _ ?_; clear K hK) | refine TS.imp ?_))
  refine TR.imp ?_; intro K hK; simp only [go_sem, hP, hn]; (repeat refine vc ?_); refine c1 (by rw [hP, hT]; exact Many_r Tm n.k) rfl rfl rfl trivial (by simp only [go_sem, hP, hn]; try trivial) (by simp only [go_sem, hP, hn]; try rfl) (by rw [hn]; decide) (by rfl) ?_; simp only [go_sem, hP, hn]; (repeat refine vc ?_); refine hK _ ?_; clear K hK
  (repeat (first | (refine TR.imp ?_; intro K hK; simp only [go_sem, hP, hn]; (repeat refine vc ?_); refine hK _ ?_; clear K hK) | refine TS.imp ?_))
  refine TR.imp ?_; intro K hK; simp only [go_sem, hP, hn]; (repeat refine vc ?_); refine c1 (by rw [hP, hT]; exact weighs_r Tm n.k) rfl rfl rfl trivial (by simp only [go_sem, hP, hn]; try trivial) (by simp only [go_sem, hP, hn]; try rfl) (by rw [hn]; decide) (by rfl) ?_; simp only [go_sem, hP, hn]; (repeat refine vc ?_); refine hK _ ?_; clear K hK
  (repeat (first | (refine TR.imp ?_; intro K hK; simp only [go_sem, hP, hn]; (repeat refine vc ?_); refine hK _ ?_; clear K hK) | refine TS.imp ?_))
  refine Tr.cond rfl (fun h7 => ?_) (fun h7 => ?_)
  · (repeat (first | (refine TR.imp ?_; intro K hK; simp only [go_sem, hP, hn]; (repeat refine vc ?_); refine hK _ ?_; clear K hK) | refine TS.imp ?_))
    simp only [RetQ, go_sem]
    have e : n.r7 l = true := h7
    unfold Nd.rchk; rw [h1, e]; rfl
  replace h7 : n.r7 l = false := h7
  (repeat (first | (refine TR.imp ?_; intro K hK; simp only [go_sem, hP, hn]; (repeat refine vc ?_); refine hK _ ?_; clear K hK) | refine TS.imp ?_))
  refine Tr.cond rfl (fun h9 => ?_) (fun h9 => ?_)
  · (repeat (first | (refine TR.imp ?_; intro K hK; simp only [go_sem, hP, hn]; (repeat refine vc ?_); refine hK _ ?_; clear K hK) | refine TS.imp ?_))
    simp only [RetQ, go_sem]
    have e : n.r9 = true := h9
    unfold Nd.rchk; rw [h1, h7, e]; rfl
  replace h9 : n.r9 = false := h9
  (repeat (first | (refine TR.imp ?_; intro K hK; simp only [go_sem, hP, hn]; (repeat refine vc ?_); refine hK _ ?_; clear K hK) | refine TS.imp ?_))
  refine Tr.le (Le.keep [1, 2]) ?_; simp only [List.map_cons, List.map_nil, lk, Nat.reduceEqDiff, reduceIte]
  refine TR.imp ?_; intro K hK; simp only [go_sem, hP, hn]; (repeat refine vc ?_); refine c1 (by rw [hP, hT]; exact else0_r Tm n) rfl rfl rfl trivial (by simp only [go_sem, hP, hn]; try trivial) (by simp only [go_sem, hP, hn]; try rfl) (by rw [hn]; decide) (by rfl) ?_; simp only [go_sem, hP, hn]; (repeat refine vc ?_); refine hK _ ?_; clear K hK
  (repeat (first | (refine TR.imp ?_; intro K hK; simp only [go_sem, hP, hn]; (repeat refine vc ?_); refine hK _ ?_; clear K hK) | refine TS.imp ?_))
  refine Tr.cond rfl (fun he => ?_) (fun he => ?_)
  · (repeat (first | (refine TR.imp ?_; intro K hK; simp only [go_sem, hP, hn]; (repeat refine vc ?_); refine hK _ ?_; clear K hK) | refine TS.imp ?_))
    simp only [RetQ, go_sem]
    unfold Nd.rchk; rw [h1, h7, h9, he]; rfl
  have hne : 0 < l.length := List.length_pos_iff.2 fun e => by subst e; rw [Nd.r7_nil] at h7; cases h7
  (repeat (first | (refine TR.imp ?_; intro K hK; simp only [go_sem, hP, hn]; (repeat refine vc ?_); refine hK _ ?_; clear K hK) | refine TS.imp ?_))
  refine d5 (.p true 0 (.p true 1 (.p true 2 (.p true 3 (.alt 4 (.p false 5 .nil) .nil))))) [] (by rw [hP]; kernel_rfl) (by kernel_rfl) (by simp only [go_sem, hP, hn]; try simp) (by exact fun _ _ h => h) ?_; intro K hK; simp only [go_sem, hP, hn]; (repeat refine vc ?_); refine p1 (by rw [hP, hT]; exact sized_r Tm n (rd l 0) hw hs) rfl rfl rfl trivial (by simp only [go_sem, hP, hn]; try trivial) (by simp only [go_sem, hP, hn]; try rfl) (by rw [hn]; decide) (by rfl) ?_; simp only [go_sem, hP, hn]; (repeat refine vc ?_); refine hK _ ?_; clear K hK
  (repeat (first | (refine TR.imp ?_; intro K hK; simp only [go_sem, hP, hn]; (repeat refine vc ?_); refine hK _ ?_; clear K hK) | refine TS.imp ?_))
  refine Tr.cond rfl (fun hz => ?_) (fun hz => ?_)
  · (repeat (first | (refine TR.imp ?_; intro K hK; simp only [go_sem, hP, hn]; (repeat refine vc ?_); refine hK _ ?_; clear K hK) | refine TS.imp ?_))
    simp only [RetQ, go_sem]
    unfold Nd.rchk; rw [h1, h7, h9, he, hz]; rfl
  (repeat (first | (refine TR.imp ?_; intro K hK; simp only [go_sem, hP, hn]; (repeat refine vc ?_); refine hK _ ?_; clear K hK) | refine TS.imp ?_))
  have e0 : n.rchk l = n.chkL (rd l 0) 0 l := by unfold Nd.rchk; rw [h1, h7, h9, he, hz]; rfl
  refine Tr.loop (fun m s => ∃ j s0 : Int, s = ⟨[(12, .d (.i .i64 j)), (1, .d (.row [.i .i64 0] (l.map intC))), (11, .d (.i .i64 s0)), (2, .ptr 2 0)], [(2, .box 50 n.cs)]⟩ ∧ 0 ≤ j ∧ j + m = l.length ∧ n.rchk l = n.chkL (rd l 0) s0 (l.drop j.toNat)) l.length ⟨_, (Le.mv (by simp only [go_sem, hP, hn]; first | done | (simp; done) | (simp [intC]; done) | (repeat (first | rfl | constructor))) (by simp only [go_sem, hP, hn]; first | done | (simp; done) | (simp [intC]; done) | (repeat (first | rfl | constructor)))), 0, 0, rfl, by omega, by omega, by simpa using e0⟩ ?_
  rintro m s ⟨j, s0, rfl, h0, hm, hc⟩
  (repeat (first | (refine TR.imp ?_; intro K hK; simp only [go_sem, hP, hn]; (repeat refine vc ?_); refine hK _ ?_; clear K hK) | refine TS.imp ?_))
  refine Tr.cond rfl (fun hb => ?_) (fun hb => ?_)
  · have hj : j < l.length := by simpa using hb
    rw [drop_rd h0 hj] at hc
    (repeat (first | (refine TR.imp ?_; intro K hK; simp only [go_sem, hP, hn]; (repeat refine vc ?_); refine hK _ ?_; clear K hK) | refine TS.imp ?_))
    refine d5 (.p true 0 (.p true 1 (.p true 2 (.p true 3 (.p true 4 (.p true 5 (.p true 6 (.p true 7 (.p true 8 (.p true 9 (.p true 10 (.p true 11 (.p true 12 .nil))))))))))))) [] (by rw [hP]; kernel_rfl) (by kernel_rfl) (by simp only [go_sem, hP, hn]; try simp) (by exact fun _ _ h => h) ?_; intro K hK; simp only [go_sem, hP, hn]; (repeat refine vc ?_); refine hK _ ?_; clear K hK
    refine Tr.cond rfl (fun hd => ?_) (fun hd => ?_)
    · (repeat (first | (refine TR.imp ?_; intro K hK; simp only [go_sem, hP, hn]; (repeat refine vc ?_); refine hK _ ?_; clear K hK) | refine TS.imp ?_))
      simp only [RetQ, go_sem]
      rw [hc]; unfold Nd.chkL; rw [if_pos hd]
    · (repeat (first | (refine TR.imp ?_; intro K hK; simp only [go_sem, hP, hn]; (repeat refine vc ?_); refine hK _ ?_; clear K hK) | refine TS.imp ?_))
      rw [w64 (x := j + 1) (by omega) (by omega)]
      refine ⟨m - 1, _, by omega, ?_, j + 1, wrap64 (s0 + rd l j), rfl, by omega, by omega, ?_⟩
      · exact (Le.mv (by simp only [go_sem, hP, hn]; first | done | (simp; done) | (simp [intC]; done) | (repeat (first | rfl | constructor))) (by simp only [go_sem, hP, hn]; first | done | (simp; done) | (simp [intC]; done) | (repeat (first | rfl | constructor))))
      rw [hc, show (j + 1).toNat = j.toNat + 1 by omega]; conv => lhs; unfold Nd.chkL
      rw [if_neg (by rw [hd]; decide)]
  · rw [drop_end (by simpa using hb)] at hc
    (repeat (first | (refine TR.imp ?_; intro K hK; simp only [go_sem, hP, hn]; (repeat refine vc ?_); refine hK _ ?_; clear K hK) | refine TS.imp ?_))
    refine Tr.cond rfl (fun hd => ?_) (fun hd => ?_)
    · (repeat (first | (refine TR.imp ?_; intro K hK; simp only [go_sem, hP, hn]; (repeat refine vc ?_); refine hK _ ?_; clear K hK) | refine TS.imp ?_))
      simp only [RetQ, go_sem]
      rw [hc]; unfold Nd.chkL; rw [if_pos hd]
    · (repeat (first | (refine TR.imp ?_; intro K hK; simp only [go_sem, hP, hn]; (repeat refine vc ?_); refine hK _ ?_; clear K hK) | refine TS.imp ?_))
      simp only [RetQ, go_sem]
      rw [hc]; unfold Nd.chkL; rw [if_neg (by rw [hd]; decide)]
theorem Width_r {T : World → Prop} (Tm : TP T) (n : Nd) (l : List Int) (hw : n.ws.length ≤ 65536) (hs : n.bs.length ≤ 65536) (hl : l.length ≤ 65536) (hi : n.inn.length ≤ 65536) : Ct Go.Proofs.Tryz.prog T 40 [.agg n.cs, .d (.row [.i .i64 0] (l.map intC))] true (fun r => r = .d (.i .i64 (n.rwide l))) := by
  refine Ct_of Tm Go.Proofs.Tryz.func40 rfl rfl Go.Proofs.Tryz.ntmps40 (by simp) (rs := [.tmp 4]) rfl fun E hP hn hT => ?_
  (repeat (first | (refine TR.imp ?_; intro K hK; simp only [go_sem, hP, hn]; (repeat refine vc ?_); refine hK _ ?_; clear K hK) | refine TS.imp ?_))
  refine TR.imp ?_; intro K hK; simp only [go_sem, hP, hn]; (repeat refine vc ?_); refine c1 (by rw [hP, hT]; exact Check_r Tm n l hw hs hl hi) rfl rfl rfl trivial (by simp only [go_sem, hP, hn]; try trivial) (by simp only [go_sem, hP, hn]; try rfl) (by rw [hn]; decide) (by rfl) ?_; simp only [go_sem, hP, hn]; (repeat refine vc ?_); refine hK _ ?_; clear K hK
  refine Tr.cond rfl (fun h1 => ?_) (fun h1 => ?_)
  · (repeat (first | (refine TR.imp ?_; intro K hK; simp only [go_sem, hP, hn]; (repeat refine vc ?_); refine hK _ ?_; clear K hK) | refine TS.imp ?_))
    simp only [RetQ, go_sem]
    unfold Nd.rwide; rw [h1]; rfl
  have hne : 0 < l.length := List.length_pos_iff.2 fun e => by subst e; rw [← chk_eq] at h1; exact n.chk_ne (by simpa using h1)
  (repeat (first | (refine TR.imp ?_; intro K hK; simp only [go_sem, hP, hn]; (repeat refine vc ?_); refine hK _ ?_; clear K hK) | refine TS.imp ?_))
  refine Tr.cond rfl (fun h2 => ?_) (fun h2 => ?_)
  · (repeat (first | (refine TR.imp ?_; intro K hK; simp only [go_sem, hP, hn]; (repeat refine vc ?_); refine hK _ ?_; clear K hK) | refine TS.imp ?_))
    simp only [RetQ, go_sem]
    unfold Nd.rwide; rw [h1, h2]; rfl
  (repeat (first | (refine TR.imp ?_; intro K hK; simp only [go_sem, hP, hn]; (repeat refine vc ?_); refine hK _ ?_; clear K hK) | refine TS.imp ?_))
  refine Tr.cond rfl (fun h3 => ?_) (fun h3 => ?_)
  · (repeat (first | (refine TR.imp ?_; intro K hK; simp only [go_sem, hP, hn]; (repeat refine vc ?_); refine hK _ ?_; clear K hK) | refine TS.imp ?_))
    simp only [RetQ, go_sem]
    unfold Nd.rwide; rw [h1, h2, h3]; rfl
  (repeat (first | (refine TR.imp ?_; intro K hK; simp only [go_sem, hP, hn]; (repeat refine vc ?_); refine hK _ ?_; clear K hK) | refine TS.imp ?_))
  refine Tr.cond rfl (fun h4 => ?_) (fun h4 => ?_)
  · (repeat (first | (refine TR.imp ?_; intro K hK; simp only [go_sem, hP, hn]; (repeat refine vc ?_); refine hK _ ?_; clear K hK) | refine TS.imp ?_))
    simp only [RetQ, go_sem]
    unfold Nd.rwide; rw [h1, h2, h3, h4]; rfl
  · (repeat (first | (refine TR.imp ?_; intro K hK; simp only [go_sem, hP, hn]; (repeat refine vc ?_); refine hK _ ?_; clear K hK) | refine TS.imp ?_))
    have e0 : n.rwide l = sumL 0 l := by unfold Nd.rwide; rw [h1, h2, h3, h4]; rfl
    refine Tr.loop (fun m s => ∃ j s0 : Int, s = ⟨[(6, .d (.i .i64 j)), (1, .d (.row [.i .i64 0] (l.map intC))), (5, .d (.i .i64 s0))], []⟩ ∧ 0 ≤ j ∧ j + m = l.length ∧ n.rwide l = sumL s0 (l.drop j.toNat)) l.length ⟨_, (Le.mv (by simp only [go_sem, hP, hn]; first | done | (simp; done) | (simp [intC]; done) | (repeat (first | rfl | constructor))) (by simp only [go_sem, hP, hn]; first | done | (simp; done) | (simp [intC]; done) | (repeat (first | rfl | constructor)))), 0, 0, rfl, by omega, by omega, by simpa using e0⟩ ?_
    rintro m s ⟨j, s0, rfl, h0, hm, hc⟩
    (repeat (first | (refine TR.imp ?_; intro K hK; simp only [go_sem, hP, hn]; (repeat refine vc ?_); refine hK _ ?_; clear K hK) | refine TS.imp ?_))
    refine Tr.cond rfl (fun hb => ?_) (fun hb => ?_)
    · have hj : j < l.length := by simpa using hb
      rw [drop_rd h0 hj] at hc
      (repeat (first | (refine TR.imp ?_; intro K hK; simp only [go_sem, hP, hn]; (repeat refine vc ?_); refine hK _ ?_; clear K hK) | refine TS.imp ?_))
      rw [w64 (x := j + 1) (by omega) (by omega)]
      refine ⟨m - 1, _, by omega, ?_, j + 1, wrap64 (s0 + rd l j), rfl, by omega, by omega, ?_⟩
      · exact (Le.mv (by simp only [go_sem, hP, hn]; first | done | (simp; done) | (simp [intC]; done) | (repeat (first | rfl | constructor))) (by simp only [go_sem, hP, hn]; first | done | (simp; done) | (simp [intC]; done) | (repeat (first | rfl | constructor))))
      rw [hc, show (j + 1).toNat = j.toNat + 1 by omega]; rfl
    · rw [drop_end (by simpa using hb)] at hc
      (repeat (first | (refine TR.imp ?_; intro K hK; simp only [go_sem, hP, hn]; (repeat refine vc ?_); refine hK _ ?_; clear K hK) | refine TS.imp ?_))
      simp only [RetQ, go_sem]
      rw [hc]; rfl


theorem rSpan_win (n : Nd) (sz gp : Int) (h : rFour n.k = true) (s0 : 1 ≤ sz) (s1 : sz ≤ 4) (g0 : 1 ≤ gp) (g1 : gp ≤ 3) (hs : n.size = sz) (hg : n.gap = gp) : 1 ≤ n.rSpan ∧ n.rSpan ≤ 10 := by
  have e1 : (n.k == 12) = false := four_ne _ h
  have e2 : rWin n.k = true := by rw [rWin_four, h]; rfl
  unfold Nd.rSpan
  rw [e1, e2, hs, hg]
  have hm := mul_le (sz - 1) 3 gp 3 (by omega) (by omega) (by omega) g1
  simp only [Bool.false_eq_true, if_false, Bool.not_true]
  rw [w64 (x := sz - 1) (by omega) (by omega), w64 (x := (sz - 1) * gp) (by omega) (by omega), w64 (by omega) (by omega)]
  omega
theorem window_c {T : World → Prop} (Tm : TP T) (l : List Int) (i : Int) (n : Nd) (hk : rFour n.k = true) (hl : l.length ≤ 4096) (h0 : 0 ≤ i) (h1 : i ≤ l.length) : C1 Go.Proofs.Tryz.prog T 97 1000 (rowO l i) [.ptr 1000 0, .agg n.cs] (fun r o => ∃ sz st gp lf rt j : Int, r = .agg (n.win sz st gp lf rt).cs ∧ o = rowO l j ∧ 1 ≤ sz ∧ sz ≤ 4 ∧ 1 ≤ st ∧ st ≤ 3 ∧ 1 ≤ gp ∧ gp ≤ 3 ∧ 0 ≤ lf ∧ lf < (n.win sz st gp lf rt).rSpan ∧ 0 ≤ rt ∧ rt < (n.win sz st gp lf rt).rSpan ∧ 0 ≤ j ∧ j ≤ l.length) := by
  refine Cg_of [1000] Tm Go.Proofs.Tryz.func97 rfl rfl Go.Proofs.Tryz.ntmps97 (by simp) rfl (rs := [.cell 4 50]) rfl fun E hP hn hT hpn => ?_
  (repeat (first | (refine TR.imp ?_; intro K hK; simp only [go_sem, hP, hn]; (repeat refine vc ?_); refine hK _ ?_; clear K hK) | refine TS.imp ?_))
  refine TR.imp ?_; intro K hK; simp only [go_sem, hP, hn]
  (repeat refine vc ?_)
  refine CallN_c1 (by rw [hP, hT]; exact Next_c Tm l i 4 hl h0 h1 (by decide) (by decide) ) rfl rfl rfl trivial (by simp only [go_sem, hP, hn]; try trivial) (by simp only [go_sem, hP, hn]; try rfl) (by simp only [go_sem, hP, hn]; try rfl) (by rw [hn]; decide) (fun r ob' hr => ?_); obtain  ⟨v1, j1, rfl, rfl, a1, a2, b1, b2⟩ := hr; simp only [go_sem, hP, hn]; (repeat refine vc ?_)
  refine hK _ ?_; clear K hK
  refine TR.imp ?_; intro K hK; simp only [go_sem, hP, hn]
  (repeat refine vc ?_)
  refine CallN_c1 (by rw [hP, hT]; exact Next_c Tm l j1 3 hl b1 b2 (by decide) (by decide) ) rfl rfl rfl trivial (by simp only [go_sem, hP, hn]; try trivial) (by simp only [go_sem, hP, hn]; try rfl) (by simp only [go_sem, hP, hn]; try rfl) (by rw [hn]; decide) (fun r ob' hr => ?_); obtain  ⟨v2, j2, rfl, rfl, q1, q2, b3, b4⟩ := hr; simp only [go_sem, hP, hn]; (repeat refine vc ?_)
  refine hK _ ?_; clear K hK
  refine TR.imp ?_; intro K hK; simp only [go_sem, hP, hn]
  (repeat refine vc ?_)
  refine CallN_c1 (by rw [hP, hT]; exact Next_c Tm l j2 3 hl b3 b4 (by decide) (by decide) ) rfl rfl rfl trivial (by simp only [go_sem, hP, hn]; try trivial) (by simp only [go_sem, hP, hn]; try rfl) (by simp only [go_sem, hP, hn]; try rfl) (by rw [hn]; decide) (fun r ob' hr => ?_); obtain  ⟨v3, j3, rfl, rfl, d1, d2, b5, b6⟩ := hr; simp only [go_sem, hP, hn]; (repeat refine vc ?_)
  refine hK _ ?_; clear K hK
  rw [w64 (x := 1 + v1) (by omega) (by omega), w64 (x := 1 + v2) (by omega) (by omega), w64 (x := 1 + v3) (by omega) (by omega)]
  have hsp := rSpan_win (n.win (1 + v1) (1 + v2) (1 + v3) n.left n.right) (1 + v1) (1 + v3) hk (by omega) (by omega) (by omega) (by omega) rfl rfl
  refine Tr.le (Le.keep [0, 1, 3, 4]) ?_; simp only [List.map_cons, List.map_nil, lk, Nat.reduceEqDiff, reduceIte]
  refine TR.imp ?_; intro K hK; simp only [go_sem, hP, hn]
  (repeat refine vc ?_)
  refine c1 (by rw [hP, hT]; exact Span_r Tm (n.win (1 + v1) (1 + v2) (1 + v3) n.left n.right)) rfl rfl rfl trivial (by simp only [go_sem, hP, hn]; try trivial) (by simp only [go_sem, hP, hn]; try rfl) (by rw [hn]; decide) (by rfl) ?_; simp only [go_sem, hP, hn]; (repeat refine vc ?_)
  refine CallN_c1 (by rw [hP, hT]; exact Next_c Tm l j3 (n.win (1 + v1) (1 + v2) (1 + v3) n.left n.right).rSpan hl b5 b6 (by omega) (by omega) ) rfl rfl rfl trivial (by simp only [go_sem, hP, hn]; try trivial) (by simp only [go_sem, hP, hn]; try rfl) (by simp only [go_sem, hP, hn]; try rfl) (by rw [hn]; decide) (fun r ob' hr => ?_); obtain  ⟨v4, j4, rfl, rfl, e1, e2, b7, b8⟩ := hr; simp only [go_sem, hP, hn]; (repeat refine vc ?_)
  refine hK _ ?_; clear K hK
  refine TR.imp ?_; intro K hK; simp only [go_sem, hP, hn]
  (repeat refine vc ?_)
  refine c1 (by rw [hP, hT]; exact Span_r Tm (n.win (1 + v1) (1 + v2) (1 + v3) v4 n.right)) rfl rfl rfl trivial (by simp only [go_sem, hP, hn]; try trivial) (by simp only [go_sem, hP, hn]; try rfl) (by rw [hn]; decide) (by rfl) ?_; simp only [go_sem, hP, hn]; (repeat refine vc ?_)
  refine CallN_c1 (by rw [hP, hT]; exact Next_c Tm l j4 (n.win (1 + v1) (1 + v2) (1 + v3) v4 n.right).rSpan hl b7 b8 (by have : (n.win (1 + v1) (1 + v2) (1 + v3) v4 n.right).rSpan = (n.win (1 + v1) (1 + v2) (1 + v3) n.left n.right).rSpan := rfl; omega) (by have : (n.win (1 + v1) (1 + v2) (1 + v3) v4 n.right).rSpan = (n.win (1 + v1) (1 + v2) (1 + v3) n.left n.right).rSpan := rfl; omega) ) rfl rfl rfl trivial (by simp only [go_sem, hP, hn]; try trivial) (by simp only [go_sem, hP, hn]; try rfl) (by simp only [go_sem, hP, hn]; try rfl) (by rw [hn]; decide) (fun r ob' hr => ?_); obtain  ⟨v5, j5, rfl, rfl, f1, f2, b9, b10⟩ := hr; simp only [go_sem, hP, hn]; (repeat refine vc ?_)
  refine hK _ ?_; clear K hK
  (repeat (first | (refine TR.imp ?_; intro K hK; simp only [go_sem, hP, hn]; (repeat refine vc ?_); refine hK _ ?_; clear K hK) | refine TS.imp ?_))
  simp only [RetG, go_sem]; (repeat with_reducible refine vc ?_)
  exact ⟨_, rfl, 1 + v1, 1 + v2, 1 + v3, v4, v5, j5, rfl, rfl, by omega, by omega, by omega, by omega, by omega, by omega, e1, e2, f1, f2, b9, b10⟩
section
theorem Next_p {T : World → Prop} (Tm : TP T) (l : List Int) (i n : Int) (hl : l.length ≤ 4096) (h0 : 0 ≤ i) (h1 : i ≤ l.length) (n0 : 0 < n) (n1 : n ≤ 1000000) : C1 Go.Proofs.Tryz.prog T 48 1000 (rowO l i) [.ptr 1000 0, .d (.i .i64 n)] (fun r o => ∃ x : Int × Int, r = .d (.i .i64 x.1) ∧ o = rowO l x.2 ∧ (0 ≤ x.1 ∧ x.1 < n) ∧ 0 ≤ x.2 ∧ x.2 ≤ l.length) :=
  (Next_c Tm l i n hl h0 h1 n0 n1).mono fun r H ⟨o, e, v, j, h1, h2, h3, h4, h5, h6⟩ => ⟨o, e, (v, j), h1, h2, ⟨h3, h4⟩, h5, h6⟩
def Z8 : List S := [.d (.i .i64 0), .d .nil, .d (.i .i64 0), .d (.i .i64 0), .d (.i .i64 0), .d (.i .i64 0), .d (.i .i64 0), .d (.i .i64 0), .d .nil, .d .nil, .d (.i .i64 0), .d (.i .i64 0), .d (.i .i64 0), .d (.i .i64 0), .d (.i .i64 0)]
attribute [local go_sem] Z8 intC
theorem guard_j {l : List Int} {i x j : Int} {g : Bool} {P : Prop} (h0 : 0 ≤ i) (h1 : i ≤ l.length) (hx : g = true → P ∧ 0 ≤ j ∧ j ≤ l.length) (hx' : g = false → (x, j) = (0, i)) : 0 ≤ j ∧ j ≤ l.length := by
  cases g with
  | true => exact (hx rfl).2
  | false => obtain ⟨_, rfl⟩ := Prod.mk.inj (hx' rfl); exact ⟨h0, h1⟩
theorem Made_c {T : World → Prop} (Tm : TP T) (l : List Int) (i : Int) (inn ws : List Int) (st : Bool) (hl : l.length ≤ 4096) (h0 : 0 ≤ i) (h1 : i ≤ l.length) (hio : (∃ a w, inn = [a] ∧ ws = [w]) ∨ ∃ a b v w, inn = [a, b] ∧ ws = [v, w]) (hws : ∀ x ∈ ws, 1 ≤ x ∧ x ≤ 16) : C1 Go.Proofs.Tryz.prog T 49 1000 (rowO l i) [.ptr 1000 0, .d (.row [.i .i64 0] (inn.map intC)), .d (.row [.i .i64 0] (ws.map intC)), .d (.b st)] (fun r o => ∃ (n : Nd) (j : Int), r = .agg n.cs ∧ o = rowO l j ∧ MadeN n inn ws st ∧ 0 ≤ j ∧ j ≤ l.length) := by
  have hlen : 0 < ws.length := by rcases hio with ⟨a, w, rfl, rfl⟩ | ⟨a, b, v, w, rfl, rfl⟩ <;> simp
  have hw0 : ∃ w, ws.take 1 = [w] ∧ rd ws 0 = w ∧ 1 ≤ w ∧ w ≤ 16 := by rcases hio with ⟨a, w, rfl, rfl⟩ | ⟨a, b, v, w, rfl, rfl⟩ <;> exact ⟨_, rfl, rfl, hws _ (by simp)⟩
  obtain ⟨w0, hw1, hw2, hw3⟩ := hw0
  refine Cg_of [1000] Tm Go.Proofs.Tryz.func49 rfl rfl Go.Proofs.Tryz.ntmps49 (by simp) rfl (rs := [.cell 8 50]) rfl fun E hP hn hT hpn => ?_
  (repeat (first | (refine TR.imp ?_; intro K hK; simp only [go_sem, hP, hn]; (repeat refine vc ?_); refine hK _ ?_; clear K hK) | refine TS.imp ?_))
  refine Tr.le (Le.keep [0, 1, 2, 3, 8, 9, 10, 23]) ?_; simp only [List.map_cons, List.map_nil, lk, Nat.reduceEqDiff, reduceIte]
  rw [hw2]
  refine Tr.le (Le.wbox 9 (Nd.mk 0 inn 0 0 0 0 0 0 [] [] 0 0 0 0 0).cs rfl (by simp [wk, Nd.cs])) ?_
  simp only [St.upd, dropH, Nat.reduceBEq, if_true, if_false, reduceIte, Bool.false_eq_true]
  refine Tr.meet (fun s => ∃ (k0 a j : Int), inn.take 1 = [a] ∧ s = ⟨[(0, .ptr 1000 0), (3, .d (.b st)), (8, .ptr 8 0), (9, .ptr 9 0), (10, .d (.i .i64 w0))], [(9, .box 50 (Nd.mk k0 [a] 0 0 0 0 0 0 [] [] 0 0 0 0 0).cs), (8, .box 50 Z8), (1000, rowO l j)]⟩ ∧ 0 ≤ j ∧ j ≤ l.length) ?_ ?_
  rotate_left
  · refine Tr.cond rfl (fun h2 => ?_) (fun h2 => ?_)
    · obtain ⟨a, b, v, w, rfl, rfl⟩ : ∃ a b v w, inn = [a, b] ∧ ws = [v, w] := by
        rcases hio with ⟨a, w, rfl, rfl⟩ | h
        · simp at h2
        · exact h
      have hv := hws v (by simp)
      have hw := hws w (by simp)
      obtain rfl : v = w0 := hw2
      (repeat (first | (refine TR.imp ?_; intro K hK; simp only [go_sem, hP, hn]; (repeat refine vc ?_); refine hK _ ?_; clear K hK) | refine TS.imp ?_))
      refine Tr.loop (fun m s => ∃ (j s0 : Int) (sm : Bool), s = ⟨[(13, .d (.i .i64 j)), (12, .d (.b sm)), (11, .d (.i .i64 s0)), (0, .ptr 1000 0), (1, .d (.row [.i .i64 0] ([a, b].map intC))), (2, .d (.row [.i .i64 0] ([v, w].map intC))), (3, .d (.b st)), (8, .ptr 8 0), (9, .ptr 9 0), (10, .d (.i .i64 v))], [(9, .box 50 (Nd.mk 8 [a, b] 0 0 0 0 0 0 [] [] 0 0 0 0 0).cs), (8, .box 50 Z8), (1000, rowO l i)]⟩ ∧ j + m = 2 ∧ ((j = 0 ∧ s0 = 0 ∧ sm = true) ∨ (j = 1 ∧ s0 = v ∧ sm = true) ∨ (j = 2 ∧ s0 = v + w ∧ sm = (w == v)))) 2 ⟨_, (Le.mv (by simp only [go_sem, hP, hn]; first | done | (simp; done) | (simp [intC]; done) | (repeat (first | rfl | constructor))) (by simp only [go_sem, hP, hn]; first | done | (simp; done) | (simp [intC]; done) | (repeat (first | rfl | constructor)))), 0, 0, true, rfl, rfl, .inl ⟨rfl, rfl, rfl⟩⟩ ?_
      rintro m s ⟨j, s0, sm, rfl, hm, (⟨rfl, rfl, rfl⟩ | ⟨rfl, rfl, rfl⟩ | ⟨rfl, rfl, rfl⟩)⟩
      · (repeat (first | (refine TR.imp ?_; intro K hK; simp only [go_sem, hP, hn]; (repeat refine vc ?_); refine hK _ ?_; clear K hK) | refine TS.imp ?_))
        refine Tr.cond rfl (fun hb => ?_) (fun hb => ?_)
        · (repeat (first | (refine TR.imp ?_; intro K hK; simp only [go_sem, hP, hn]; (repeat refine vc ?_); refine hK _ ?_; clear K hK) | refine TS.imp ?_))
          rw [w64 (x := 0 + v) (by omega) (by omega), w64 (x := 0 + 1) (by omega) (by omega), Int.zero_add]
          refine ⟨m - 1, _, by omega, ?_, 1, v, true, rfl, by omega, .inr (.inl ⟨rfl, rfl, rfl⟩)⟩
          exact (Le.mv (by simp only [go_sem, hP, hn]; first | done | (simp; done) | (simp [intC]; done) | (repeat (first | rfl | constructor))) (by simp only [go_sem, hP, hn]; first | done | (simp; done) | (simp [intC]; done) | (repeat (first | rfl | constructor))))
        · exact absurd hb (by decide)
      · (repeat (first | (refine TR.imp ?_; intro K hK; simp only [go_sem, hP, hn]; (repeat refine vc ?_); refine hK _ ?_; clear K hK) | refine TS.imp ?_))
        refine Tr.cond rfl (fun hb => ?_) (fun hb => ?_)
        · (repeat (first | (refine TR.imp ?_; intro K hK; simp only [go_sem, hP, hn]; (repeat refine vc ?_); refine hK _ ?_; clear K hK) | refine TS.imp ?_))
          rw [w64 (x := s0 + w) (by omega) (by omega), w64 (x := 1 + 1) (by omega) (by omega)]
          refine ⟨m - 1, _, by omega, ?_, 2, s0 + w, (w == s0), rfl, by omega, .inr (.inr ⟨rfl, rfl, rfl⟩)⟩
          exact (Le.mv (by simp only [go_sem, hP, hn]; first | done | (simp; done) | (simp [intC]; done) | (repeat (first | rfl | constructor))) (by simp only [go_sem, hP, hn]; first | done | (simp; done) | (simp [intC]; done) | (repeat (first | rfl | constructor))))
        · exact absurd hb (by decide)
      · (repeat (first | (refine TR.imp ?_; intro K hK; simp only [go_sem, hP, hn]; (repeat refine vc ?_); refine hK _ ?_; clear K hK) | refine TS.imp ?_))
        refine Tr.cond rfl (fun hb => ?_) (fun hb => ?_)
        · exact absurd hb (by decide)
        · (repeat (first | (refine TR.imp ?_; intro K hK; simp only [go_sem, hP, hn]; (repeat refine vc ?_); refine hK _ ?_; clear K hK) | refine TS.imp ?_))
          refine Tr.le (Le.keep [0, 1, 3, 8, 9, 10, 11, 12]) ?_; simp only [List.map_cons, List.map_nil, lk, Nat.reduceEqDiff, reduceIte]
          refine TR.imp ?_; intro K hK; simp only [go_sem, hP, hn]
          (repeat refine vc ?_)
          refine CallN_g2 ((0, i) : Int × Int) (fun x => .d (.i .i64 x.1)) (fun x => rowO l x.2) (fun x => (0 ≤ x.1 ∧ x.1 < 2) ∧ 0 ≤ x.2 ∧ x.2 ≤ l.length) rfl (fun hg => by rw [hP, hT]; exact Next_p Tm l i 2 hl h0 h1 (by decide) (by decide)) rfl rfl rfl (fun hg => trivial) (fun hg => by clear hK; revert hg; simp only [go_sem, hP, hn]; first | trivial | omega | (simp; done) | (simp +contextual; done) | grind) (fun hg => by simp only [go_sem, hP, hn]; try rfl) rfl (by rw [hn]; decide) (fun x hx hx' => ?_); obtain ⟨x, j⟩ := x; simp only [go_sem, hP, hn]; (repeat refine vc ?_)
          refine hK _ ?_; clear K hK
          have hj := guard_j h0 h1 hx hx'
          refine Tr.cond rfl (fun h3 => ?_) (fun h3 => ?_)
          · (repeat (first | (refine TR.imp ?_; intro K hK; simp only [go_sem, hP, hn]; (repeat refine vc ?_); refine hK _ ?_; clear K hK) | refine TS.imp ?_))
            simp only [RetG, go_sem]; (repeat with_reducible refine vc ?_)
            have : w = v := by simp only [Bool.and_eq_true, beq_iff_eq] at h3; exact h3.1
            exact ⟨_, rfl, ⟨7, [a, b], 0, 0, 0, 0, 0, 0, [], [], 0, 0, 0, 0, 0⟩, j, rfl, rfl, made_two hv hw (.inl ⟨rfl, this.symm⟩), hj.1, hj.2⟩
          · (repeat (first | (refine TR.imp ?_; intro K hK; simp only [go_sem, hP, hn]; (repeat refine vc ?_); refine hK _ ?_; clear K hK) | refine TS.imp ?_))
            refine Tr.cond rfl (fun h4 => ?_) (fun h4 => ?_)
            · (repeat (first | (refine TR.imp ?_; intro K hK; simp only [go_sem, hP, hn]; (repeat refine vc ?_); refine hK _ ?_; clear K hK) | refine TS.imp ?_))
              simp only [RetG, go_sem]; (repeat with_reducible refine vc ?_)
              exact ⟨_, rfl, ⟨8, [a, b], 0, 0, 0, 0, 0, 0, [], [], 0, 0, 0, 0, 0⟩, j, rfl, rfl, made_two hv hw (.inr ⟨rfl, by simpa using h4⟩), hj.1, hj.2⟩
            · (repeat (first | (refine TR.imp ?_; intro K hK; simp only [go_sem, hP, hn]; (repeat refine vc ?_); refine hK _ ?_; clear K hK) | refine TS.imp ?_))
              exact ⟨_, (Le.mv (by simp only [go_sem, hP, hn]; first | done | (simp; done) | (simp [intC]; done) | (repeat (first | rfl | constructor))) (by simp only [go_sem, hP, hn]; first | done | (simp; done) | (simp [intC]; done) | (repeat (first | rfl | constructor)))), 8, a, j, rfl, rfl, hj.1, hj.2⟩
    · (repeat (first | (refine TR.imp ?_; intro K hK; simp only [go_sem, hP, hn]; (repeat refine vc ?_); refine hK _ ?_; clear K hK) | refine TS.imp ?_))
      obtain ⟨a, w, rfl, rfl⟩ : ∃ a w, inn = [a] ∧ ws = [w] := by
        rcases hio with h | ⟨a, b, v, w, rfl, rfl⟩
        · exact h
        · simp at h2
      exact ⟨_, (Le.mv (by simp only [go_sem, hP, hn]; first | done | (simp; done) | (simp [intC]; done) | (repeat (first | rfl | constructor))) (by simp only [go_sem, hP, hn]; first | done | (simp; done) | (simp [intC]; done) | (repeat (first | rfl | constructor)))), 0, a, i, rfl, rfl, h0, h1⟩
  rintro s ⟨k0, a, j, hin, rfl, hj0, hj1⟩
  (repeat (first | (refine TR.imp ?_; intro K hK; simp only [go_sem, hP, hn]; (repeat refine vc ?_); refine hK _ ?_; clear K hK) | refine TS.imp ?_))
  refine TR.imp ?_; intro K hK; simp only [go_sem, hP, hn]
  (repeat refine vc ?_)
  refine CallN_c1 (by rw [hP, hT]; exact Next_c Tm l j 12 hl hj0 hj1 (by decide) (by decide) ) rfl rfl rfl trivial (by simp only [go_sem, hP, hn]; try trivial) (by simp only [go_sem, hP, hn]; try rfl) (by simp only [go_sem, hP, hn]; try rfl) (by rw [hn]; decide) (fun r ob' hr => ?_); obtain  ⟨v, j', rfl, rfl, hv0, hv1, hj0', hj1'⟩ := hr; simp only [go_sem, hP, hn]; (repeat refine vc ?_)
  refine hK _ ?_; clear K hK
  (repeat (first | (refine TR.imp ?_; intro K hK; simp only [go_sem, hP, hn]; (repeat refine vc ?_); refine hK _ ?_; clear K hK) | refine TS.imp ?_))
  refine Tr.meet (fun s => ∃ (k j : Int), s = ⟨[(15, .d (.i .i64 k)), (14, .ptr 14 0), (0, .ptr 1000 0), (8, .ptr 8 0), (9, .ptr 9 0), (10, .d (.i .i64 w0))], [(14, .box 105 [.d (.i .i64 1), .d (.i .i64 2), .d (.i .i64 3), .d (.i .i64 4), .d (.i .i64 12), .d (.i .i64 1), .d (.i .i64 5), .d (.i .i64 6), .d (.i .i64 9), .d (.i .i64 10), .d (.i .i64 11), .d (.i .i64 6)]), (9, .box 50 (Nd.mk k0 [a] 0 0 0 0 0 0 [] [] 0 0 0 0 0).cs), (8, .box 50 Z8), (1000, rowO l j)]⟩ ∧ 0 ≤ k ∧ k < 12 ∧ (st = true → 7 ≤ k) ∧ 0 ≤ j ∧ j ≤ l.length) ?_ ?_
  rotate_left
  · refine Tr.cond rfl (fun hs => ?_) (fun hs => ?_)
    · refine TR.imp ?_; intro K hK; simp only [go_sem, hP, hn]
      (repeat refine vc ?_)
      refine CallN_c1 (by rw [hP, hT]; exact Next_c Tm l j' 5 hl hj0' hj1' (by decide) (by decide) ) rfl rfl rfl trivial (by simp only [go_sem, hP, hn]; try trivial) (by simp only [go_sem, hP, hn]; try rfl) (by simp only [go_sem, hP, hn]; try rfl) (by rw [hn]; decide) (fun r ob' hr => ?_); obtain  ⟨v', j2, rfl, rfl, hv0', hv1', hj0'', hj1''⟩ := hr; simp only [go_sem, hP, hn]; (repeat refine vc ?_)
      refine hK _ ?_; clear K hK
      rw [w64 (x := 7 + v') (by omega) (by omega)]
      exact ⟨_, (Le.mv (by simp only [go_sem, hP, hn]; first | done | (simp; done) | (simp [intC]; done) | (repeat (first | rfl | constructor))) (by simp only [go_sem, hP, hn]; first | done | (simp; done) | (simp [intC]; done) | (repeat (first | rfl | constructor)))), 7 + v', j2, rfl, by omega, by omega, fun _ => by omega, hj0'', hj1''⟩
    · (repeat (first | (refine TR.imp ?_; intro K hK; simp only [go_sem, hP, hn]; (repeat refine vc ?_); refine hK _ ?_; clear K hK) | refine TS.imp ?_))
      exact ⟨_, (Le.mv (by simp only [go_sem, hP, hn]; first | done | (simp; done) | (simp [intC]; done) | (repeat (first | rfl | constructor))) (by simp only [go_sem, hP, hn]; first | done | (simp; done) | (simp [intC]; done) | (repeat (first | rfl | constructor)))), v, j', rfl, hv0, hv1, fun e => (by rw [hs] at e; cases e), hj0', hj1'⟩
  rintro s ⟨k, j, rfl, hk0, hk1, hks, hj0, hj1⟩
  refine TR.imp ?_; intro K hK
  have tail : ∀ (kk : Int) (s' : St), (kk = 1 ∨ kk = 2 ∨ kk = 3 ∨ kk = 4 ∨ kk = 5 ∨ kk = 6 ∨ kk = 9 ∨ kk = 10 ∨ kk = 11 ∨ kk = 12) → (st = true → 6 ≤ kk ∧ kk ≤ 11) → Le E s' ⟨[(0, .ptr 1000 0), (8, .ptr 8 0), (9, .ptr 9 0), (10, .d (.i .i64 w0))], [(9, .box 50 (Nd.mk kk [a] 0 0 0 0 0 0 [] [] 0 0 0 0 0).cs), (8, .box 50 Z8), (1000, rowO l j)]⟩ → K s' := fun kk s' hkk hst hle => hK _ (Tr.le hle (by
    clear hK hle K
    (repeat (first | (refine TR.imp ?_; intro K hK; simp only [go_sem, hP, hn]; (repeat refine vc ?_); refine hK _ ?_; clear K hK) | refine TS.imp ?_))
    refine Tr.cond rfl (fun c1' => ?_) (fun c1' => ?_)
    · (repeat (first | (refine TR.imp ?_; intro K hK; simp only [go_sem, hP, hn]; (repeat refine vc ?_); refine hK _ ?_; clear K hK) | refine TS.imp ?_))
      obtain rfl : kk = 1 := by simpa using c1'
      obtain rfl : st = false := by cases st with
        | false => rfl
        | true => exact absurd (hst rfl).1 (by decide)
      (repeat (first | (refine TR.imp ?_; intro K hK; simp only [go_sem, hP, hn]; (repeat refine vc ?_); refine hK _ ?_; clear K hK) | refine TS.imp ?_))
      refine TR.imp ?_; intro K hK; simp only [go_sem, hP, hn]
      (repeat refine vc ?_)
      refine CallN_c1 (by rw [hP, hT]; exact window_c Tm l j (Nd.mk 1 [a] 0 0 0 0 0 0 [] [] 0 0 0 0 0) rfl hl hj0 hj1 ) rfl rfl rfl trivial (by simp only [go_sem, hP, hn]; try trivial) (by simp only [go_sem, hP, hn]; try rfl) (by simp only [go_sem, hP, hn]; try rfl) (by rw [hn]; decide) (fun r ob' hr => ?_); obtain  ⟨sz, s1, gp, lf, rt, j1, rfl, rfl, z0, z1, t0, t1, g0, g1, l0, l1, r0, r1, b0, b1⟩ := hr; simp only [go_sem, hP, hn]; (repeat refine vc ?_)
      refine hK _ ?_; clear K hK
      (repeat (first | (refine TR.imp ?_; intro K hK; simp only [go_sem, hP, hn]; (repeat refine vc ?_); refine hK _ ?_; clear K hK) | refine TS.imp ?_))
      refine TR.imp ?_; intro K hK; simp only [go_sem, hP, hn]
      (repeat refine vc ?_)
      refine CallN_c1 (by rw [hP, hT]; exact Next_c Tm l j1 3 hl b0 b1 (by decide) (by decide) ) rfl rfl rfl trivial (by simp only [go_sem, hP, hn]; try trivial) (by simp only [go_sem, hP, hn]; try rfl) (by simp only [go_sem, hP, hn]; try rfl) (by rw [hn]; decide) (fun r ob' hr => ?_); obtain  ⟨v1, j2, rfl, rfl, e1, e2, b2, b3⟩ := hr; simp only [go_sem, hP, hn]; (repeat refine vc ?_)
      refine hK _ ?_; clear K hK
      have m1 := mul_le (1 + v1) 3 sz 4 (by omega) (by omega) (by omega) z1
      have m2 := mul_le ((1 + v1) * sz) 12 w0 16 m1.1 m1.2 (by omega) hw3.2
      rw [w64 (x := 1 + v1) (by omega) (by omega)]
      refine Tr.le (Le.keep [0, 8, 9, 10]) ?_; simp only [List.map_cons, List.map_nil, lk, Nat.reduceEqDiff, reduceIte]
      (repeat (first | (refine TR.imp ?_; intro K hK; simp only [go_sem, hP, hn]; (repeat refine vc ?_); refine hK _ ?_; clear K hK) | refine TS.imp ?_))
      refine TR.imp ?_; intro K hK; simp only [go_sem, hP, hn]
      (repeat refine vc ?_)
      rw [w64 (x := (1 + v1) * sz) (by omega) (by omega), w64 (x := (1 + v1) * sz * w0) (by omega) (by omega)]
      refine CallN_c1 (by rw [hP, hT]; exact row_c Tm l j2 ((1 + v1) * sz * w0) (-9) 19 hl b2 b3 (by omega) (by omega) (by decide) (by decide) (by decide) (by decide) ) rfl rfl rfl trivial (by simp only [go_sem, hP, hn]; try trivial) (by simp only [go_sem, hP, hn]; try rfl) (by simp only [go_sem, hP, hn]; try rfl) (by rw [hn]; decide) (fun r ob' hr => ?_); obtain  ⟨W, j3, rfl, rfl, e3, e4, b4, b5⟩ := hr; simp only [go_sem, hP, hn]; (repeat refine vc ?_)
      refine hK _ ?_; clear K hK
      (repeat (first | (refine TR.imp ?_; intro K hK; simp only [go_sem, hP, hn]; (repeat refine vc ?_); refine hK _ ?_; clear K hK) | refine TS.imp ?_))
      refine TR.imp ?_; intro K hK; simp only [go_sem, hP, hn]
      (repeat refine vc ?_)
      refine CallN_c1 (by rw [hP, hT]; exact row_c Tm l j3 (1 + v1) (-50) 101 hl b4 b5 (by omega) (by omega) (by decide) (by decide) (by decide) (by decide) ) rfl rfl rfl trivial (by simp only [go_sem, hP, hn]; try trivial) (by simp only [go_sem, hP, hn]; try rfl) (by simp only [go_sem, hP, hn]; try rfl) (by rw [hn]; decide) (fun r ob' hr => ?_); obtain  ⟨B, j4, rfl, rfl, e5, e6, b6, b7⟩ := hr; simp only [go_sem, hP, hn]; (repeat refine vc ?_)
      refine hK _ ?_; clear K hK
      (repeat (first | (refine TR.imp ?_; intro K hK; simp only [go_sem, hP, hn]; (repeat refine vc ?_); refine hK _ ?_; clear K hK) | refine TS.imp ?_))
      simp only [RetG, go_sem]; (repeat with_reducible refine vc ?_)
      exact ⟨_, rfl, ⟨1, [a], 1 + v1, sz, s1, gp, lf, rt, W, B, 0, 0, 0, 0, 0⟩, j4, rfl, rfl, made_conv hin hw1 hw3 ⟨by omega, by omega⟩ ⟨z0, z1⟩ ⟨t0, t1⟩ ⟨g0, g1⟩ l0 l1 r0 r1 e3 (fun x hx => by have := e4 x hx; omega) e5 (fun x hx => by have := e6 x hx; omega), b6, b7⟩
    (repeat (first | (refine TR.imp ?_; intro K hK; simp only [go_sem, hP, hn]; (repeat refine vc ?_); refine hK _ ?_; clear K hK) | refine TS.imp ?_))
    refine Tr.cond rfl (fun c2' => ?_) (fun c2' => ?_)
    · (repeat (first | (refine TR.imp ?_; intro K hK; simp only [go_sem, hP, hn]; (repeat refine vc ?_); refine hK _ ?_; clear K hK) | refine TS.imp ?_))
      obtain rfl : kk = 2 := by simpa using c2'
      obtain rfl : st = false := by cases st with
        | false => rfl
        | true => exact absurd (hst rfl).1 (by decide)
      (repeat (first | (refine TR.imp ?_; intro K hK; simp only [go_sem, hP, hn]; (repeat refine vc ?_); refine hK _ ?_; clear K hK) | refine TS.imp ?_))
      refine TR.imp ?_; intro K hK; simp only [go_sem, hP, hn]
      (repeat refine vc ?_)
      refine CallN_c1 (by rw [hP, hT]; exact window_c Tm l j (Nd.mk 2 [a] 0 0 0 0 0 0 [] [] 0 0 0 0 0) rfl hl hj0 hj1 ) rfl rfl rfl trivial (by simp only [go_sem, hP, hn]; try trivial) (by simp only [go_sem, hP, hn]; try rfl) (by simp only [go_sem, hP, hn]; try rfl) (by rw [hn]; decide) (fun r ob' hr => ?_); obtain  ⟨sz, s1, gp, lf, rt, j1, rfl, rfl, z0, z1, t0, t1, g0, g1, l0, l1, r0, r1, b0, b1⟩ := hr; simp only [go_sem, hP, hn]; (repeat refine vc ?_)
      refine hK _ ?_; clear K hK
      have m2 := mul_le sz 4 w0 16 (by omega) (by omega) (by omega) hw3.2
      refine Tr.le (Le.keep [0, 8, 9, 10]) ?_; simp only [List.map_cons, List.map_nil, lk, Nat.reduceEqDiff, reduceIte]
      (repeat (first | (refine TR.imp ?_; intro K hK; simp only [go_sem, hP, hn]; (repeat refine vc ?_); refine hK _ ?_; clear K hK) | refine TS.imp ?_))
      refine TR.imp ?_; intro K hK; simp only [go_sem, hP, hn]
      (repeat refine vc ?_)
      rw [w64 (x := sz * w0) (by omega) (by omega)]
      refine CallN_c1 (by rw [hP, hT]; exact row_c Tm l j1 (sz * w0) (-9) 19 hl b0 b1 (by omega) (by omega) (by decide) (by decide) (by decide) (by decide) ) rfl rfl rfl trivial (by simp only [go_sem, hP, hn]; try trivial) (by simp only [go_sem, hP, hn]; try rfl) (by simp only [go_sem, hP, hn]; try rfl) (by rw [hn]; decide) (fun r ob' hr => ?_); obtain  ⟨W, j3, rfl, rfl, e3, e4, b4, b5⟩ := hr; simp only [go_sem, hP, hn]; (repeat refine vc ?_)
      refine hK _ ?_; clear K hK
      (repeat (first | (refine TR.imp ?_; intro K hK; simp only [go_sem, hP, hn]; (repeat refine vc ?_); refine hK _ ?_; clear K hK) | refine TS.imp ?_))
      refine TR.imp ?_; intro K hK; simp only [go_sem, hP, hn]
      (repeat refine vc ?_)
      refine CallN_c1 (by rw [hP, hT]; exact row_c Tm l j3 w0 (-50) 101 hl b4 b5 (by omega) (by omega) (by decide) (by decide) (by decide) (by decide) ) rfl rfl rfl trivial (by simp only [go_sem, hP, hn]; try trivial) (by simp only [go_sem, hP, hn]; try rfl) (by simp only [go_sem, hP, hn]; try rfl) (by rw [hn]; decide) (fun r ob' hr => ?_); obtain  ⟨B, j4, rfl, rfl, e5, e6, b6, b7⟩ := hr; simp only [go_sem, hP, hn]; (repeat refine vc ?_)
      refine hK _ ?_; clear K hK
      (repeat (first | (refine TR.imp ?_; intro K hK; simp only [go_sem, hP, hn]; (repeat refine vc ?_); refine hK _ ?_; clear K hK) | refine TS.imp ?_))
      simp only [RetG, go_sem]; (repeat with_reducible refine vc ?_)
      exact ⟨_, rfl, ⟨2, [a], 0, sz, s1, gp, lf, rt, W, B, 0, 0, 0, 0, 0⟩, j4, rfl, rfl, made_depth hin hw1 hw3 ⟨z0, z1⟩ ⟨t0, t1⟩ ⟨g0, g1⟩ l0 l1 r0 r1 e3 (fun x hx => by have := e4 x hx; omega) e5 (fun x hx => by have := e6 x hx; omega), b6, b7⟩
    (repeat (first | (refine TR.imp ?_; intro K hK; simp only [go_sem, hP, hn]; (repeat refine vc ?_); refine hK _ ?_; clear K hK) | refine TS.imp ?_))
    refine Tr.cond rfl (fun c6' => ?_) (fun c6' => ?_)
    · (repeat (first | (refine TR.imp ?_; intro K hK; simp only [go_sem, hP, hn]; (repeat refine vc ?_); refine hK _ ?_; clear K hK) | refine TS.imp ?_))
      obtain rfl : kk = 6 := by simpa using c6'
      (repeat (first | (refine TR.imp ?_; intro K hK; simp only [go_sem, hP, hn]; (repeat refine vc ?_); refine hK _ ?_; clear K hK) | refine TS.imp ?_))
      refine TR.imp ?_; intro K hK; simp only [go_sem, hP, hn]
      (repeat refine vc ?_)
      refine CallN_c1 (by rw [hP, hT]; exact Next_c Tm l j 3 hl hj0 hj1 (by decide) (by decide) ) rfl rfl rfl trivial (by simp only [go_sem, hP, hn]; try trivial) (by simp only [go_sem, hP, hn]; try rfl) (by simp only [go_sem, hP, hn]; try rfl) (by rw [hn]; decide) (fun r ob' hr => ?_); obtain  ⟨v1, j2, rfl, rfl, e1, e2, b2, b3⟩ := hr; simp only [go_sem, hP, hn]; (repeat refine vc ?_)
      refine hK _ ?_; clear K hK
      have m2 := mul_le (1 + v1) 3 w0 16 (by omega) (by omega) (by omega) hw3.2
      rw [w64 (x := 1 + v1) (by omega) (by omega)]
      refine Tr.le (Le.keep [0, 8, 9, 10]) ?_; simp only [List.map_cons, List.map_nil, lk, Nat.reduceEqDiff, reduceIte]
      (repeat (first | (refine TR.imp ?_; intro K hK; simp only [go_sem, hP, hn]; (repeat refine vc ?_); refine hK _ ?_; clear K hK) | refine TS.imp ?_))
      refine TR.imp ?_; intro K hK; simp only [go_sem, hP, hn]
      (repeat refine vc ?_)
      rw [w64 (x := (1 + v1) * w0) (by omega) (by omega)]
      refine CallN_c1 (by rw [hP, hT]; exact row_c Tm l j2 ((1 + v1) * w0) (-12) 25 hl b2 b3 (by omega) (by omega) (by decide) (by decide) (by decide) (by decide) ) rfl rfl rfl trivial (by simp only [go_sem, hP, hn]; try trivial) (by simp only [go_sem, hP, hn]; try rfl) (by simp only [go_sem, hP, hn]; try rfl) (by rw [hn]; decide) (fun r ob' hr => ?_); obtain  ⟨W, j3, rfl, rfl, e3, e4, b4, b5⟩ := hr; simp only [go_sem, hP, hn]; (repeat refine vc ?_)
      refine hK _ ?_; clear K hK
      (repeat (first | (refine TR.imp ?_; intro K hK; simp only [go_sem, hP, hn]; (repeat refine vc ?_); refine hK _ ?_; clear K hK) | refine TS.imp ?_))
      refine TR.imp ?_; intro K hK; simp only [go_sem, hP, hn]
      (repeat refine vc ?_)
      refine CallN_c1 (by rw [hP, hT]; exact row_c Tm l j3 (1 + v1) (-5000) 10001 hl b4 b5 (by omega) (by omega) (by decide) (by decide) (by decide) (by decide) ) rfl rfl rfl trivial (by simp only [go_sem, hP, hn]; try trivial) (by simp only [go_sem, hP, hn]; try rfl) (by simp only [go_sem, hP, hn]; try rfl) (by rw [hn]; decide) (fun r ob' hr => ?_); obtain  ⟨B, j4, rfl, rfl, e5, e6, b6, b7⟩ := hr; simp only [go_sem, hP, hn]; (repeat refine vc ?_)
      refine hK _ ?_; clear K hK
      (repeat (first | (refine TR.imp ?_; intro K hK; simp only [go_sem, hP, hn]; (repeat refine vc ?_); refine hK _ ?_; clear K hK) | refine TS.imp ?_))
      simp only [RetG, go_sem]; (repeat with_reducible refine vc ?_)
      exact ⟨_, rfl, ⟨6, [a], 1 + v1, 0, 0, 0, 0, 0, W, B, 0, 0, 0, 0, 0⟩, j4, rfl, rfl, made_dense hin hw1 hw3 ⟨by omega, by omega⟩ e3 (fun x hx => by have := e4 x hx; omega) e5 (fun x hx => by have := e6 x hx; omega), b6, b7⟩
    (repeat (first | (refine TR.imp ?_; intro K hK; simp only [go_sem, hP, hn]; (repeat refine vc ?_); refine hK _ ?_; clear K hK) | refine TS.imp ?_))
    refine Tr.cond rfl (fun c3' => ?_) (fun c3' => ?_)
    · obtain rfl : kk = 3 := by simpa using c3'
      obtain rfl : st = false := by cases st with
        | false => rfl
        | true => exact absurd (hst rfl).1 (by decide)
      (repeat (first | (refine TR.imp ?_; intro K hK; simp only [go_sem, hP, hn]; (repeat refine vc ?_); refine hK _ ?_; clear K hK) | refine TS.imp ?_))
      refine Tr.cond rfl (fun cp => ?_) (fun cp => ?_)
      · (repeat (first | (refine TR.imp ?_; intro K hK; simp only [go_sem, hP, hn]; (repeat refine vc ?_); refine hK _ ?_; clear K hK) | refine TS.imp ?_))
        refine TR.imp ?_; intro K hK; simp only [go_sem, hP, hn]
        (repeat refine vc ?_)
        refine CallN_c1 (by rw [hP, hT]; exact window_c Tm l j (Nd.mk 3 [a] 0 0 0 0 0 0 [] [] 0 0 0 0 0) rfl hl hj0 hj1 ) rfl rfl rfl trivial (by simp only [go_sem, hP, hn]; try trivial) (by simp only [go_sem, hP, hn]; try rfl) (by simp only [go_sem, hP, hn]; try rfl) (by rw [hn]; decide) (fun r ob' hr => ?_); obtain  ⟨sz, s1, gp, lf, rt, j1, rfl, rfl, z0, z1, t0, t1, g0, g1, l0, l1, r0, r1, b0, b1⟩ := hr; simp only [go_sem, hP, hn]; (repeat refine vc ?_)
        refine hK _ ?_; clear K hK
        (repeat (first | (refine TR.imp ?_; intro K hK; simp only [go_sem, hP, hn]; (repeat refine vc ?_); refine hK _ ?_; clear K hK) | refine TS.imp ?_))
        simp only [RetG, go_sem]; (repeat with_reducible refine vc ?_)
        exact ⟨_, rfl, ⟨3, [a], 0, sz, s1, gp, lf, rt, [], [], 0, 0, 0, 0, 0⟩, j1, rfl, rfl, made_pool hin hw1 hw3 (by decide) ⟨z0, z1⟩ ⟨t0, t1⟩ ⟨g0, g1⟩ l0 l1 r0 r1, b0, b1⟩
      · exact absurd cp (by decide)
    (repeat (first | (refine TR.imp ?_; intro K hK; simp only [go_sem, hP, hn]; (repeat refine vc ?_); refine hK _ ?_; clear K hK) | refine TS.imp ?_))
    refine Tr.cond rfl (fun c4' => ?_) (fun c4' => ?_)
    · (repeat (first | (refine TR.imp ?_; intro K hK; simp only [go_sem, hP, hn]; (repeat refine vc ?_); refine hK _ ?_; clear K hK) | refine TS.imp ?_))
      obtain rfl : kk = 4 := by simpa using c4'
      obtain rfl : st = false := by cases st with
        | false => rfl
        | true => exact absurd (hst rfl).1 (by decide)
      (repeat (first | (refine TR.imp ?_; intro K hK; simp only [go_sem, hP, hn]; (repeat refine vc ?_); refine hK _ ?_; clear K hK) | refine TS.imp ?_))
      refine TR.imp ?_; intro K hK; simp only [go_sem, hP, hn]
      (repeat refine vc ?_)
      refine CallN_c1 (by rw [hP, hT]; exact window_c Tm l j (Nd.mk 4 [a] 0 0 0 0 0 0 [] [] 0 0 0 0 0) rfl hl hj0 hj1 ) rfl rfl rfl trivial (by simp only [go_sem, hP, hn]; try trivial) (by simp only [go_sem, hP, hn]; try rfl) (by simp only [go_sem, hP, hn]; try rfl) (by rw [hn]; decide) (fun r ob' hr => ?_); obtain  ⟨sz, s1, gp, lf, rt, j1, rfl, rfl, z0, z1, t0, t1, g0, g1, l0, l1, r0, r1, b0, b1⟩ := hr; simp only [go_sem, hP, hn]; (repeat refine vc ?_)
      refine hK _ ?_; clear K hK
      (repeat (first | (refine TR.imp ?_; intro K hK; simp only [go_sem, hP, hn]; (repeat refine vc ?_); refine hK _ ?_; clear K hK) | refine TS.imp ?_))
      simp only [RetG, go_sem]; (repeat with_reducible refine vc ?_)
      exact ⟨_, rfl, ⟨4, [a], 0, sz, s1, gp, lf, rt, [], [], 0, 0, 0, 0, 0⟩, j1, rfl, rfl, made_pool hin hw1 hw3 (by decide) ⟨z0, z1⟩ ⟨t0, t1⟩ ⟨g0, g1⟩ l0 l1 r0 r1, b0, b1⟩
    (repeat (first | (refine TR.imp ?_; intro K hK; simp only [go_sem, hP, hn]; (repeat refine vc ?_); refine hK _ ?_; clear K hK) | refine TS.imp ?_))
    refine Tr.cond rfl (fun c12' => ?_) (fun c12' => ?_)
    · (repeat (first | (refine TR.imp ?_; intro K hK; simp only [go_sem, hP, hn]; (repeat refine vc ?_); refine hK _ ?_; clear K hK) | refine TS.imp ?_))
      obtain rfl : kk = 12 := by simpa using c12'
      (repeat (first | (refine TR.imp ?_; intro K hK; simp only [go_sem, hP, hn]; (repeat refine vc ?_); refine hK _ ?_; clear K hK) | refine TS.imp ?_))
      refine TR.imp ?_; intro K hK; simp only [go_sem, hP, hn]
      (repeat refine vc ?_)
      refine CallN_c1 (by rw [hP, hT]; exact Next_c Tm l j 5 hl hj0 hj1 (by decide) (by decide) ) rfl rfl rfl trivial (by simp only [go_sem, hP, hn]; try trivial) (by simp only [go_sem, hP, hn]; try rfl) (by simp only [go_sem, hP, hn]; try rfl) (by rw [hn]; decide) (fun r ob' hr => ?_); obtain  ⟨v1, j2, rfl, rfl, e1, e2, b2, b3⟩ := hr; simp only [go_sem, hP, hn]; (repeat refine vc ?_)
      refine hK _ ?_; clear K hK
      rw [w64 (x := 1 + v1) (by omega) (by omega)]
      (repeat (first | (refine TR.imp ?_; intro K hK; simp only [go_sem, hP, hn]; (repeat refine vc ?_); refine hK _ ?_; clear K hK) | refine TS.imp ?_))
      simp only [RetG, go_sem]; (repeat with_reducible refine vc ?_)
      exact ⟨_, rfl, ⟨12, [a], 0, 1 + v1, 0, 0, 0, 0, [], [], 0, 0, 0, 0, 0⟩, j2, rfl, rfl, made_rest hin hw1 hw3 (by decide) (fun h => absurd rfl h) (fun _ => ⟨by omega, by omega⟩) (fun _ => ⟨rfl, rfl⟩) (fun h => absurd h (by decide)) (fun _ => ⟨rfl, rfl⟩) (fun h => absurd h (by decide)) (fun h => absurd (hst h).2 (by decide)), b2, b3⟩
    (repeat (first | (refine TR.imp ?_; intro K hK; simp only [go_sem, hP, hn]; (repeat refine vc ?_); refine hK _ ?_; clear K hK) | refine TS.imp ?_))
    refine Tr.cond rfl (fun c9' => ?_) (fun c9' => ?_)
    · (repeat (first | (refine TR.imp ?_; intro K hK; simp only [go_sem, hP, hn]; (repeat refine vc ?_); refine hK _ ?_; clear K hK) | refine TS.imp ?_))
      obtain rfl : kk = 9 := by simpa using c9'
      (repeat (first | (refine TR.imp ?_; intro K hK; simp only [go_sem, hP, hn]; (repeat refine vc ?_); refine hK _ ?_; clear K hK) | refine TS.imp ?_))
      refine TR.imp ?_; intro K hK; simp only [go_sem, hP, hn]
      (repeat refine vc ?_)
      refine CallN_c1 (by rw [hP, hT]; exact Next_c Tm l j 200 hl hj0 hj1 (by decide) (by decide) ) rfl rfl rfl trivial (by simp only [go_sem, hP, hn]; try trivial) (by simp only [go_sem, hP, hn]; try rfl) (by simp only [go_sem, hP, hn]; try rfl) (by rw [hn]; decide) (fun r ob' hr => ?_); obtain  ⟨v1, j2, rfl, rfl, e1, e2, b2, b3⟩ := hr; simp only [go_sem, hP, hn]; (repeat refine vc ?_)
      refine hK _ ?_; clear K hK
      rw [w64 (x := v1 - 150) (by omega) (by omega)]
      refine Tr.le (Le.keep [0, 8, 9, 10]) ?_; simp only [List.map_cons, List.map_nil, lk, Nat.reduceEqDiff, reduceIte]
      refine d5 (.p true 0 (.p true 2 (.alt 1 (.alt 3 (.p false 4 (.p true 5 (.alt 6 .nil .nil))) .nil) (.alt 3 (.alt 1 (.p false 4 (.p true 5 (.alt 6 .nil .nil))) .nil) .nil)))) [9, 1000] (by rw [hP]; kernel_rfl) (by kernel_rfl) (by simp only [go_sem, hP, hn]; try simp) (by exact fun _ _ h => h) ?_; intro K hK; simp only [go_sem, hP, hn]
      (repeat refine vc ?_)
      refine ⟨?_, ?_⟩
      · (repeat refine vc ?_)
        refine CallP_c1 (by rw [hP, hT]; exact Next_c Tm l j2 300 hl b2 b3 (by decide) (by decide) ) rfl rfl rfl trivial (by simp only [go_sem, hP, hn]; try trivial) (by simp only [go_sem, hP, hn]; try rfl) (by simp only [go_sem, hP, hn]; try rfl) (by rw [hn]; decide) rfl (fun r ob' hr => ?_); obtain  ⟨v2, j3, rfl, rfl, e3, e4, b4, b5⟩ := hr; simp only [go_sem, hP, hn]; (repeat refine vc ?_)
        rw [w64 (x := v1 - 150 + v2) (by omega) (by omega)]
        refine hK _ ?_; clear K hK
        (repeat (first | (refine TR.imp ?_; intro K hK; simp only [go_sem, hP, hn]; (repeat refine vc ?_); refine hK _ ?_; clear K hK) | refine TS.imp ?_))
        simp only [RetG, go_sem]; (repeat with_reducible refine vc ?_)
        exact ⟨_, rfl, ⟨9, [a], 0, 0, 0, 0, 0, 0, [], [], 0, 0, v1 - 150, v1 - 150 + v2, 0⟩, j3, rfl, rfl, made_rest hin hw1 hw3 (by decide) (fun _ => rfl) (fun h => absurd h (by decide)) (fun _ => ⟨rfl, rfl⟩) (fun h => absurd h (by decide)) (fun h => absurd rfl h) (fun _ => ⟨by omega, by omega, by omega⟩) (fun _ => ⟨by decide, by decide⟩), b4, b5⟩
      · refine CallP_c1 (by rw [hP, hT]; exact Next_c Tm l j2 300 hl b2 b3 (by decide) (by decide) ) rfl rfl rfl trivial (by simp only [go_sem, hP, hn]; try trivial) (by simp only [go_sem, hP, hn]; try rfl) (by simp only [go_sem, hP, hn]; try rfl) (by rw [hn]; decide) rfl (fun r ob' hr => ?_); obtain  ⟨v2, j3, rfl, rfl, e3, e4, b4, b5⟩ := hr; simp only [go_sem, hP, hn]; (repeat refine vc ?_)
        rw [w64 (x := v1 - 150 + v2) (by omega) (by omega)]
        refine hK _ ?_; clear K hK
        (repeat (first | (refine TR.imp ?_; intro K hK; simp only [go_sem, hP, hn]; (repeat refine vc ?_); refine hK _ ?_; clear K hK) | refine TS.imp ?_))
        simp only [RetG, go_sem]; (repeat with_reducible refine vc ?_)
        exact ⟨_, rfl, ⟨9, [a], 0, 0, 0, 0, 0, 0, [], [], 0, 0, v1 - 150, v1 - 150 + v2, 0⟩, j3, rfl, rfl, made_rest hin hw1 hw3 (by decide) (fun _ => rfl) (fun h => absurd h (by decide)) (fun _ => ⟨rfl, rfl⟩) (fun h => absurd h (by decide)) (fun h => absurd rfl h) (fun _ => ⟨by omega, by omega, by omega⟩) (fun _ => ⟨by decide, by decide⟩), b4, b5⟩
    (repeat (first | (refine TR.imp ?_; intro K hK; simp only [go_sem, hP, hn]; (repeat refine vc ?_); refine hK _ ?_; clear K hK) | refine TS.imp ?_))
    refine Tr.cond rfl (fun c10' => ?_) (fun c10' => ?_)
    · (repeat (first | (refine TR.imp ?_; intro K hK; simp only [go_sem, hP, hn]; (repeat refine vc ?_); refine hK _ ?_; clear K hK) | refine TS.imp ?_))
      obtain rfl : kk = 10 := by simpa using c10'
      (repeat (first | (refine TR.imp ?_; intro K hK; simp only [go_sem, hP, hn]; (repeat refine vc ?_); refine hK _ ?_; clear K hK) | refine TS.imp ?_))
      refine TR.imp ?_; intro K hK; simp only [go_sem, hP, hn]
      (repeat refine vc ?_)
      refine CallN_c1 (by rw [hP, hT]; exact Next_c Tm l j 32768 hl hj0 hj1 (by decide) (by decide) ) rfl rfl rfl trivial (by simp only [go_sem, hP, hn]; try trivial) (by simp only [go_sem, hP, hn]; try rfl) (by simp only [go_sem, hP, hn]; try rfl) (by rw [hn]; decide) (fun r ob' hr => ?_); obtain  ⟨v1, j2, rfl, rfl, e1, e2, b2, b3⟩ := hr; simp only [go_sem, hP, hn]; (repeat refine vc ?_)
      refine hK _ ?_; clear K hK
      (repeat (first | (refine TR.imp ?_; intro K hK; simp only [go_sem, hP, hn]; (repeat refine vc ?_); refine hK _ ?_; clear K hK) | refine TS.imp ?_))
      refine TR.imp ?_; intro K hK; simp only [go_sem, hP, hn]
      (repeat refine vc ?_)
      refine CallN_c1 (by rw [hP, hT]; exact Next_c Tm l j2 20 hl b2 b3 (by decide) (by decide) ) rfl rfl rfl trivial (by simp only [go_sem, hP, hn]; try trivial) (by simp only [go_sem, hP, hn]; try rfl) (by simp only [go_sem, hP, hn]; try rfl) (by rw [hn]; decide) (fun r ob' hr => ?_); obtain  ⟨v2, j3, rfl, rfl, e3, e4, b4, b5⟩ := hr; simp only [go_sem, hP, hn]; (repeat refine vc ?_)
      refine hK _ ?_; clear K hK
      (repeat (first | (refine TR.imp ?_; intro K hK; simp only [go_sem, hP, hn]; (repeat refine vc ?_); refine hK _ ?_; clear K hK) | refine TS.imp ?_))
      simp only [RetG, go_sem]; (repeat with_reducible refine vc ?_)
      exact ⟨_, rfl, ⟨10, [a], 0, 0, 0, 0, 0, 0, [], [], v1, v2, 0, 0, 0⟩, j3, rfl, rfl, made_rest hin hw1 hw3 (by decide) (fun _ => rfl) (fun h => absurd h (by decide)) (fun h => absurd rfl h) (fun _ => ⟨⟨e1, by omega⟩, e3, by omega⟩) (fun _ => ⟨rfl, rfl⟩) (fun h => absurd h (by decide)) (fun _ => ⟨by decide, by decide⟩), b4, b5⟩
    · have hk5 : kk = 5 ∨ kk = 11 := by simp only [beq_eq_false_iff_ne] at c1' c2' c6' c3' c4' c12' c9' c10'; omega
      (repeat (first | (refine TR.imp ?_; intro K hK; simp only [go_sem, hP, hn]; (repeat refine vc ?_); refine hK _ ?_; clear K hK) | refine TS.imp ?_))
      simp only [RetG, go_sem]; (repeat with_reducible refine vc ?_)
      exact ⟨_, rfl, ⟨kk, [a], 0, 0, 0, 0, 0, 0, [], [], 0, 0, 0, 0, 0⟩, j, rfl, rfl, made_rest hin hw1 hw3 (by omega) (fun _ => rfl) (fun h => by omega) (fun _ => ⟨rfl, rfl⟩) (fun h => by omega) (fun _ => ⟨rfl, rfl⟩) (fun h => by omega) (fun h => by have := hst h; omega), hj0, hj1⟩))
  clear hK
  have hq : k = 0 ∨ k = 1 ∨ k = 2 ∨ k = 3 ∨ k = 4 ∨ k = 5 ∨ k = 6 ∨ k = 7 ∨ k = 8 ∨ k = 9 ∨ k = 10 ∨ k = 11 := by omega
  rcases hq with rfl | rfl | rfl | rfl | rfl | rfl | rfl | rfl | rfl | rfl | rfl | rfl
  · simp only [go_sem, hP, hn]
    (repeat refine vc ?_)
    exact tail 1 _ (by decide) (fun e => by have := hks e; omega) (Le.mv (by simp only [go_sem, hP, hn]; first | done | (simp; done) | (simp [intC]; done) | (repeat (first | rfl | constructor))) (by simp only [go_sem, hP, hn]; first | done | (simp; done) | (simp [intC]; done) | (repeat (first | rfl | constructor))))
  · simp only [go_sem, hP, hn]
    (repeat refine vc ?_)
    exact tail 2 _ (by decide) (fun e => by have := hks e; omega) (Le.mv (by simp only [go_sem, hP, hn]; first | done | (simp; done) | (simp [intC]; done) | (repeat (first | rfl | constructor))) (by simp only [go_sem, hP, hn]; first | done | (simp; done) | (simp [intC]; done) | (repeat (first | rfl | constructor))))
  · simp only [go_sem, hP, hn]
    (repeat refine vc ?_)
    exact tail 3 _ (by decide) (fun e => by have := hks e; omega) (Le.mv (by simp only [go_sem, hP, hn]; first | done | (simp; done) | (simp [intC]; done) | (repeat (first | rfl | constructor))) (by simp only [go_sem, hP, hn]; first | done | (simp; done) | (simp [intC]; done) | (repeat (first | rfl | constructor))))
  · simp only [go_sem, hP, hn]
    (repeat refine vc ?_)
    exact tail 4 _ (by decide) (fun e => by have := hks e; omega) (Le.mv (by simp only [go_sem, hP, hn]; first | done | (simp; done) | (simp [intC]; done) | (repeat (first | rfl | constructor))) (by simp only [go_sem, hP, hn]; first | done | (simp; done) | (simp [intC]; done) | (repeat (first | rfl | constructor))))
  · simp only [go_sem, hP, hn]
    (repeat refine vc ?_)
    exact tail 12 _ (by decide) (fun e => by have := hks e; omega) (Le.mv (by simp only [go_sem, hP, hn]; first | done | (simp; done) | (simp [intC]; done) | (repeat (first | rfl | constructor))) (by simp only [go_sem, hP, hn]; first | done | (simp; done) | (simp [intC]; done) | (repeat (first | rfl | constructor))))
  · simp only [go_sem, hP, hn]
    (repeat refine vc ?_)
    exact tail 1 _ (by decide) (fun e => by have := hks e; omega) (Le.mv (by simp only [go_sem, hP, hn]; first | done | (simp; done) | (simp [intC]; done) | (repeat (first | rfl | constructor))) (by simp only [go_sem, hP, hn]; first | done | (simp; done) | (simp [intC]; done) | (repeat (first | rfl | constructor))))
  · simp only [go_sem, hP, hn]
    (repeat refine vc ?_)
    exact tail 5 _ (by decide) (fun e => by have := hks e; omega) (Le.mv (by simp only [go_sem, hP, hn]; first | done | (simp; done) | (simp [intC]; done) | (repeat (first | rfl | constructor))) (by simp only [go_sem, hP, hn]; first | done | (simp; done) | (simp [intC]; done) | (repeat (first | rfl | constructor))))
  · simp only [go_sem, hP, hn]
    (repeat refine vc ?_)
    exact tail 6 _ (by decide) (fun e => by have := hks e; omega) (Le.mv (by simp only [go_sem, hP, hn]; first | done | (simp; done) | (simp [intC]; done) | (repeat (first | rfl | constructor))) (by simp only [go_sem, hP, hn]; first | done | (simp; done) | (simp [intC]; done) | (repeat (first | rfl | constructor))))
  · simp only [go_sem, hP, hn]
    (repeat refine vc ?_)
    exact tail 9 _ (by decide) (fun e => by have := hks e; omega) (Le.mv (by simp only [go_sem, hP, hn]; first | done | (simp; done) | (simp [intC]; done) | (repeat (first | rfl | constructor))) (by simp only [go_sem, hP, hn]; first | done | (simp; done) | (simp [intC]; done) | (repeat (first | rfl | constructor))))
  · simp only [go_sem, hP, hn]
    (repeat refine vc ?_)
    exact tail 10 _ (by decide) (fun e => by have := hks e; omega) (Le.mv (by simp only [go_sem, hP, hn]; first | done | (simp; done) | (simp [intC]; done) | (repeat (first | rfl | constructor))) (by simp only [go_sem, hP, hn]; first | done | (simp; done) | (simp [intC]; done) | (repeat (first | rfl | constructor))))
  · simp only [go_sem, hP, hn]
    (repeat refine vc ?_)
    exact tail 11 _ (by decide) (fun e => by have := hks e; omega) (Le.mv (by simp only [go_sem, hP, hn]; first | done | (simp; done) | (simp [intC]; done) | (repeat (first | rfl | constructor))) (by simp only [go_sem, hP, hn]; first | done | (simp; done) | (simp [intC]; done) | (repeat (first | rfl | constructor))))
  · simp only [go_sem, hP, hn]
    (repeat refine vc ?_)
    exact tail 6 _ (by decide) (fun e => by have := hks e; omega) (Le.mv (by simp only [go_sem, hP, hn]; first | done | (simp; done) | (simp [intC]; done) | (repeat (first | rfl | constructor))) (by simp only [go_sem, hP, hn]; first | done | (simp; done) | (simp [intC]; done) | (repeat (first | rfl | constructor))))
end
theorem rate15_r {T : World → Prop} (Tm : TP T) (n : Nd) (l : List Int) (h0 : 0 < l.length) (hl : l.length ≤ 65536) : Ct Go.Proofs.Tryz.prog T 50 [.agg n.cs, .d (.row [.i .i64 0] (l.map intC))] true (fun r => r = .d (.i .i64 (n.rate l))) := by
  refine Ct_of Tm Go.Proofs.Tryz.func50 rfl rfl Go.Proofs.Tryz.ntmps50 (by simp) (rs := [.tmp 4]) rfl fun E hP hn hT => ?_
  (repeat (first | (refine TR.imp ?_; intro K hK; simp only [go_sem, hP, hn]; (repeat refine vc ?_); refine hK _ ?_; clear K hK) | refine TS.imp ?_))
  refine Tr.loop (fun m s => ∃ j : Int, s = ⟨[(1, .d (.row [.i .i64 0] (l.map intC))), (2, .ptr 2 0), (5, .d (.i .i64 (rd l 0))), (6, .d (.i .i64 j))], [(2, .box 50 n.cs)]⟩ ∧ 0 ≤ j ∧ j + m = l.length ∧ l.all (· == rd l 0) = (l.drop j.toNat).all (· == rd l 0)) l.length ⟨_, (Le.mv (by simp only [go_sem, hP, hn]; first | done | (simp; done) | (simp [intC]; done) | (repeat (first | rfl | constructor))) (by simp only [go_sem, hP, hn]; first | done | (simp; done) | (simp [intC]; done) | (repeat (first | rfl | constructor)))), 0, rfl, by omega, by omega, by simp⟩ ?_
  rintro m s ⟨j, rfl, j0, hm, hc⟩
  (repeat (first | (refine TR.imp ?_; intro K hK; simp only [go_sem, hP, hn]; (repeat refine vc ?_); refine hK _ ?_; clear K hK) | refine TS.imp ?_))
  refine Tr.cond rfl (fun hb => ?_) (fun hb => ?_)
  · have hj : j < l.length := by simpa using hb
    rw [drop_rd j0 hj, List.all_cons] at hc
    (repeat (first | (refine TR.imp ?_; intro K hK; simp only [go_sem, hP, hn]; (repeat refine vc ?_); refine hK _ ?_; clear K hK) | refine TS.imp ?_))
    refine Tr.cond rfl (fun hd => ?_) (fun hd => ?_)
    · (repeat (first | (refine TR.imp ?_; intro K hK; simp only [go_sem, hP, hn]; (repeat refine vc ?_); refine hK _ ?_; clear K hK) | refine TS.imp ?_))
      simp only [RetQ, go_sem]
      have e : l.all (· == rd l 0) = false := by
        rw [hc, show (rd l j == rd l 0) = false by simpa using hd, Bool.false_and]
      unfold Nd.rate; rw [if_pos e]
    · (repeat (first | (refine TR.imp ?_; intro K hK; simp only [go_sem, hP, hn]; (repeat refine vc ?_); refine hK _ ?_; clear K hK) | refine TS.imp ?_))
      rw [w64 (x := j + 1) (by omega) (by omega)]
      refine ⟨m - 1, _, by omega, ?_, j + 1, rfl, by omega, by omega, ?_⟩
      · exact (Le.mv (by simp only [go_sem, hP, hn]; first | done | (simp; done) | (simp [intC]; done) | (repeat (first | rfl | constructor))) (by simp only [go_sem, hP, hn]; first | done | (simp; done) | (simp [intC]; done) | (repeat (first | rfl | constructor))))
      rw [hc, show (rd l j == rd l 0) = true by simpa using hd, Bool.true_and, show (j + 1).toNat = j.toNat + 1 by omega]
  · rw [drop_end (by simpa using hb)] at hc
    have e : ¬ l.all (· == rd l 0) = false := by rw [hc]; simp
    (repeat (first | (refine TR.imp ?_; intro K hK; simp only [go_sem, hP, hn]; (repeat refine vc ?_); refine hK _ ?_; clear K hK) | refine TS.imp ?_))
    refine TR.imp ?_; intro K hK; simp only [go_sem, hP, hn]; (repeat refine vc ?_); refine c1 (by rw [hP, hT]; exact Windows_r Tm n.k) rfl rfl rfl trivial (by simp only [go_sem, hP, hn]; try trivial) (by simp only [go_sem, hP, hn]; try rfl) (by rw [hn]; decide) (by rfl) ?_; simp only [go_sem, hP, hn]; (repeat refine vc ?_); refine hK _ ?_; clear K hK
    (repeat (first | (refine TR.imp ?_; intro K hK; simp only [go_sem, hP, hn]; (repeat refine vc ?_); refine hK _ ?_; clear K hK) | refine TS.imp ?_))
    refine Tr.cond rfl (fun h1 => ?_) (fun h1 => ?_)
    · (repeat (first | (refine TR.imp ?_; intro K hK; simp only [go_sem, hP, hn]; (repeat refine vc ?_); refine hK _ ?_; clear K hK) | refine TS.imp ?_))
      simp only [RetQ, go_sem]
      unfold Nd.rate; rw [if_neg e, if_pos h1]
    (repeat (first | (refine TR.imp ?_; intro K hK; simp only [go_sem, hP, hn]; (repeat refine vc ?_); refine hK _ ?_; clear K hK) | refine TS.imp ?_))
    refine Tr.cond rfl (fun h2 => ?_) (fun h2 => ?_)
    · (repeat (first | (refine TR.imp ?_; intro K hK; simp only [go_sem, hP, hn]; (repeat refine vc ?_); refine hK _ ?_; clear K hK) | refine TS.imp ?_))
      simp only [RetQ, go_sem]
      unfold Nd.rate; rw [if_neg e, if_neg (by rw [h1]; decide), if_pos h2]
    (repeat (first | (refine TR.imp ?_; intro K hK; simp only [go_sem, hP, hn]; (repeat refine vc ?_); refine hK _ ?_; clear K hK) | refine TS.imp ?_))
    refine TR.imp ?_; intro K hK; simp only [go_sem, hP, hn]; (repeat refine vc ?_); refine c1 (by rw [hP, hT]; exact Step_r Tm n) rfl rfl rfl trivial (by simp only [go_sem, hP, hn]; try trivial) (by simp only [go_sem, hP, hn]; try rfl) (by rw [hn]; decide) (by rfl) ?_; simp only [go_sem, hP, hn]; (repeat refine vc ?_); refine hK _ ?_; clear K hK
    (repeat (first | (refine TR.imp ?_; intro K hK; simp only [go_sem, hP, hn]; (repeat refine vc ?_); refine hK _ ?_; clear K hK) | refine TS.imp ?_))
    simp only [RetQ, go_sem]
    unfold Nd.rate; rw [if_neg e, if_neg (by rw [h1]; decide), if_neg (by rw [h2]; decide)]
theorem rate16_r {T : World → Prop} (Tm : TP T) (n : Nd) (l : List Int) (h0 : 0 < l.length) (hl : l.length ≤ 65536) : Ct Go.Proofs.Tryz.prog T 41 [.agg n.cs, .d (.row [.i .i64 0] (l.map intC))] true (fun r => r = .d (.i .i64 (n.rate l))) := by
  refine Ct_of Tm Go.Proofs.Tryz.func41 rfl rfl Go.Proofs.Tryz.ntmps41 (by simp) (rs := [.tmp 4]) rfl fun E hP hn hT => ?_
  (repeat (first | (refine TR.imp ?_; intro K hK; simp only [go_sem, hP, hn]; (repeat refine vc ?_); refine hK _ ?_; clear K hK) | refine TS.imp ?_))
  refine Tr.loop (fun m s => ∃ j : Int, s = ⟨[(1, .d (.row [.i .i64 0] (l.map intC))), (2, .ptr 2 0), (5, .d (.i .i64 (rd l 0))), (6, .d (.i .i64 j))], [(2, .box 50 n.cs)]⟩ ∧ 0 ≤ j ∧ j + m = l.length ∧ l.all (· == rd l 0) = (l.drop j.toNat).all (· == rd l 0)) l.length ⟨_, (Le.mv (by simp only [go_sem, hP, hn]; first | done | (simp; done) | (simp [intC]; done) | (repeat (first | rfl | constructor))) (by simp only [go_sem, hP, hn]; first | done | (simp; done) | (simp [intC]; done) | (repeat (first | rfl | constructor)))), 0, rfl, by omega, by omega, by simp⟩ ?_
  rintro m s ⟨j, rfl, j0, hm, hc⟩
  (repeat (first | (refine TR.imp ?_; intro K hK; simp only [go_sem, hP, hn]; (repeat refine vc ?_); refine hK _ ?_; clear K hK) | refine TS.imp ?_))
  refine Tr.cond rfl (fun hb => ?_) (fun hb => ?_)
  · have hj : j < l.length := by simpa using hb
    rw [drop_rd j0 hj, List.all_cons] at hc
    (repeat (first | (refine TR.imp ?_; intro K hK; simp only [go_sem, hP, hn]; (repeat refine vc ?_); refine hK _ ?_; clear K hK) | refine TS.imp ?_))
    refine Tr.cond rfl (fun hd => ?_) (fun hd => ?_)
    · (repeat (first | (refine TR.imp ?_; intro K hK; simp only [go_sem, hP, hn]; (repeat refine vc ?_); refine hK _ ?_; clear K hK) | refine TS.imp ?_))
      simp only [RetQ, go_sem]
      have e : l.all (· == rd l 0) = false := by
        rw [hc, show (rd l j == rd l 0) = false by simpa using hd, Bool.false_and]
      unfold Nd.rate; rw [if_pos e]
    · (repeat (first | (refine TR.imp ?_; intro K hK; simp only [go_sem, hP, hn]; (repeat refine vc ?_); refine hK _ ?_; clear K hK) | refine TS.imp ?_))
      rw [w64 (x := j + 1) (by omega) (by omega)]
      refine ⟨m - 1, _, by omega, ?_, j + 1, rfl, by omega, by omega, ?_⟩
      · exact (Le.mv (by simp only [go_sem, hP, hn]; first | done | (simp; done) | (simp [intC]; done) | (repeat (first | rfl | constructor))) (by simp only [go_sem, hP, hn]; first | done | (simp; done) | (simp [intC]; done) | (repeat (first | rfl | constructor))))
      rw [hc, show (rd l j == rd l 0) = true by simpa using hd, Bool.true_and, show (j + 1).toNat = j.toNat + 1 by omega]
  · rw [drop_end (by simpa using hb)] at hc
    have e : ¬ l.all (· == rd l 0) = false := by rw [hc]; simp
    (repeat (first | (refine TR.imp ?_; intro K hK; simp only [go_sem, hP, hn]; (repeat refine vc ?_); refine hK _ ?_; clear K hK) | refine TS.imp ?_))
    refine TR.imp ?_; intro K hK; simp only [go_sem, hP, hn]; (repeat refine vc ?_); refine c1 (by rw [hP, hT]; exact Windows_r Tm n.k) rfl rfl rfl trivial (by simp only [go_sem, hP, hn]; try trivial) (by simp only [go_sem, hP, hn]; try rfl) (by rw [hn]; decide) (by rfl) ?_; simp only [go_sem, hP, hn]; (repeat refine vc ?_); refine hK _ ?_; clear K hK
    (repeat (first | (refine TR.imp ?_; intro K hK; simp only [go_sem, hP, hn]; (repeat refine vc ?_); refine hK _ ?_; clear K hK) | refine TS.imp ?_))
    refine Tr.cond rfl (fun h1 => ?_) (fun h1 => ?_)
    · (repeat (first | (refine TR.imp ?_; intro K hK; simp only [go_sem, hP, hn]; (repeat refine vc ?_); refine hK _ ?_; clear K hK) | refine TS.imp ?_))
      simp only [RetQ, go_sem]
      unfold Nd.rate; rw [if_neg e, if_pos h1]
    (repeat (first | (refine TR.imp ?_; intro K hK; simp only [go_sem, hP, hn]; (repeat refine vc ?_); refine hK _ ?_; clear K hK) | refine TS.imp ?_))
    refine Tr.cond rfl (fun h2 => ?_) (fun h2 => ?_)
    · (repeat (first | (refine TR.imp ?_; intro K hK; simp only [go_sem, hP, hn]; (repeat refine vc ?_); refine hK _ ?_; clear K hK) | refine TS.imp ?_))
      simp only [RetQ, go_sem]
      unfold Nd.rate; rw [if_neg e, if_neg (by rw [h1]; decide), if_pos h2]
    (repeat (first | (refine TR.imp ?_; intro K hK; simp only [go_sem, hP, hn]; (repeat refine vc ?_); refine hK _ ?_; clear K hK) | refine TS.imp ?_))
    refine TR.imp ?_; intro K hK; simp only [go_sem, hP, hn]; (repeat refine vc ?_); refine c1 (by rw [hP, hT]; exact Step_r Tm n) rfl rfl rfl trivial (by simp only [go_sem, hP, hn]; try trivial) (by simp only [go_sem, hP, hn]; try rfl) (by rw [hn]; decide) (by rfl) ?_; simp only [go_sem, hP, hn]; (repeat refine vc ?_); refine hK _ ?_; clear K hK
    (repeat (first | (refine TR.imp ?_; intro K hK; simp only [go_sem, hP, hn]; (repeat refine vc ?_); refine hK _ ?_; clear K hK) | refine TS.imp ?_))
    simp only [RetQ, go_sem]
    unfold Nd.rate; rw [if_neg e, if_neg (by rw [h1]; decide), if_neg (by rw [h2]; decide)]
theorem has_c {T : World → Prop} (Tm : TP T) (l : List Int) (x : Int) (hl : l.length ≤ 4096) : Ct Go.Proofs.Tryz.prog T 77 [.d (.row [.i .i64 0] (l.map intC)), .d (.i .i64 x)] true (fun r => r = .d (.b (l.contains x))) := by
  refine Ct_of Tm Go.Proofs.Tryz.func77 rfl rfl Go.Proofs.Tryz.ntmps77 (by simp) (rs := [.tmp 4]) rfl fun E hP hn hT => ?_
  (repeat (first | (refine TR.imp ?_; intro K hK; simp only [go_sem, hP, hn]; (repeat refine vc ?_); refine hK _ ?_; clear K hK) | refine TS.imp ?_))
  refine Tr.loop (fun n s => ∃ j : Int, s = ⟨[(0, .d (.row [.i .i64 0] (l.map intC))), (1, .d (.i .i64 x)), (5, .d (.i .i64 j))], []⟩ ∧ 0 ≤ j ∧ j + n = l.length ∧ l.contains x = (l.drop j.toNat).contains x) l.length ⟨_, (Le.mv (by simp only [go_sem, hP, hn]; first | done | (simp; done) | (simp [intC]; done) | (repeat (first | rfl | constructor))) (by simp only [go_sem, hP, hn]; first | done | (simp; done) | (simp [intC]; done) | (repeat (first | rfl | constructor)))), 0, rfl, by omega, by omega, by simp⟩ ?_
  rintro n s ⟨j, rfl, h0, h1, h2⟩
  (repeat (first | (refine TR.imp ?_; intro K hK; simp only [go_sem, hP, hn]; (repeat refine vc ?_); refine hK _ ?_; clear K hK) | refine TS.imp ?_))
  refine Tr.cond rfl (fun hb => ?_) (fun hb => ?_)
  · have hj : j < l.length := by simpa using hb
    (repeat (first | (refine TR.imp ?_; intro K hK; simp only [go_sem, hP, hn]; (repeat refine vc ?_); refine hK _ ?_; clear K hK) | refine TS.imp ?_))
    refine Tr.cond rfl (fun hb => ?_) (fun hb => ?_)
    · (repeat (first | (refine TR.imp ?_; intro K hK; simp only [go_sem, hP, hn]; (repeat refine vc ?_); refine hK _ ?_; clear K hK) | refine TS.imp ?_))
      simp only [RetQ, go_sem]
      rw [h2, drop_rd h0 hj]
      simp_all
    · (repeat (first | (refine TR.imp ?_; intro K hK; simp only [go_sem, hP, hn]; (repeat refine vc ?_); refine hK _ ?_; clear K hK) | refine TS.imp ?_))
      rw [w64 (by omega) (by omega)]
      refine ⟨n - 1, _, by omega, ?_, j + 1, rfl, by omega, by omega, ?_⟩
      · exact (Le.mv (by simp only [go_sem, hP, hn]; first | done | (simp; done) | (simp [intC]; done) | (repeat (first | rfl | constructor))) (by simp only [go_sem, hP, hn]; first | done | (simp; done) | (simp [intC]; done) | (repeat (first | rfl | constructor))))
      rw [h2, drop_rd h0 hj, List.contains_cons, show (x == rd l j) = false by rw [Bool.beq_comm]; exact hb, Bool.false_or]
  · (repeat (first | (refine TR.imp ?_; intro K hK; simp only [go_sem, hP, hn]; (repeat refine vc ?_); refine hK _ ?_; clear K hK) | refine TS.imp ?_))
    simp only [RetQ, go_sem]
    rw [h2, drop_end (by simpa using hb)]
    rfl
theorem first_r {T : World → Prop} (Tm : TP T) (wd lo hi out : Int) (ns : List Nd) (hns : ns.length ≤ 65536) (hin : ∀ n ∈ ns, n.inn.length ≤ 65536) : Ct Go.Proofs.Tryz.prog T 37 [.agg (gcs wd lo hi out (.d (rowN ns)))] true (fun r => r = .d (.i .i64 (mayG wd lo hi out ns))) := by
  refine Ct_of Tm Go.Proofs.Tryz.func37 rfl rfl Go.Proofs.Tryz.ntmps37 (by simp) (rs := [.tmp 2]) rfl fun E hP hn hT => ?_
  (repeat (first | (refine TR.imp ?_; intro K hK; simp only [go_sem, hP, hn]; (repeat refine vc ?_); refine hK _ ?_; clear K hK) | refine TS.imp ?_))
  refine Tr.cond rfl (fun h1 => ?_) (fun h1 => ?_)
  · (repeat (first | (refine TR.imp ?_; intro K hK; simp only [go_sem, hP, hn]; (repeat refine vc ?_); refine hK _ ?_; clear K hK) | refine TS.imp ?_))
    simp only [RetQ, go_sem]
    unfold mayG; rw [if_pos h1]
  (repeat (first | (refine TR.imp ?_; intro K hK; simp only [go_sem, hP, hn]; (repeat refine vc ?_); refine hK _ ?_; clear K hK) | refine TS.imp ?_))
  refine Tr.cond rfl (fun h2 => ?_) (fun h2 => ?_)
  · (repeat (first | (refine TR.imp ?_; intro K hK; simp only [go_sem, hP, hn]; (repeat refine vc ?_); refine hK _ ?_; clear K hK) | refine TS.imp ?_))
    simp only [RetQ, go_sem]
    unfold mayG; rw [if_neg (by rw [h1]; decide), if_pos (show mayQ wd lo hi out ns.length = true from h2)]
  have hN : ns.length ≤ 12 := by
    simp only [Bool.or_eq_false_iff, decide_eq_false_iff_not] at h1; omega
  have key : ∀ b, ns.all (mayN ns.length) = b → mayG wd lo hi out ns = if b = true then 0 else 1 := fun b e => by
    unfold mayG; rw [if_neg (by rw [h1]; decide), if_neg (show ¬ mayQ wd lo hi out ns.length = true from fun h => by rw [show mayQ wd lo hi out ns.length = false from h2] at h; cases h), e]
  clear h1 h2
  (repeat (first | (refine TR.imp ?_; intro K hK; simp only [go_sem, hP, hn]; (repeat refine vc ?_); refine hK _ ?_; clear K hK) | refine TS.imp ?_))
  refine Tr.le (Le.keep [1, 2, 3, 4]) ?_; simp only [List.map_cons, List.map_nil, lk, Nat.reduceEqDiff, reduceIte]
  refine Tr.loop (fun m s => ∃ (i : Int), s = ⟨[(1, .ptr 1 0), (2, .d (.i .i64 0)), (3, .d (.i .i64 ns.length)), (4, .d (.i .i64 i))], [(1, .box 28 (gcs wd lo hi out (.d (rowN ns))))]⟩ ∧ 0 ≤ i ∧ i + m = ns.length ∧ ns.all (mayN ns.length) = (ns.drop i.toNat).all (mayN ns.length)) ns.length ⟨_, (Le.mv (by simp only [go_sem, hP, hn]; first | done | (simp; done) | (simp [intC]; done) | (repeat (first | rfl | constructor))) (by simp only [go_sem, hP, hn]; first | done | (simp; done) | (simp [intC]; done) | (repeat (first | rfl | constructor)))), 0, rfl, by omega, by omega, by simp⟩ ?_
  rintro m s ⟨i, rfl, hi0, him, hall⟩
  (repeat (first | (refine TR.imp ?_; intro K hK; simp only [go_sem, hP, hn]; (repeat refine vc ?_); refine hK _ ?_; clear K hK) | refine TS.imp ?_))
  refine Tr.cond rfl (fun hb => ?_) (fun hb => ?_)
  · have hi1 : i < ns.length := by simpa using hb
    have hnd := rw_nd ns i hi0 hi1
    have hq := hin _ (nd_mem hi0 hi1)
    rw [drop_nd hi0 hi1, List.all_cons] at hall
    (repeat (first | (refine TR.imp ?_; intro K hK; simp only [go_sem, hP, hn]; (repeat refine vc ?_); refine hK _ ?_; clear K hK) | refine TS.imp ?_))
    refine Tr.le (Le.keep [1, 2, 3, 4, 5]) ?_; simp only [List.map_cons, List.map_nil, lk, Nat.reduceEqDiff, reduceIte]
    refine Tr.loop (fun m2 s => ∃ (j : Int), s = ⟨[(1, .ptr 1 0), (2, .d (.i .i64 0)), (3, .d (.i .i64 ns.length)), (4, .d (.i .i64 i)), (5, .d (.i .i64 j))], [(1, .box 28 (gcs wd lo hi out (.d (rowN ns))))]⟩ ∧ 0 ≤ j ∧ j + m2 = (nd ns i).inn.length ∧ mayN ns.length (nd ns i) = ((nd ns i).inn.drop j.toNat).all (inB · 0 ns.length)) (nd ns i).inn.length ⟨_, (Le.mv (by simp only [go_sem, hP, hn]; first | done | (simp; done) | (simp [intC]; done) | (repeat (first | rfl | constructor))) (by simp only [go_sem, hP, hn]; first | done | (simp; done) | (simp [intC]; done) | (repeat (first | rfl | constructor)))), 0, rfl, by omega, by omega, by simp [mayN]⟩ ?_
    rintro m2 s ⟨j, rfl, hj0, hjm, hqa⟩
    (repeat refine TS.imp ?_)
    refine TR.imp ?_; intro K hK; simp only [hnd, go_sem, hP, hn]; (repeat refine vc ?_); refine hK _ ?_; clear K hK
    (repeat refine TS.imp ?_)
    refine Tr.cond rfl (fun hc => ?_) (fun hc => ?_)
    · have hj : j < (nd ns i).inn.length := by simpa using hc
      rw [drop_rd hj0 hj, List.all_cons] at hqa
      (repeat refine TS.imp ?_)
      refine TR.imp ?_; intro K hK; simp only [hnd, go_sem, hP, hn]; (repeat refine vc ?_); refine hK _ ?_; clear K hK
      refine Tr.cond rfl (fun hd => ?_) (fun hd => ?_)
      · (repeat (first | (refine TR.imp ?_; intro K hK; simp only [go_sem, hP, hn]; (repeat refine vc ?_); refine hK _ ?_; clear K hK) | refine TS.imp ?_))
        simp only [RetQ, go_sem]
        have : inB (rd (nd ns i).inn j) 0 ns.length = false := by
          unfold inB; simp only [Bool.or_eq_true, decide_eq_true_eq] at hd; simp; omega
        rw [key false (by rw [hall, hqa, this, Bool.false_and, Bool.false_and])]; rfl
      · (repeat (first | (refine TR.imp ?_; intro K hK; simp only [go_sem, hP, hn]; (repeat refine vc ?_); refine hK _ ?_; clear K hK) | refine TS.imp ?_))
        rw [w64 (x := j + 1) (by omega) (by omega)]
        refine ⟨m2 - 1, _, by omega, ?_, j + 1, rfl, by omega, by omega, ?_⟩
        · exact (Le.mv (by simp only [go_sem, hP, hn]; first | done | (simp; done) | (simp [intC]; done) | (repeat (first | rfl | constructor))) (by simp only [go_sem, hP, hn]; first | done | (simp; done) | (simp [intC]; done) | (repeat (first | rfl | constructor))))
        have : inB (rd (nd ns i).inn j) 0 ns.length = true := by
          unfold inB; simp only [Bool.or_eq_false_iff, decide_eq_false_iff_not] at hd; simp; omega
        rw [hqa, this, Bool.true_and]
    · rw [drop_end (by simpa using hc)] at hqa
      (repeat (first | (refine TR.imp ?_; intro K hK; simp only [go_sem, hP, hn]; (repeat refine vc ?_); refine hK _ ?_; clear K hK) | refine TS.imp ?_))
      rw [w64 (x := i + 1) (by omega) (by omega)]
      refine ⟨m - 1, _, by omega, ?_, i + 1, rfl, by omega, by omega, ?_⟩
      · exact (Le.mv (by simp only [go_sem, hP, hn]; first | done | (simp; done) | (simp [intC]; done) | (repeat (first | rfl | constructor))) (by simp only [go_sem, hP, hn]; first | done | (simp; done) | (simp [intC]; done) | (repeat (first | rfl | constructor))))
      rw [hall, hqa]; rfl
  · rw [drop_end (by simpa using hb)] at hall
    (repeat (first | (refine TR.imp ?_; intro K hK; simp only [go_sem, hP, hn]; (repeat refine vc ?_); refine hK _ ?_; clear K hK) | refine TS.imp ?_))
    simp only [RetQ, go_sem]
    rw [key true (by rw [hall]; rfl)]; rfl
theorem cons0 (o : List Int) (x : Int) : (0 :: o).contains x = (x == 0 || o.contains x) := by simp only [List.contains_cons]
theorem order_r {T : World → Prop} (Tm : TP T) (wd lo hi out : Int) (ns : List Nd) (hns : ns.length ≤ 12) (hin : ∀ n ∈ ns, n.inn.length ≤ 65536) : Cg Go.Proofs.Tryz.prog T 38 [] [.agg (gcs wd lo hi out (.d (rowN ns)))] (fun r H => H = [] ∧ r = .d (.row [.i .i64 0] ((order ns).map intC))) := by
  refine Cg_of [] Tm Go.Proofs.Tryz.func38 rfl rfl Go.Proofs.Tryz.ntmps38 (by simp) rfl (rs := [.tmp 2]) rfl fun E hP hn hT hpn => ?_
  (repeat (first | (refine TR.imp ?_; intro K hK; simp only [go_sem, hP, hn]; (repeat refine vc ?_); refine hK _ ?_; clear K hK) | refine TS.imp ?_))
  refine Tr.le (Le.keep [1, 3, 4]) ?_; simp only [List.map_cons, List.map_nil, lk, Nat.reduceEqDiff, reduceIte]
  refine Tr.le (Le.ren 9 3001 (by rw [hpn] <;> rfl) rfl rfl) ?_; simp only [renT, renH, renO, renS, renL, rn, go_sem, hP, hn]
  refine Tr.loop (fun m s => ∃ (k : Int) (o : List Int), s = ⟨[(1, .ptr 1 0), (3, .own 3001), (4, .d (.i .i64 k))], [(1, .box 28 (gcs wd lo hi out (.d (rowN ns)))), (3001, .row 3 [.i .i64 0] ((0 :: o).map intC))]⟩ ∧ 0 ≤ k ∧ k + m = ns.length ∧ order ns = ordR ns m o ∧ (o.length : Int) ≤ k) ns.length ⟨_, (Le.mv (by simp only [go_sem, hP, hn]; first | done | (simp; done) | (simp [intC]; done) | (repeat (first | rfl | constructor))) (by simp only [go_sem, hP, hn]; first | done | (simp; done) | (simp [intC]; done) | (repeat (first | rfl | constructor)))), 0, [], rfl, by omega, by omega, rfl, by simp⟩ ?_
  rintro m s ⟨k, o, rfl, hk0, hkm, hord, hok⟩
  (repeat (first | (refine TR.imp ?_; intro K hK; simp only [go_sem, hP, hn]; (repeat refine vc ?_); refine hK _ ?_; clear K hK) | refine TS.imp ?_))
  refine Tr.cond rfl (fun hb => ?_) (fun hb => ?_)
  · have hk : k < ns.length := by simpa using hb
    have hnx0 : order ns = match nextO ns o ns.length 1 with
      | none => ordR ns (m - 1) o
      | some i => ordR ns (m - 1) (o ++ [i]) := by
      rw [hord]
      obtain ⟨m', rfl⟩ : ∃ m', m = m' + 1 := ⟨m - 1, by omega⟩
      rfl
    (repeat (first | (refine TR.imp ?_; intro K hK; simp only [go_sem, hP, hn]; (repeat refine vc ?_); refine hK _ ?_; clear K hK) | refine TS.imp ?_))
    refine Tr.le (Le.keep [1, 3, 4, 5]) ?_; simp only [List.map_cons, List.map_nil, lk, Nat.reduceEqDiff, reduceIte]
    refine Tr.loop (fun m2 s => ∃ (i : Int), s = ⟨[(1, .ptr 1 0), (3, .own 3001), (4, .d (.i .i64 k)), (5, .d (.i .i64 i))], [(1, .box 28 (gcs wd lo hi out (.d (rowN ns)))), (3001, .row 3 [.i .i64 0] ((0 :: o).map intC))]⟩ ∧ 1 ≤ i ∧ i + m2 = ns.length + 1 ∧ nextO ns o ns.length 1 = nextO ns o m2 i) ns.length ⟨_, (Le.mv (by simp only [go_sem, hP, hn]; first | done | (simp; done) | (simp [intC]; done) | (repeat (first | rfl | constructor))) (by simp only [go_sem, hP, hn]; first | done | (simp; done) | (simp [intC]; done) | (repeat (first | rfl | constructor)))), 1, rfl, by omega, by omega, rfl⟩ ?_
    rintro m2 s ⟨i, rfl, hi0, him, hnx⟩
    (repeat (first | (refine TR.imp ?_; intro K hK; simp only [go_sem, hP, hn]; (repeat refine vc ?_); refine hK _ ?_; clear K hK) | refine TS.imp ?_))
    refine Tr.cond rfl (fun hc => ?_) (fun hc => ?_)
    · have hi1 : i ≤ ns.length := by simpa using hc
      obtain ⟨m3, rfl⟩ : ∃ m3, m2 = m3 + 1 := ⟨m2 - 1, by omega⟩
      have hiw : wrap64 (i - 1) = i - 1 := w64 (by omega) (by omega)
      have hnd := rw_nd ns (i - 1) (by omega) (by omega)
      have hq := hin _ (nd_mem (ns := ns) (i := i - 1) (by omega) (by omega))
      have hmay : mayO ns o i = (!(0 :: o).contains i && (nd ns (i - 1)).inn.all fun j => (0 :: o).contains j) := by
        unfold mayO
        simp only [cons0, show (i == (0 : Int)) = false by simpa using (by omega : i ≠ 0), Bool.false_or]
      have hol : (0 :: o).length ≤ 4096 := by simp; omega
      (repeat refine TS.imp ?_)
      refine TR.imp ?_; intro K hK; simp only [go_sem, hP, hn]
      (repeat refine vc ?_)
      refine c1 (by rw [hP, hT]; exact has_c Tm (0 :: o) i hol) rfl rfl rfl trivial (by simp only [go_sem, hP, hn]; try trivial) (by simp only [go_sem, hP, hn]; try rfl) (by rw [hn]; decide) (by rfl) ?_; simp only [go_sem, hP, hn]; (repeat refine vc ?_)
      refine hK _ ?_; clear K hK
      refine Tr.le (Le.keep [1, 3, 4, 5, 6]) ?_; simp only [List.map_cons, List.map_nil, lk, Nat.reduceEqDiff, reduceIte]
      (repeat refine TS.imp ?_)
      refine TR.imp ?_; intro K hK; simp only [hiw, hnd, go_sem, hP, hn]; (repeat refine vc ?_); refine hK _ ?_; clear K hK
      generalize nd ns (i - 1) = q at hq hmay ⊢
      (repeat (first | (refine TR.imp ?_; intro K hK; simp only [go_sem, hP, hn]; (repeat refine vc ?_); refine hK _ ?_; clear K hK) | refine TS.imp ?_))
      refine Tr.le (Le.keep [1, 3, 4, 5, 6, 7, 8]) ?_; simp only [List.map_cons, List.map_nil, lk, Nat.reduceEqDiff, reduceIte]
      refine Tr.loop (fun m4 s => ∃ (j : Int) (mv : Bool), s = ⟨[(1, .ptr 1 0), (3, .own 3001), (4, .d (.i .i64 k)), (5, .d (.i .i64 i)), (6, .d (.b mv)), (7, .d (.row [.i .i64 0] (q.inn.map intC))), (8, .d (.i .i64 j))], [(1, .box 28 (gcs wd lo hi out (.d (rowN ns)))), (3001, .row 3 [.i .i64 0] ((0 :: o).map intC))]⟩ ∧ 0 ≤ j ∧ j + m4 = q.inn.length ∧ mayO ns o i = (mv && (q.inn.drop j.toNat).all fun j => (0 :: o).contains j)) q.inn.length ⟨_, (Le.mv (by simp only [go_sem, hP, hn]; first | done | (simp; done) | (simp [intC]; done) | (repeat (first | rfl | constructor))) (by simp only [go_sem, hP, hn]; first | done | (simp; done) | (simp [intC]; done) | (repeat (first | rfl | constructor)))), 0, _, rfl, by omega, by omega, hmay⟩ ?_
      rintro m4 s ⟨j, mv, rfl, hj0, hjm, hmv⟩
      (repeat (first | (refine TR.imp ?_; intro K hK; simp only [go_sem, hP, hn]; (repeat refine vc ?_); refine hK _ ?_; clear K hK) | refine TS.imp ?_))
      refine Tr.cond rfl (fun hd => ?_) (fun hd => ?_)
      · have hj : j < q.inn.length := by simpa using hd
        rw [drop_rd hj0 hj, List.all_cons, ← Bool.and_assoc] at hmv
        (repeat refine TS.imp ?_)
        refine TR.imp ?_; intro K hK; simp only [go_sem, hP, hn]
        (repeat refine vc ?_)
        refine c2 (fun hg => by rw [hP, hT]; exact has_c Tm (0 :: o) (rd q.inn j) hol) rfl rfl rfl (fun hg => trivial) (fun hg => by clear hK; revert hg; simp only [go_sem, hP, hn]; first | trivial | omega | (simp; done) | (simp +contextual; done) | grind) (fun hg => by simp only [go_sem, hP, hn]; try rfl) (by rw [hn]; decide) (by rfl) ?_; simp only [go_sem, hP, hn]; (repeat refine vc ?_)
        (repeat refine vc ?_)
        refine hK _ ?_; clear K hK
        (repeat (first | (refine TR.imp ?_; intro K hK; simp only [go_sem, hP, hn]; (repeat refine vc ?_); refine hK _ ?_; clear K hK) | refine TS.imp ?_))
        rw [w64 (x := j + 1) (by omega) (by omega)]
        refine ⟨m4 - 1, _, by omega, ?_, j + 1, (mv && (0 :: o).contains (rd q.inn j)), rfl, by omega, by omega, hmv⟩
        exact (Le.mv (by simp only [go_sem, hP, hn]; first | done | (simp; done) | (simp [intC]; done) | (repeat (first | rfl | constructor))) (by simp only [go_sem, hP, hn]; first | done | (simp; done) | (simp [intC]; done) | (repeat (first | rfl | constructor))))
      · rw [drop_end (by simpa using hd)] at hmv
        have hmv2 : mayO ns o i = mv := by rw [hmv]; simp
        (repeat (first | (refine TR.imp ?_; intro K hK; simp only [go_sem, hP, hn]; (repeat refine vc ?_); refine hK _ ?_; clear K hK) | refine TS.imp ?_))
        refine Tr.cond rfl (fun he => ?_) (fun he => ?_)
        · subst he
          (repeat (first | (refine TR.imp ?_; intro K hK; simp only [go_sem, hP, hn]; (repeat refine vc ?_); refine hK _ ?_; clear K hK) | refine TS.imp ?_))
          rw [w64 (x := k + 1) (by omega) (by omega)]
          refine ⟨m - 1, _, by omega, ?_, k + 1, o ++ [i], rfl, by omega, by omega, ?_, by simp; omega⟩
          · refine Le.trans (b := ⟨[(1, .ptr 1 0), (3, .own 54), (4, .d (.i .i64 (k + 1)))], [(1, .box 28 (gcs wd lo hi out (.d (rowN ns)))), (54, .row 3 [.i .i64 0] ((0 :: (o ++ [i])).map intC))]⟩) (Le.mv (by simp only [go_sem, hP, hn]; first | done | (simp; done) | (simp [intC]; done) | (repeat (first | rfl | constructor))) (by simp only [go_sem, hP, hn]; first | done | (simp; done) | (simp [intC]; done) | (repeat (first | rfl | constructor)))) ?_
            refine Le.trans (Le.ren 54 3001 (by rw [hpn] <;> rfl) rfl rfl) ?_; simp only [renT, renH, renO, renS, renL, rn, go_sem, hP, hn]
            exact (Le.mv (by simp only [go_sem, hP, hn]; first | done | (simp; done) | (simp [intC]; done) | (repeat (first | rfl | constructor))) (by simp only [go_sem, hP, hn]; first | done | (simp; done) | (simp [intC]; done) | (repeat (first | rfl | constructor))))
          · rw [hnx0, hnx]; show (match (if mayO ns o i = true then some i else _) with | none => _ | some i => _) = _; rw [if_pos hmv2]
        · subst he
          (repeat (first | (refine TR.imp ?_; intro K hK; simp only [go_sem, hP, hn]; (repeat refine vc ?_); refine hK _ ?_; clear K hK) | refine TS.imp ?_))
          rw [w64 (x := i + 1) (by omega) (by omega)]
          refine ⟨m3, _, by omega, ?_, i + 1, rfl, by omega, by omega, ?_⟩
          · exact (Le.mv (by simp only [go_sem, hP, hn]; first | done | (simp; done) | (simp [intC]; done) | (repeat (first | rfl | constructor))) (by simp only [go_sem, hP, hn]; first | done | (simp; done) | (simp [intC]; done) | (repeat (first | rfl | constructor))))
          · rw [hnx]; show (if mayO ns o i = true then _ else _) = _; rw [if_neg (by rw [hmv2]; decide)]
    · have hm2 : m2 = 0 := by have := of_decide_eq_false hc; omega
      subst hm2
      (repeat (first | (refine TR.imp ?_; intro K hK; simp only [go_sem, hP, hn]; (repeat refine vc ?_); refine hK _ ?_; clear K hK) | refine TS.imp ?_))
      rw [w64 (x := k + 1) (by omega) (by omega)]
      refine ⟨m - 1, _, by omega, ?_, k + 1, o, rfl, by omega, by omega, ?_, by omega⟩
      · exact (Le.mv (by simp only [go_sem, hP, hn]; first | done | (simp; done) | (simp [intC]; done) | (repeat (first | rfl | constructor))) (by simp only [go_sem, hP, hn]; first | done | (simp; done) | (simp [intC]; done) | (repeat (first | rfl | constructor))))
      · rw [hnx0, hnx]; rfl
  · have hm : m = 0 := by have := of_decide_eq_false hb; omega
    subst hm
    refine Tr.le (Le.freeze 3001) ?_
    simp only [go_sem, hP, hn]
    (repeat refine TS.imp ?_)
    refine TR.imp ?_; intro K hK; simp only [go_sem, hP, hn]; (repeat refine vc ?_); refine hK _ ?_; clear K hK
    (repeat refine TS.imp ?_)
    simp only [RetG, go_sem]; (repeat with_reducible refine vc ?_)
    rw [hord, List.take_of_length_le (by simp)]; rfl
/-- what ref16.Look tells, walking along an order -/
def lookM (ns : List Nd) : List Int → List Int → List Int → Int × List Int × List Int
  | [], W, R => (0, W, R)
  | i :: r, W, R =>
    if ((nd ns (i - 1)).rchk ((nd ns (i - 1)).inn.map (rd W)) != 0) = true then ((nd ns (i - 1)).rchk ((nd ns (i - 1)).inn.map (rd W)), [], [])
    else if decide ((nd ns (i - 1)).rate ((nd ns (i - 1)).inn.map (rd R)) < 0) = true then (15, [], [])
    else lookM ns r (W.set i.toNat ((nd ns (i - 1)).rwide ((nd ns (i - 1)).inn.map (rd W)))) (R.set i.toNat ((nd ns (i - 1)).rate ((nd ns (i - 1)).inn.map (rd R))))
def lookR (wd lo hi out : Int) (ns : List Nd) : Int × List Int × List Int × List Int :=
  if (mayG wd lo hi out ns != 0) = true then (mayG wd lo hi out ns, [], [], [])
  else if decide (((order ns).length : Int) < ns.length) = true then (13, [], [], [])
  else match lookM ns (order ns) (wd :: List.replicate ns.length 0) (1 :: List.replicate ns.length 0) with
    | (e, W, R) => if (e != 0) = true then (e, [], [], []) else (0, order ns, W, R)
theorem lookM_cons (ns : List Nd) (i : Int) (r W R : List Int) : lookM ns (i :: r) W R = if ((nd ns (i - 1)).rchk ((nd ns (i - 1)).inn.map (rd W)) != 0) = true then ((nd ns (i - 1)).rchk ((nd ns (i - 1)).inn.map (rd W)), [], [])
    else if decide ((nd ns (i - 1)).rate ((nd ns (i - 1)).inn.map (rd R)) < 0) = true then (15, [], [])
    else lookM ns r (W.set i.toNat ((nd ns (i - 1)).rwide ((nd ns (i - 1)).inn.map (rd W)))) (R.set i.toNat ((nd ns (i - 1)).rate ((nd ns (i - 1)).inn.map (rd R)))) := rfl
def rtup (q : Int × List Int × List Int × List Int) : S := .agg [.d (.row [.i .i64 0] (q.2.1.map intC)), .d (.row [.i .i64 0] (q.2.2.1.map intC)), .d (.row [.i .i64 0] (q.2.2.2.map intC)), .d (.i .i64 q.1)]
theorem rd_set_same {l : List Int} {i v : Int} (hi : 0 ≤ i) (hi2 : i < l.length) : rd (l.set i.toNat v) i = v := by
  unfold rd
  rw [List.getD_eq_getElem?_getD, List.getElem?_set, if_pos rfl, if_pos (by omega)]; rfl
theorem Look_r {T : World → Prop} (Tm : TP T) (wd lo hi out : Int) (ns : List Nd) (hns : ns.length ≤ 65536) (hin : ∀ n ∈ ns, n.inn.length ≤ 4096 ∧ n.ws.length ≤ 65536 ∧ n.bs.length ≤ 65536) : Cg Go.Proofs.Tryz.prog T 26 [] [.agg (gcs wd lo hi out (.d (rowN ns)))] (fun r H => H = [] ∧ r = rtup (lookR wd lo hi out ns)) := by
  refine Cg_of [] Tm Go.Proofs.Tryz.func26 rfl rfl Go.Proofs.Tryz.ntmps26 (by simp) rfl (rs := [.cell 2 59]) rfl fun E hP hn hT hpn => ?_
  (repeat refine TS.imp ?_)
  refine TR.imp ?_; intro K hK; simp only [go_sem, hP, hn]; (repeat refine vc ?_); refine hK _ ?_; clear K hK
  (repeat refine TS.imp ?_)
  refine TR.imp ?_; intro K hK; simp only [go_sem, hP, hn]
  (repeat refine vc ?_)
  refine c1 (by rw [hP, hT]; exact first_r Tm wd lo hi out ns hns (fun n h => by have := hin n h; omega)) rfl rfl rfl trivial (by simp only [go_sem, hP, hn]; try trivial) (by simp only [go_sem, hP, hn]; try rfl) (by rw [hn]; decide) (by rfl) ?_; simp only [go_sem, hP, hn]; (repeat refine vc ?_)
  refine hK _ ?_; clear K hK
  (repeat (first | (refine TR.imp ?_; intro K hK; simp only [go_sem, hP, hn]; (repeat refine vc ?_); refine hK _ ?_; clear K hK) | refine TS.imp ?_))
  refine Tr.cond rfl (fun h1 => ?_) (fun h1 => ?_)
  · (repeat refine TS.imp ?_)
    refine TR.imp ?_; intro K hK; simp only [go_sem, hP, hn]; (repeat refine vc ?_); refine hK _ ?_; clear K hK
    refine Tr.le (Le.wbox 2 [.d (.row [.i .i64 0] []), .d (.row [.i .i64 0] []), .d (.row [.i .i64 0] []), _] rfl ⟨.inr ⟨rfl, _, rfl⟩, .inr ⟨rfl, _, rfl⟩, .inr ⟨rfl, _, rfl⟩, .inl rfl, trivial⟩) ?_; simp only [go_sem, hP, hn]
    (repeat (first | (refine TR.imp ?_; intro K hK; simp only [go_sem, hP, hn]; (repeat refine vc ?_); refine hK _ ?_; clear K hK) | refine TS.imp ?_))
    simp only [RetG, go_sem]; (repeat with_reducible refine vc ?_)
    rw [show lookR wd lo hi out ns = (mayG wd lo hi out ns, [], [], []) from if_pos h1]; rfl
  have hmay : mayG wd lo hi out ns = 0 := bne_eq_false_iff_eq.mp h1
  have hLG : lookR wd lo hi out ns = if decide (((order ns).length : Int) < ns.length) = true then (13, [], [], []) else match lookM ns (order ns) (wd :: List.replicate ns.length 0) (1 :: List.replicate ns.length 0) with | (e, W, R) => if (e != 0) = true then (e, [], [], []) else (0, order ns, W, R) := by
    unfold lookR; rw [if_neg (by rw [h1]; decide)]
  have hN := mayG_ok hmay
  clear h1
  (repeat refine TS.imp ?_)
  refine TR.imp ?_; intro K hK; simp only [go_sem, hP, hn]
  (repeat refine vc ?_)
  refine CallN_cs (Hi := [] ) (by rw [hP, hT]; exact  order_r Tm wd lo hi out ns hN.2.1 (fun n h => by have := hin n h; omega)) rfl rfl rfl trivial (by simp only [go_sem, hP, hn]; try trivial) (by simp only [go_sem, hP, hn]; try rfl) (by simp only [inH, go_sem, hP, hn]; try simp) (by rw [hn]; decide) ?_; simp only [go_sem, hP, hn]; (repeat refine vc ?_)
  refine hK _ ?_; clear K hK
  (repeat (first | (refine TR.imp ?_; intro K hK; simp only [go_sem, hP, hn]; (repeat refine vc ?_); refine hK _ ?_; clear K hK) | refine TS.imp ?_))
  refine Tr.cond rfl (fun h2 => ?_) (fun h2 => ?_)
  · (repeat refine TS.imp ?_)
    refine TR.imp ?_; intro K hK; simp only [go_sem, hP, hn]; (repeat refine vc ?_); refine hK _ ?_; clear K hK
    refine Tr.le (Le.wbox 2 [.d (.row [.i .i64 0] []), .d (.row [.i .i64 0] []), .d (.row [.i .i64 0] []), _] rfl ⟨.inr ⟨rfl, _, rfl⟩, .inr ⟨rfl, _, rfl⟩, .inr ⟨rfl, _, rfl⟩, .inl rfl, trivial⟩) ?_; simp only [go_sem, hP, hn]
    (repeat (first | (refine TR.imp ?_; intro K hK; simp only [go_sem, hP, hn]; (repeat refine vc ?_); refine hK _ ?_; clear K hK) | refine TS.imp ?_))
    simp only [RetG, go_sem]; (repeat with_reducible refine vc ?_)
    rw [hLG, if_pos h2]; rfl
  rw [if_neg (by rw [h2]; decide)] at hLG
  have hle := (ordR_length (ns := ns) ns.length []).2
  have hol : (order ns).length = ns.length := by
    have := of_decide_eq_false h2
    have h3 : (order ns).length ≤ ns.length := by
      show (ordR ns ns.length []).length ≤ _
      simpa using hle
    omega
  have hor : ∀ x ∈ order ns, 1 ≤ x ∧ x ≤ ns.length := ordR_range (by simp)
  clear h2 hle
  generalize hos : order ns = os at hLG hol hor ⊢
  (repeat refine TS.imp ?_)
  refine Tr.le (Le.keep [1, 2, 4]) ?_; simp only [List.map_cons, List.map_nil, lk, Nat.reduceEqDiff, reduceIte]
  refine Tr.meet (fun s => s = ⟨[(1, .ptr 1 0), (2, .ptr 2 0), (4, .d (.row [.i .i64 0] (os.map intC))), (5, .ptr 5 0)], [(1, .box 28 (gcs wd lo hi out (.d (rowN ns)))), (2, .box 59 [.d .nil, .d .nil, .d .nil, .d (.i .i64 0)]), (5, .box 59 [.d (.row [.i .i64 0] (os.map intC)), .own 32, .own 37, .d (.i .i64 0)]), (32, .row 3 [.i .i64 0] ((List.replicate (ns.length + 1) 0).map intC)), (37, .row 3 [.i .i64 0] ((List.replicate (ns.length + 1) 0).map intC))]⟩) ?_ ?_
  rotate_left
  · refine d5 (.p true 0 (.p true 1 (.p true 2 (.p true 3 (.p true 4 (.p true 6 (.p true 7 (.p true 8 (.p true 9 (.alt 5 (.alt 10 (.p false 11 (.alt 12 (.alt 13 .nil .nil) .nil)) (.alt 12 (.alt 10 (.p false 11 (.alt 13 .nil .nil)) .nil) .nil)) (.alt 10 (.alt 5 (.p false 11 (.alt 12 (.alt 13 .nil .nil) .nil)) (.alt 12 (.alt 5 (.p false 11 (.alt 13 .nil .nil)) .nil) .nil)) (.alt 12 (.alt 5 (.alt 10 (.p false 11 (.alt 13 .nil .nil)) .nil) (.alt 10 (.alt 5 (.p false 11 (.alt 13 .nil .nil)) .nil) .nil)) .nil)))))))))))) [] (by rw [hP]; kernel_rfl) (by kernel_rfl) (by simp only [go_sem, hP, hn]; try simp) (by exact fun _ _ h => h) ?_; intro K hK; simp only [go_sem, hP, hn]
    simp only [show wrap64 ((ns.length : Int) + 1) = ((ns.length + 1 : Nat) : Int) from w64 (by omega) (by omega), Int.toNat_natCast]
    (repeat' (refine And.intro ?_ ?_)); all_goals (first | (refine hK _ ?_; (refine ⟨_, ?_, rfl⟩; exact (Le.mv (by simp only [go_sem, hP, hn]; first | done | (simp; done) | (simp [intC]; done) | (repeat (first | rfl | constructor))) (by simp only [go_sem, hP, hn]; first | done | (simp; done) | (simp [intC]; done) | (repeat (first | rfl | constructor)))))) | (first | trivial | omega | (simp <;> omega) | (simp +contextual; done) | (clear hK; grind)))
  rintro s rfl
  (repeat (first | (refine TR.imp ?_; intro K hK; simp only [go_sem, hP, hn]; (repeat refine vc ?_); refine hK _ ?_; clear K hK) | refine TS.imp ?_))
  rw [show (List.replicate (ns.length + 1) (0 : Int)).set 0 1 = 1 :: List.replicate ns.length 0 from rfl, show (List.replicate (ns.length + 1) (0 : Int)).set 0 wd = wd :: List.replicate ns.length 0 from rfl]
  refine Tr.le (Le.keep [1, 2, 4, 5, 6]) ?_; simp only [List.map_cons, List.map_nil, lk, Nat.reduceEqDiff, reduceIte]
  refine Tr.loop (fun m s => ∃ (k : Int) (W R : List Int), s = ⟨[(1, .ptr 1 0), (2, .ptr 2 0), (4, .d (.row [.i .i64 0] (os.map intC))), (5, .ptr 5 0), (6, .d (.i .i64 k))], [(1, .box 28 (gcs wd lo hi out (.d (rowN ns)))), (2, .box 59 [.d .nil, .d .nil, .d .nil, .d (.i .i64 0)]), (5, .box 59 [.d (.row [.i .i64 0] (os.map intC)), .own 32, .own 37, .d (.i .i64 0)]), (32, .row 3 [.i .i64 0] (W.map intC)), (37, .row 3 [.i .i64 0] (R.map intC))]⟩ ∧ 0 ≤ k ∧ k + m = os.length ∧ W.length = ns.length + 1 ∧ R.length = ns.length + 1 ∧ lookM ns os (wd :: List.replicate ns.length 0) (1 :: List.replicate ns.length 0) = lookM ns (os.drop k.toNat) W R) os.length ⟨_, (Le.mv (by simp only [go_sem, hP, hn]; first | done | (simp; done) | (simp [intC]; done) | (repeat (first | rfl | constructor))) (by simp only [go_sem, hP, hn]; first | done | (simp; done) | (simp [intC]; done) | (repeat (first | rfl | constructor)))), 0, wd :: List.replicate ns.length 0, 1 :: List.replicate ns.length 0, rfl, by omega, by omega, by simp, by simp, rfl⟩ ?_
  rintro m s ⟨k, W, R, rfl, hk0, hkm, hWl, hRl, hL⟩
  (repeat (first | (refine TR.imp ?_; intro K hK; simp only [go_sem, hP, hn]; (repeat refine vc ?_); refine hK _ ?_; clear K hK) | refine TS.imp ?_))
  refine Tr.cond rfl (fun hb => ?_) (fun hb => ?_)
  · have hk1 : k < os.length := by simpa using hb
    rw [drop_rd hk0 hk1, lookM_cons] at hL
    have hiB := hor _ (rd_mem hk0 hk1)
    have hiw : wrap64 (rd os k - 1) = rd os k - 1 := w64 (by omega) (by omega)
    have hnd := rw_nd ns (rd os k - 1) (by omega) (by omega)
    have hmem := nd_mem (ns := ns) (i := rd os k - 1) (by omega) (by omega)
    have hq := hin _ hmem
    have hqi := hN.2.2 _ hmem
    (repeat refine TS.imp ?_)
    refine Tr.meet (fun s => s = ⟨[(1, .ptr 1 0), (2, .ptr 2 0), (4, .d (.row [.i .i64 0] (os.map intC))), (5, .ptr 5 0), (6, .d (.i .i64 k)), (7, .ptr 7 0)], [(7, .box 50 (nd ns (rd os k - 1)).cs), (1, .box 28 (gcs wd lo hi out (.d (rowN ns)))), (2, .box 59 [.d .nil, .d .nil, .d .nil, .d (.i .i64 0)]), (5, .box 59 [.d (.row [.i .i64 0] (os.map intC)), .own 32, .own 37, .d (.i .i64 0)]), (32, .row 3 [.i .i64 0] (W.map intC)), (37, .row 3 [.i .i64 0] (R.map intC))]⟩) ?_ ?_
    rotate_left
    · refine d5 (.p true 0 (.p true 1 (.p true 2 (.p true 3 (.p true 4 (.p true 5 (.p true 6 (.p true 7 (.p true 8 (.alt 9 (.alt 10 .nil .nil) .nil)))))))))) [] (by rw [hP]; kernel_rfl) (by kernel_rfl) (by simp only [go_sem, hP, hn]; try simp) (by exact fun _ _ h => h) ?_; intro K hK; simp only [go_sem, hP, hn]
      simp only [hiw, hnd, go_sem, hP, hn]
      (repeat' (refine And.intro ?_ ?_)); all_goals (first | (refine hK _ ?_; (refine ⟨_, ?_, rfl⟩; exact (Le.mv (by simp only [go_sem, hP, hn]; first | done | (simp; done) | (simp [intC]; done) | (repeat (first | rfl | constructor))) (by simp only [go_sem, hP, hn]; first | done | (simp; done) | (simp [intC]; done) | (repeat (first | rfl | constructor)))))) | (first | trivial | omega | (simp <;> omega) | (simp +contextual; done) | (clear hK; grind)))
    rintro s rfl
    clear hiw hnd hmem
    generalize nd ns (rd os k - 1) = q at hq hqi hL ⊢
    have hqW : ∀ x ∈ q.inn, (0 ≤ x ∧ x < W.length) ∧ x < R.length := fun x hx => by have := hqi x hx; omega
    have hml : (q.inn.map (rd W)).length ≤ 65536 := by rw [List.length_map]; omega
    have hmr : (q.inn.map (rd R)).length ≤ 65536 := by rw [List.length_map]; omega
    (repeat refine TS.imp ?_)
    refine TR.imp ?_; intro K hK; simp only [go_sem, hP, hn]; (repeat refine vc ?_); refine hK _ ?_; clear K hK
    (repeat refine TS.imp ?_)
    refine TR.imp ?_; intro K hK; simp only [go_sem, hP, hn]; (repeat refine vc ?_); refine hK _ ?_; clear K hK
    (repeat refine TS.imp ?_)
    refine TR.imp ?_; intro K hK; simp only [go_sem, hP, hn]; (repeat refine vc ?_); refine hK _ ?_; clear K hK
    (repeat refine TS.imp ?_)
    refine Tr.le (Le.keep [1, 2, 4, 5, 6, 7, 8, 9, 10]) ?_; simp only [List.map_cons, List.map_nil, lk, Nat.reduceEqDiff, reduceIte]
    refine Tr.le (Le.nilslot 3001 8 3 [.i .i64 0] rfl (by rw [hpn] <;> rfl) rfl rfl) ?_
    refine Tr.le (Le.nilslot 3002 9 3 [.i .i64 0] rfl (by rw [hpn] <;> rfl) rfl rfl) ?_
    refine Tr.loop (fun m2 s => ∃ (j : Int), s = ⟨[(1, .ptr 1 0), (2, .ptr 2 0), (4, .d (.row [.i .i64 0] (os.map intC))), (5, .ptr 5 0), (6, .d (.i .i64 k)), (7, .ptr 7 0), (8, .own 3001), (9, .own 3002), (10, .d (.i .i64 j))], [(3001, .row 3 [.i .i64 0] (((q.inn.take j.toNat).map (rd W)).map intC)), (3002, .row 3 [.i .i64 0] (((q.inn.take j.toNat).map (rd R)).map intC)), (7, .box 50 q.cs), (1, .box 28 (gcs wd lo hi out (.d (rowN ns)))), (2, .box 59 [.d .nil, .d .nil, .d .nil, .d (.i .i64 0)]), (5, .box 59 [.d (.row [.i .i64 0] (os.map intC)), .own 32, .own 37, .d (.i .i64 0)]), (32, .row 3 [.i .i64 0] (W.map intC)), (37, .row 3 [.i .i64 0] (R.map intC))]⟩ ∧ 0 ≤ j ∧ j + m2 = q.inn.length) q.inn.length ⟨_, (Le.mv (by simp only [go_sem, hP, hn]; first | done | (simp; done) | (simp [intC]; done) | (repeat (first | rfl | constructor))) (by simp only [go_sem, hP, hn]; first | done | (simp; done) | (simp [intC]; done) | (repeat (first | rfl | constructor)))), 0, rfl, by omega, by omega⟩ ?_
    rintro m2 s ⟨j, rfl, hj0, hjm⟩
    (repeat (first | (refine TR.imp ?_; intro K hK; simp only [go_sem, hP, hn]; (repeat refine vc ?_); refine hK _ ?_; clear K hK) | refine TS.imp ?_))
    refine Tr.cond rfl (fun hc => ?_) (fun hc => ?_)
    · have hj : j < q.inn.length := by simpa using hc
      have hjx := hqW _ (rd_mem hj0 hj)
      have htl : (q.inn.take j.toNat).length = j.toNat := by simp; omega
      refine Tr.le (Le.keep [1, 2, 4, 5, 6, 7, 8, 9, 10]) ?_; simp only [List.map_cons, List.map_nil, lk, Nat.reduceEqDiff, reduceIte]
      (repeat refine TS.imp ?_)
      refine d5 (.p true 0 (.p true 1 (.p true 2 (.p true 3 (.p true 4 (.p true 5 (.p true 6 (.p true 7 (.p true 8 (.p true 9 (.alt 10 (.alt 11 (.p false 12 .nil) .nil) .nil))))))))))) [3001] (by rw [hP]; kernel_rfl) (by kernel_rfl) (by simp only [go_sem, hP, hn]; try simp) (by exact fun _ _ h => h) ?_; intro K hK; simp only [go_sem, hP, hn]
      simp only [htl]
      (repeat refine vc ?_)
      refine hK _ ?_; clear K hK
      refine Tr.le (Le.keep [1, 2, 4, 5, 6, 7, 8, 9, 10]) ?_; simp only [List.map_cons, List.map_nil, lk, Nat.reduceEqDiff, reduceIte]
      (repeat refine TS.imp ?_)
      refine d5 (.p true 0 (.p true 1 (.p true 2 (.p true 3 (.p true 4 (.p true 5 (.p true 6 (.p true 7 (.p true 8 (.p true 9 (.alt 10 (.alt 11 (.p false 12 .nil) .nil) .nil))))))))))) [3002] (by rw [hP]; kernel_rfl) (by kernel_rfl) (by simp only [go_sem, hP, hn]; try simp) (by exact fun _ _ h => h) ?_; intro K hK; simp only [go_sem, hP, hn]
      simp only [htl]
      (repeat refine vc ?_)
      refine hK _ ?_; clear K hK
      (repeat (first | (refine TR.imp ?_; intro K hK; simp only [go_sem, hP, hn]; (repeat refine vc ?_); refine hK _ ?_; clear K hK) | refine TS.imp ?_))
      rw [w64 (x := j + 1) (by omega) (by omega)]
      have htk : (q.inn.take (j + 1).toNat).map (rd W) = (q.inn.take j.toNat).map (rd W) ++ [rd W (rd q.inn j)] := by rw [take_rd hj0 hj, List.map_append]; rfl
      have htk2 : (q.inn.take (j + 1).toNat).map (rd R) = (q.inn.take j.toNat).map (rd R) ++ [rd R (rd q.inn j)] := by rw [take_rd hj0 hj, List.map_append]; rfl
      refine ⟨m2 - 1, _, by omega, ?_, j + 1, rfl, by omega, by omega⟩
      rw [htk, htk2]
      refine Le.trans (b := ⟨[(1, .ptr 1 0), (2, .ptr 2 0), (4, .d (.row [.i .i64 0] (os.map intC))), (5, .ptr 5 0), (6, .d (.i .i64 k)), (7, .ptr 7 0), (8, .own 80), (9, .own 92), (10, .d (.i .i64 (j + 1)))], [(80, .row 3 [.i .i64 0] (((q.inn.take j.toNat).map (rd W) ++ [rd W (rd q.inn j)]).map intC)), (92, .row 3 [.i .i64 0] (((q.inn.take j.toNat).map (rd R) ++ [rd R (rd q.inn j)]).map intC)), (7, .box 50 q.cs), (1, .box 28 (gcs wd lo hi out (.d (rowN ns)))), (2, .box 59 [.d .nil, .d .nil, .d .nil, .d (.i .i64 0)]), (5, .box 59 [.d (.row [.i .i64 0] (os.map intC)), .own 32, .own 37, .d (.i .i64 0)]), (32, .row 3 [.i .i64 0] (W.map intC)), (37, .row 3 [.i .i64 0] (R.map intC))]⟩) (Le.mv (by simp only [go_sem, hP, hn]; first | done | (simp; done) | (simp [intC]; done) | (repeat (first | rfl | constructor))) (by simp only [go_sem, hP, hn]; first | done | (simp; done) | (simp [intC]; done) | (repeat (first | rfl | constructor)))) ?_
      refine Le.trans (Le.ren 80 3001 (by rw [hpn] <;> rfl) rfl rfl) ?_; simp only [renT, renH, renO, renS, renL, rn, go_sem, hP, hn]
      refine Le.trans (Le.ren 92 3002 (by rw [hpn] <;> rfl) rfl rfl) ?_; simp only [renT, renH, renO, renS, renL, rn, go_sem, hP, hn]
      exact (Le.mv (by simp only [go_sem, hP, hn]; first | done | (simp; done) | (simp [intC]; done) | (repeat (first | rfl | constructor))) (by simp only [go_sem, hP, hn]; first | done | (simp; done) | (simp [intC]; done) | (repeat (first | rfl | constructor))))
    · rw [List.take_of_length_le (by have := of_decide_eq_false hc; omega)]
      (repeat refine TS.imp ?_)
      refine Tr.le (Le.keep [1, 2, 4, 5, 6, 7, 8, 9]) ?_; simp only [List.map_cons, List.map_nil, lk, Nat.reduceEqDiff, reduceIte]
      (repeat refine TS.imp ?_)
      refine TR.imp ?_; intro K hK; simp only [go_sem, hP, hn]; (repeat refine vc ?_); refine c1 (by rw [hP, hT]; exact Check_r Tm q (q.inn.map (rd W)) (by omega) (by omega) hml (by omega)) rfl rfl rfl trivial (by simp only [go_sem, hP, hn]; try trivial) (by simp only [go_sem, hP, hn]; try rfl) (by rw [hn]; decide) (by rfl) ?_; simp only [go_sem, hP, hn]; (repeat refine vc ?_); refine hK _ ?_; clear K hK
      (repeat (first | (refine TR.imp ?_; intro K hK; simp only [go_sem, hP, hn]; (repeat refine vc ?_); refine hK _ ?_; clear K hK) | refine TS.imp ?_))
      refine Tr.cond rfl (fun hd => ?_) (fun hd => ?_)
      · rw [if_pos hd] at hL
        (repeat refine TS.imp ?_)
        refine TR.imp ?_; intro K hK; simp only [go_sem, hP, hn]; (repeat refine vc ?_); refine hK _ ?_; clear K hK
        refine Tr.le (Le.wbox 2 [.d (.row [.i .i64 0] []), .d (.row [.i .i64 0] []), .d (.row [.i .i64 0] []), _] rfl ⟨.inr ⟨rfl, _, rfl⟩, .inr ⟨rfl, _, rfl⟩, .inr ⟨rfl, _, rfl⟩, .inl rfl, trivial⟩) ?_; simp only [go_sem, hP, hn]
        (repeat (first | (refine TR.imp ?_; intro K hK; simp only [go_sem, hP, hn]; (repeat refine vc ?_); refine hK _ ?_; clear K hK) | refine TS.imp ?_))
        simp only [RetG, go_sem]; (repeat with_reducible refine vc ?_)
        rw [hLG, hL]; simp only [if_pos hd]; rfl
      rw [if_neg (by rw [hd]; decide)] at hL
      have hc0 : q.rchk (q.inn.map (rd W)) = 0 := bne_eq_false_iff_eq.mp hd
      have hpos : 0 < q.inn.length := by
        rcases Nat.eq_zero_or_pos q.inn.length with h | h
        · rw [List.eq_nil_of_length_eq_zero h, ← chk_eq] at hc0; exact absurd hc0 (Nd.chk_ne q)
        · exact h
      (repeat refine TS.imp ?_)
      refine Tr.le (Le.keep [1, 2, 4, 5, 6, 7, 8, 9]) ?_; simp only [List.map_cons, List.map_nil, lk, Nat.reduceEqDiff, reduceIte]
      refine d5 (.p true 0 (.p true 1 (.p true 2 (.p true 3 (.p true 4 (.p true 5 (.p true 6 (.p true 7 (.alt 8 (.p true 9 (.alt 10 .nil .nil)) .nil))))))))) [32] (by rw [hP]; kernel_rfl) (by kernel_rfl) (by simp only [go_sem, hP, hn]; try simp) (by exact fun _ _ h => h) ?_; intro K hK; simp only [go_sem, hP, hn]
      (repeat refine vc ?_)
      refine p1 (by rw [hP, hT]; exact Width_r Tm q (q.inn.map (rd W)) (by omega) (by omega) hml (by omega)) rfl rfl rfl trivial (by simp only [go_sem, hP, hn]; try trivial) (by simp only [go_sem, hP, hn]; try rfl) (by rw [hn]; decide) (by rfl) ?_; simp only [go_sem, hP, hn]; (repeat refine vc ?_)
      refine hK _ ?_; clear K hK
      refine Tr.le (Le.keep [1, 2, 4, 5, 6, 7, 8, 9]) ?_; simp only [List.map_cons, List.map_nil, lk, Nat.reduceEqDiff, reduceIte]
      refine d5 (.p true 0 (.p true 1 (.p true 2 (.p true 3 (.p true 4 (.p true 5 (.p true 6 (.p true 7 (.alt 8 (.p true 9 (.alt 10 .nil .nil)) .nil))))))))) [37] (by rw [hP]; kernel_rfl) (by kernel_rfl) (by simp only [go_sem, hP, hn]; try simp) (by exact fun _ _ h => h) ?_; intro K hK; simp only [go_sem, hP, hn]
      (repeat refine vc ?_)
      refine p1 (by rw [hP, hT]; exact rate16_r Tm q (q.inn.map (rd R)) (by simpa using hpos) hmr) rfl rfl rfl trivial (by simp only [go_sem, hP, hn]; try trivial) (by simp only [go_sem, hP, hn]; try rfl) (by rw [hn]; decide) (by rfl) ?_; simp only [go_sem, hP, hn]; (repeat refine vc ?_)
      refine hK _ ?_; clear K hK
      refine Tr.le (Le.keep [1, 2, 4, 5, 6, 7, 8, 9]) ?_; simp only [List.map_cons, List.map_nil, lk, Nat.reduceEqDiff, reduceIte]
      refine d5 (.p true 0 (.p true 1 (.p true 2 (.p true 3 (.p true 4 (.p true 5 (.p true 6 (.p true 7 (.p true 8 .nil))))))))) [] (by rw [hP]; kernel_rfl) (by kernel_rfl) (by simp only [go_sem, hP, hn]; try simp) (by exact fun _ _ h => h) ?_; intro K hK; simp only [go_sem, hP, hn]
      simp only [List.length_set]
      (repeat refine vc ?_)
      rw [rd_set_same (by omega) (by omega)]
      refine hK _ ?_; clear K hK
      refine Tr.cond rfl (fun he => ?_) (fun he => ?_)
      · rw [if_pos he] at hL
        (repeat refine TS.imp ?_)
        refine TR.imp ?_; intro K hK; simp only [go_sem, hP, hn]; (repeat refine vc ?_); refine hK _ ?_; clear K hK
        refine Tr.le (Le.wbox 2 [.d (.row [.i .i64 0] []), .d (.row [.i .i64 0] []), .d (.row [.i .i64 0] []), _] rfl ⟨.inr ⟨rfl, _, rfl⟩, .inr ⟨rfl, _, rfl⟩, .inr ⟨rfl, _, rfl⟩, .inl rfl, trivial⟩) ?_; simp only [go_sem, hP, hn]
        (repeat (first | (refine TR.imp ?_; intro K hK; simp only [go_sem, hP, hn]; (repeat refine vc ?_); refine hK _ ?_; clear K hK) | refine TS.imp ?_))
        simp only [RetG, go_sem]; (repeat with_reducible refine vc ?_)
        rw [hLG, hL]; rfl
      rw [if_neg (by rw [he]; decide)] at hL
      (repeat (first | (refine TR.imp ?_; intro K hK; simp only [go_sem, hP, hn]; (repeat refine vc ?_); refine hK _ ?_; clear K hK) | refine TS.imp ?_))
      rw [w64 (x := k + 1) (by omega) (by omega)]
      refine ⟨m - 1, _, by omega, ?_, k + 1, W.set (rd os k).toNat (q.rwide (q.inn.map (rd W))), R.set (rd os k).toNat (q.rate (q.inn.map (rd R))), rfl, by omega, by omega, by simpa using hWl, by simpa using hRl, hL⟩
      exact (Le.mv (by simp only [go_sem, hP, hn]; first | done | (simp; done) | (simp [intC]; done) | (repeat (first | rfl | constructor))) (by simp only [go_sem, hP, hn]; first | done | (simp; done) | (simp [intC]; done) | (repeat (first | rfl | constructor))))
  rw [drop_end (by simpa using hb)] at hL
  (repeat (first | (refine TR.imp ?_; intro K hK; simp only [go_sem, hP, hn]; (repeat refine vc ?_); refine hK _ ?_; clear K hK) | refine TS.imp ?_))
  simp only [RetG, go_sem]; (repeat with_reducible refine vc ?_)
  rw [hLG, hL]; rfl
end Go.Proofs.YtgomeljgbjgbkaaGreatDoor.Aw
