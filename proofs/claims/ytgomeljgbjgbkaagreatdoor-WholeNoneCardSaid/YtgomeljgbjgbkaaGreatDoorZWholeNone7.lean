/- The abstract walk, and contracts of Go functions: each call returns what the Lean function named tells. Conditions: those that each theorem names, none else. -/
import Derived.Test.YtgomeljgbjgbkaaGreatDoorZWholeNone6
set_option linter.unusedVariables false
set_option linter.unusedSimpArgs false
set_option maxRecDepth 100000
set_option maxHeartbeats 4000000
namespace Go.Proofs.YtgomeljgbjgbkaaGreatDoor.Aw
open Go.RowKit
attribute [local go_sem_proc] Nat.reduceAdd Nat.reduceMul Nat.reduceSub Nat.reduceEqDiff Nat.reduceLeDiff Nat.reduceBEq Nat.reduceBNe Int.reduceToNat reduceIte reduceCtorEq
attribute [local go_sem] initT SQ so pe he ev lk constS stp stc gdS nth pickS pickD loadS cellsAt okAt fieldAddrS fieldS partS indexAddrS indexS extractS binS binD binI isShift unS convS lenS sliceS bndI bndC mmS mm2 mmD builtS fillS okCells cellsS splS solid aliveL alive okS boxS allocS makeS bsliceS elemsOf dcells stF frzW storeS frzA frzK oneS1 srcR rwsOf hdO appR frz frzT frzS frzL frzO frzH appS srcS appVC killS killT killC killH killO k1 k2 S.has S.hasL St.add St.upd dropH lh cond_or cond_and rw_intC rw_intC0 rw_set rw_app rw_apps rw_rep rw_slice wr64 cond_true cond_false true_and and_true List.map_cons List.map_nil List.length_cons List.length_nil List.drop_succ_cons List.drop_zero List.take_succ_cons List.take_zero List.nil_append List.cons_append List.getD_cons_zero List.getD_cons_succ List.headD_cons List.length_map ite_true ite_false if_true if_false Bool.false_eq_true and_self forall_const List.drop_nil List.take_nil List.append_nil Option.map_some Option.map_none List.mapM_cons List.mapM_nil Option.bind_eq_bind Option.bind_some Option.pure_def knows resL resV oneS freshS freshL cv cvL stpL stcL or_true true_or or_false false_or List.all_cons List.all_nil Bool.and_self Bool.or_self Bool.true_and Bool.and_true Bool.or_false Bool.false_or implies_true flatD allm_nil allm_cons List.getElem?_cons_zero List.getElem?_cons_succ Nd.cs Nd.ds ml mln Option.isSome_some Option.isSome_none eq_self Int.toNat_natCast AP ldOk isLd inL subL crt chg chgS chgP idxs aliveW Option.toList_some Option.toList_none Option.toList RetG Nd.win frzA offK keepH aliveK nkH closedH closedO keysK inH St.upd rowO List.contains_cons List.contains_nil Bool.or_self Option.isNone_none Option.isNone_some Bool.not_true Bool.not_false gcs rowN e0N frzC
attribute [local go_sem] sz2 ag2 ok2 kk2 iu2 zc2 zd2 by2 sz3 ag3 ok3 kk3 iu3 zc3 zd3 by3 sz4 ag4 ok4 bo4 zc4 zd4 by4 sz5 ag5 ok5 kk5 iu5 zc5 zd5 by5 sz9 ag9 ok9 st9 zc9 zd9 by9 sz12 ag12 ok12 kk12 iu12 zc12 zd12 by12 sz15 ag15 ok15 zc15 by15 sz16 ag16 ok16 zc16 by16 sz21 ag21 ok21 kk21 iu21 zc21 zd21 by21 sz22 ag22 ok22 sl22 zc22 zd22 by22 sz23 ag23 ok23 zc23 zd23 pl23 by23 fl23_0 fl23_1 fl23_2 sz24 ag24 ok24 zc24 zd24 pl24 by24 fl24_0 fl24_1 fl24_2 sz26 ag26 ok26 sl26 zc26 zd26 by26 sz27 ag27 ok27 zc27 zd27 pl27 by27 fl27_0 fl27_1 fl27_2 fl27_3 fl27_4 sz28 ag28 ok28 zc28 zd28 pl28 by28 fl28_0 fl28_1 fl28_2 fl28_3 fl28_4 sz29 ag29 ok29 sl29 zc29 zd29 by29 sz32 ag32 ok32 sl32 zc32 zd32 by32 sz33 ag33 ok33 kk33 iu33 zc33 zd33 by33 sz36 ag36 ok36 zc36 zd36 pl36 by36 fl36_0 fl36_1 sz37 ag37 ok37 zc37 zd37 pl37 by37 fl37_0 fl37_1 sz49 ag49 ok49 zc49 zd49 pl49 by49 fl49_0 fl49_1 fl49_2 fl49_3 fl49_4 fl49_5 fl49_6 fl49_7 fl49_8 fl49_9 fl49_10 fl49_11 fl49_12 fl49_13 fl49_14 sz50 ag50 ok50 zc50 zd50 pl50 by50 fl50_0 fl50_1 fl50_2 fl50_3 fl50_4 fl50_5 fl50_6 fl50_7 fl50_8 fl50_9 fl50_10 fl50_11 fl50_12 fl50_13 fl50_14 sz53 ag53 ok53 zc53 by53 sz55 ag55 ok55 zc55 zd55 pl55 by55 fl55_0 fl55_1 fl55_2 sz56 ag56 ok56 zc56 zd56 pl56 by56 fl56_0 fl56_1 fl56_2 sz58 ag58 ok58 zc58 zd58 pl58 by58 fl58_0 fl58_1 fl58_2 fl58_3 sz59 ag59 ok59 zc59 zd59 pl59 by59 fl59_0 fl59_1 fl59_2 fl59_3 sz66 ag66 ok66 zc66 zd66 pl66 by66 fl66_0 fl66_1 fl66_2 sz67 ag67 ok67 zc67 zd67 pl67 by67 fl67_0 fl67_1 fl67_2 sz79 ag79 ok79 zc79 by79 sz80 ag80 ok80 zc80 zd80 pl80 by80 fl80_0 fl80_1 sz81 ag81 ok81 zc81 zd81 pl81 by81 fl81_0 fl81_1 sz105 ag105 ok105 sl105 ar105 zc105 zd105 pl105 by105 sz108 ag108 ok108 sl108 ar108 zc108 zd108 pl108 by108 sz109 ag109 ok109 zc109 by109 sz115 ag115 ok115 zc115 zd115 pl115 by115 fl115_0 fl115_1 sz116 ag116 ok116 zc116 zd116 pl116 by116 fl116_0 fl116_1 sz120 ag120 ok120 zc120 zd120 pl120 by120 fl120_0 fl120_1 sz121 ag121 ok121 sl121 ar121 zc121 zd121 pl121 by121 sz124 ag124 ok124 kk124 iu124 zc124 zd124 by124 sz133 ag133 ok133 kk133 iu133 zc133 zd133 by133 sz137 ag137 ok137 zc137 by137
section
attribute [local go_sem] rtup frD insD
/-! frames, or a graph, that are not right -/
def errS (wd lo hi out : Int) (ns : List Nd) (fs : List (List Int)) : Int := if ((lookG wd lo hi out ns).1 != 0) = true then (lookG wd lo hi out ns).1 else mayE wd lo hi fs
theorem Streams_e {T : World → Prop} (Tm : TP T) (wd lo hi out : Int) (ns : List Nd) (fs : List (List Int)) (hwd : 1 ≤ wd ∧ wd ≤ 65536) (hns : ns.length ≤ 4000) (hin : ∀ n ∈ ns, n.inn.length ≤ 4096 ∧ n.ws.length ≤ 65536 ∧ n.bs.length ≤ 65536) (hfl : fs.length ≤ 65536) (he : errS wd lo hi out ns fs ≠ 0) :
    Cg Go.Proofs.Tryz.prog T 9 [] [.agg (gcs wd lo hi out (.d (rowN ns))), .d (frD fs)] (fun r H => H = [] ∧ r = .agg [.d .nil, .d (.i .i64 (errS wd lo hi out ns fs))]) := by
  have cL := Look_r Tm wd lo hi out ns (by omega) hin
  rw [← look_same] at cL
  unfold errS at he ⊢
  generalize lookG wd lo hi out ns = q at *
  obtain ⟨E0, os, W, R⟩ := q
  simp only at he ⊢
  refine Cg_of [] Tm Go.Proofs.Tryz.func9 rfl rfl Go.Proofs.Tryz.ntmps9 (by simp) rfl (rs := [.cell 4 37]) rfl fun E hP hn hT hpn => ?_
  (repeat refine TS.imp ?_)
  refine TR.imp ?_; intro K hK; simp only [go_sem, hP, hn]; (repeat refine vc ?_); refine hK _ ?_; clear K hK
  (repeat refine TS.imp ?_)
  refine TR.imp ?_; intro K hK; simp only [go_sem, hP, hn]
  (repeat refine vc ?_)
  refine CallN_cs (Hi := [] ) (by rw [hP, hT]; exact  cL) rfl rfl rfl trivial (by simp only [go_sem, hP, hn]; try trivial) (by simp only [go_sem, hP, hn]; try rfl) (by simp only [inH, go_sem, hP, hn]; try simp) (by rw [hn]; decide) ?_; simp only [go_sem, hP, hn]; (repeat refine vc ?_)
  refine hK _ ?_; clear K hK
  (repeat refine TS.imp ?_)
  refine TR.imp ?_; intro K hK; simp only [go_sem, hP, hn]; (repeat refine vc ?_); refine hK _ ?_; clear K hK
  (repeat refine TS.imp ?_)
  refine Tr.cond rfl (fun hb => ?_) (fun hb => ?_)
  · rw [if_pos hb]
    (repeat (first | (refine TR.imp ?_; intro K hK; simp only [go_sem, hP, hn]; (repeat refine vc ?_); refine hK _ ?_; clear K hK) | refine TS.imp ?_))
    simp only [RetG, go_sem]; (repeat with_reducible refine vc ?_)
    all_goals omega
  rw [if_neg (by rw [hb]; decide)] at he ⊢
  have hE0 : E0 = 0 := by simpa using hb
  subst hE0
  clear hb
  (repeat refine TS.imp ?_)
  refine Tr.le (Le.keep [1, 2, 4, 5]) ?_; simp only [List.map_cons, List.map_nil, lk, Nat.reduceEqDiff, reduceIte]
  refine Tr.le (Le.fz 5 5 [.row [.i .i64 0] (os.map intC), .row [.i .i64 0] (W.map intC), .row [.i .i64 0] (R.map intC), .i .i64 0] rfl rfl rfl) ?_
  simp only [go_sem, hP, hn]
  (repeat refine TS.imp ?_)
  refine TR.imp ?_; intro K hK; simp only [go_sem, hP, hn]; (repeat refine vc ?_); refine hK _ ?_; clear K hK
  (repeat refine TS.imp ?_)
  generalize hE : mayE wd lo hi fs = R1
  rw [hE] at he
  refine Tr.loop (fun q s => ∃ i : Int, s = ⟨[(1, .d (frD fs)), (2, .ptr 2 0), (4, .ptr 4 0), (5, .fptr [.row [.i .i64 0] (os.map intC), .row [.i .i64 0] (W.map intC), .row [.i .i64 0] (R.map intC), .i .i64 0]), (6, .d (.i .i64 i))], [(2, .box 28 (gcs wd lo hi out (.d (rowN ns)))), (4, .box 37 [.d .nil, .d (.i .i64 0)])]⟩ ∧ 0 ≤ i ∧ i + q = fs.length ∧ mayE wd lo hi (fs.drop i.toNat) = R1) fs.length ⟨_, ?_, 0, rfl, by omega, by omega, hE⟩ ?_
  · exact (Le.mv (by simp only [go_sem, hP, hn]; first | done | (simp; done) | (simp [intC]; done) | (repeat (first | rfl | constructor))) (by simp only [go_sem, hP, hn]; first | done | (simp; done) | (simp [intC]; done) | (repeat (first | rfl | constructor))))
  rintro q s ⟨i, rfl, i0, iq, hii⟩
  (repeat refine TS.imp ?_)
  refine TR.imp ?_; intro K hK; simp only [go_sem, hP, hn]; (repeat refine vc ?_); refine hK _ ?_; clear K hK
  (repeat refine TS.imp ?_)
  refine Tr.cond rfl (fun hb => ?_) (fun hb => ?_)
  · have hi1 : i < fs.length := by simpa using hb
    clear hb
    have hrf := rw_fr fs i i0 hi1
    rw [drop_fr i0 hi1, mayE] at hii
    have w2 : wrap64 (i + 1) = i + 1 := w64 (by omega) (by omega)
    (repeat refine TS.imp ?_)
    refine d5 (.p true 0 (.p true 1 (.p true 2 (.p true 3 (.p true 4 (.p true 5 (.p true 6 (.p true 7 .nil)))))))) [] (by rw [hP]; kernel_rfl) (by kernel_rfl) (by simp only [go_sem, hP, hn]; try simp) (by exact fun _ _ h => h) ?_; intro K hK; simp only [go_sem, hP, hn]
    rw [hrf]
    simp only [go_sem, hP, hn]
    (repeat refine vc ?_)
    refine hK _ ?_; clear K hK
    (repeat refine TS.imp ?_)
    refine Tr.cond rfl (fun hc => ?_) (fun hc => ?_)
    · have hf : frE18 wd lo hi (fr fs i) = 14 := if_pos hc
      rw [hf, if_pos (by decide)] at hii
      subst hii
      (repeat (first | (refine TR.imp ?_; intro K hK; simp only [go_sem, hP, hn]; (repeat refine vc ?_); refine hK _ ?_; clear K hK) | refine TS.imp ?_))
      simp only [RetG, go_sem]; (repeat with_reducible refine vc ?_)
      all_goals omega
    have hf : frE18 wd lo hi (fr fs i) = if (fr fs i).all (inW lo hi) = true then 0 else 16 := by unfold frE18; rw [if_neg (by rw [hc]; decide)]
    have hfw : ((fr fs i).length : Int) = wd := by simpa using hc
    clear hc
    (repeat refine TS.imp ?_)
    refine TR.imp ?_; intro K hK; simp only [go_sem, hP, hn]; (repeat refine vc ?_); refine hK _ ?_; clear K hK
    (repeat refine TS.imp ?_)
    refine Tr.loop (fun p s => ∃ k : Int, s = ⟨[(1, .d (frD fs)), (2, .ptr 2 0), (4, .ptr 4 0), (5, .fptr [.row [.i .i64 0] (os.map intC), .row [.i .i64 0] (W.map intC), .row [.i .i64 0] (R.map intC), .i .i64 0]), (6, .d (.i .i64 i)), (7, .d (.i .i64 k))], [(2, .box 28 (gcs wd lo hi out (.d (rowN ns)))), (4, .box 37 [.d .nil, .d (.i .i64 0)])]⟩ ∧ 0 ≤ k ∧ k + p = wd ∧ (fr fs i).all (inW lo hi) = ((fr fs i).drop k.toNat).all (inW lo hi)) wd.toNat ⟨_, ?_, 0, rfl, by omega, by omega, rfl⟩ ?_
    · exact (Le.mv (by simp only [go_sem, hP, hn]; first | done | (simp; done) | (simp [intC]; done) | (repeat (first | rfl | constructor))) (by simp only [go_sem, hP, hn]; first | done | (simp; done) | (simp [intC]; done) | (repeat (first | rfl | constructor))))
    rintro p s ⟨k, rfl, k0, kp, hk⟩
    (repeat refine TS.imp ?_)
    refine TR.imp ?_; intro K hK; simp only [go_sem, hP, hn]; (repeat refine vc ?_); refine hK _ ?_; clear K hK
    (repeat refine TS.imp ?_)
    refine Tr.cond rfl (fun hc => ?_) (fun hc => ?_)
    · have hk0 : k < wd := of_decide_eq_true hc
      clear hc
      have hk1 : k < (fr fs i).length := by omega
      rw [drop_rdl k0 hk1, List.all_cons] at hk
      have w3 : wrap64 (k + 1) = k + 1 := w64 (by omega) (by omega)
      have k2 : 0 ≤ k ∧ k < (fr fs i).length := ⟨k0, hk1⟩
      (repeat refine TS.imp ?_)
      refine d5 (.p true 0 (.p true 1 (.p true 2 (.p true 3 (.p true 4 (.p true 5 (.p true 6 (.p true 7 (.p true 8 (.p true 9 (.p true 10 (.p true 11 (.p true 12 (.p true 13 (.p true 14 (.p true 15 (.p true 16 (.p true 17 (.p true 18 (.p true 19 (.p true 20 (.p true 21 .nil)))))))))))))))))))))) [] (by rw [hP]; kernel_rfl) (by kernel_rfl) (by simp only [go_sem, hP, hn]; try simp) (by exact fun _ _ h => h) ?_; intro K hK; simp only [go_sem, hP, hn]
      rw [hrf]
      simp only [go_sem, hP, hn]
      (repeat refine vc ?_)
      refine hK _ ?_; clear K hK
      (repeat refine TS.imp ?_)
      refine Tr.cond rfl (fun hx => ?_) (fun hx => ?_)
      · have hx1 : inW lo hi (rd (fr fs i) k) = false := by unfold inW; rw [hx]; rfl
        rw [hx1, Bool.false_and] at hk
        rw [hf, hk] at hii
        simp only [Bool.false_eq_true, if_false] at hii
        rw [if_pos (by decide)] at hii
        subst hii
        (repeat (first | (refine TR.imp ?_; intro K hK; simp only [go_sem, hP, hn]; (repeat refine vc ?_); refine hK _ ?_; clear K hK) | refine TS.imp ?_))
        simp only [RetG, go_sem]; (repeat with_reducible refine vc ?_)
        all_goals omega
      have hx1 : inW lo hi (rd (fr fs i) k) = true := by unfold inW; rw [hx]; rfl
      rw [hx1, Bool.true_and] at hk
      (repeat refine TS.imp ?_)
      refine TR.imp ?_; intro K hK; simp only [w3, go_sem, hP, hn]; (repeat refine vc ?_); refine hK _ ?_; clear K hK
      (repeat refine TS.imp ?_)
      exact ⟨p - 1, _, by omega, (Le.mv (by simp only [go_sem, hP, hn]; first | done | (simp; done) | (simp [intC]; done) | (repeat (first | rfl | constructor))) (by simp only [go_sem, hP, hn]; first | done | (simp; done) | (simp [intC]; done) | (repeat (first | rfl | constructor)))), k + 1, rfl, by omega, by omega, hk⟩
    have hk1 : k = (fr fs i).length := by have := of_decide_eq_false hc; omega
    rw [hk1, Int.toNat_natCast, List.drop_length, List.all_nil] at hk
    rw [hf, hk] at hii
    simp only [if_true, bne_self_eq_false, Bool.false_eq_true, if_false] at hii
    clear hc
    (repeat refine TS.imp ?_)
    refine TR.imp ?_; intro K hK; simp only [w2, go_sem, hP, hn]; (repeat refine vc ?_); refine hK _ ?_; clear K hK
    (repeat refine TS.imp ?_)
    exact ⟨q - 1, _, by omega, (Le.mv (by simp only [go_sem, hP, hn]; first | done | (simp; done) | (simp [intC]; done) | (repeat (first | rfl | constructor))) (by simp only [go_sem, hP, hn]; first | done | (simp; done) | (simp [intC]; done) | (repeat (first | rfl | constructor)))), i + 1, rfl, by omega, by omega, hii⟩
  have hi1 : i = fs.length := by
    have : ¬ i < fs.length := by simpa using hb
    omega
  rw [hi1, Int.toNat_natCast, List.drop_length, mayE] at hii
  exact absurd hii.symm he
theorem Streams_we {T : World → Prop} (Tk : KT T) (wd lo hi out : Int) (ns : List Nd) (fs : List (List Int)) (hns : ns.length ≤ 4000) (hin : ∀ n ∈ ns, n.inn.length ≤ 4096 ∧ n.ws.length ≤ 65536 ∧ n.bs.length ≤ 65536) (hfl : fs.length ≤ 65536) (hff : ∀ f ∈ fs, f.length ≤ 65536) (he : errS wd lo hi out ns fs ≠ 0) :
    Cg Go.Proofs.Tryz.prog T 8 [] [.agg (gcs wd lo hi out (.d (rowN ns))), .d (frD fs)] (fun r H => H = [] ∧ r = .tup [.d .nil, .d (.i .i64 (errS wd lo hi out ns fs))]) := by
  have cM := wmay_c Tk wd lo hi out ns fs (by omega) hin hfl hff
  rw [show (if ((lookG wd lo hi out ns).1 != 0) = true then (lookG wd lo hi out ns).1 else mayE wd lo hi fs) = errS wd lo hi out ns fs from rfl] at cM
  generalize errS wd lo hi out ns fs = e at *
  refine Cg_of [] Tk.m Go.Proofs.Tryz.func8 rfl rfl Go.Proofs.Tryz.ntmps8 (by simp) rfl (rs := [.tmp 4, .tmp 5]) rfl fun E hP hn hT hpn => ?_
  (repeat refine TS.imp ?_)
  refine TR.imp ?_; intro K hK; simp only [go_sem, hP, hn]; (repeat refine vc ?_); refine hK _ ?_; clear K hK
  (repeat refine TS.imp ?_)
  refine TR.imp ?_; intro K hK; simp only [go_sem, hP, hn]
  (repeat refine vc ?_)
  refine CallN_cs (Hi := [] ) (by rw [hP, hT]; exact  cM) rfl rfl rfl trivial (by simp only [go_sem, hP, hn]; try trivial) (by simp only [go_sem, hP, hn]; try rfl) (by simp only [inH, go_sem, hP, hn]; try simp) (by rw [hn]; decide) ?_; simp only [go_sem, hP, hn]; (repeat refine vc ?_)
  refine hK _ ?_; clear K hK
  (repeat refine TS.imp ?_)
  refine TR.imp ?_; intro K hK; simp only [go_sem, hP, hn]; (repeat refine vc ?_); refine hK _ ?_; clear K hK
  (repeat refine TS.imp ?_)
  refine Tr.cond rfl (fun hb => ?_) (fun hb => ?_)
  · (repeat (first | (refine TR.imp ?_; intro K hK; simp only [go_sem, hP, hn]; (repeat refine vc ?_); refine hK _ ?_; clear K hK) | refine TS.imp ?_))
    simp only [RetG, go_sem]; (repeat with_reducible refine vc ?_)
    all_goals omega
  exfalso
  simp at hb
  exact he hb
theorem Eval_we {T : World → Prop} (Tk : KT T) (wd lo hi out : Int) (ns : List Nd) (fs : List (List Int)) (hns : ns.length ≤ 4000) (hin : ∀ n ∈ ns, n.inn.length ≤ 4096 ∧ n.ws.length ≤ 65536 ∧ n.bs.length ≤ 65536) (hfl : fs.length ≤ 65536) (hff : ∀ f ∈ fs, f.length ≤ 65536) (he : errS wd lo hi out ns fs ≠ 0) :
    Cg Go.Proofs.Tryz.prog T 11 [] [.agg (gcs wd lo hi out (.d (rowN ns))), .d (frD fs)] (fun r H => H = [] ∧ r = .tup [.d .nil, .d (.i .i64 (errS wd lo hi out ns fs))]) := by
  have cM := Streams_we Tk wd lo hi out ns fs hns hin hfl hff he
  generalize errS wd lo hi out ns fs = e at *
  refine Cg_of [] Tk.m Go.Proofs.Tryz.func11 rfl rfl Go.Proofs.Tryz.ntmps11 (by simp) rfl (rs := [.tmp 4, .tmp 5]) rfl fun E hP hn hT hpn => ?_
  (repeat refine TS.imp ?_)
  refine TR.imp ?_; intro K hK; simp only [go_sem, hP, hn]; (repeat refine vc ?_); refine hK _ ?_; clear K hK
  (repeat refine TS.imp ?_)
  refine TR.imp ?_; intro K hK; simp only [go_sem, hP, hn]
  (repeat refine vc ?_)
  refine CallN_cs (Hi := [] ) (by rw [hP, hT]; exact  cM) rfl rfl rfl trivial (by simp only [go_sem, hP, hn]; try trivial) (by simp only [go_sem, hP, hn]; try rfl) (by simp only [inH, go_sem, hP, hn]; try simp) (by rw [hn]; decide) ?_; simp only [go_sem, hP, hn]; (repeat refine vc ?_)
  refine hK _ ?_; clear K hK
  (repeat refine TS.imp ?_)
  refine TR.imp ?_; intro K hK; simp only [go_sem, hP, hn]; (repeat refine vc ?_); refine hK _ ?_; clear K hK
  (repeat refine TS.imp ?_)
  refine Tr.cond rfl (fun hb => ?_) (fun hb => ?_)
  · (repeat (first | (refine TR.imp ?_; intro K hK; simp only [go_sem, hP, hn]; (repeat refine vc ?_); refine hK _ ?_; clear K hK) | refine TS.imp ?_))
    simp only [RetG, go_sem]; (repeat with_reducible refine vc ?_)
    all_goals omega
  exfalso
  simp at hb
  exact he hb
theorem Ready_we {T : World → Prop} (Tk : KT T) (wd lo hi out : Int) (ns : List Nd) (fs : List (List Int)) (hns : ns.length ≤ 4000) (hin : ∀ n ∈ ns, n.inn.length ≤ 4096 ∧ n.ws.length ≤ 65536 ∧ n.bs.length ≤ 65536) (hfl : fs.length ≤ 65536) (hff : ∀ f ∈ fs, f.length ≤ 65536) (he : errS wd lo hi out ns fs ≠ 0) :
    Cg Go.Proofs.Tryz.prog T 12 [] [.agg (gcs wd lo hi out (.d (rowN ns))), .d (frD fs)] (fun r H => H = [] ∧ r = .tup [.d .nil, .d (.i .i64 (errS wd lo hi out ns fs))]) := by
  have cM := Eval_we Tk wd lo hi out ns fs hns hin hfl hff he
  generalize errS wd lo hi out ns fs = e at *
  refine Cg_of [] Tk.m Go.Proofs.Tryz.func12 rfl rfl Go.Proofs.Tryz.ntmps12 (by simp) rfl (rs := [.tmp 4, .tmp 5]) rfl fun E hP hn hT hpn => ?_
  (repeat refine TS.imp ?_)
  refine TR.imp ?_; intro K hK; simp only [go_sem, hP, hn]; (repeat refine vc ?_); refine hK _ ?_; clear K hK
  (repeat refine TS.imp ?_)
  refine TR.imp ?_; intro K hK; simp only [go_sem, hP, hn]
  (repeat refine vc ?_)
  refine CallN_cs (Hi := [] ) (by rw [hP, hT]; exact  cM) rfl rfl rfl trivial (by simp only [go_sem, hP, hn]; try trivial) (by simp only [go_sem, hP, hn]; try rfl) (by simp only [inH, go_sem, hP, hn]; try simp) (by rw [hn]; decide) ?_; simp only [go_sem, hP, hn]; (repeat refine vc ?_)
  refine hK _ ?_; clear K hK
  (repeat refine TS.imp ?_)
  refine TR.imp ?_; intro K hK; simp only [go_sem, hP, hn]; (repeat refine vc ?_); refine hK _ ?_; clear K hK
  (repeat refine TS.imp ?_)
  refine Tr.cond rfl (fun hb => ?_) (fun hb => ?_)
  · (repeat (first | (refine TR.imp ?_; intro K hK; simp only [go_sem, hP, hn]; (repeat refine vc ?_); refine hK _ ?_; clear K hK) | refine TS.imp ?_))
    simp only [RetG, go_sem]; (repeat with_reducible refine vc ?_)
    all_goals omega
  exfalso
  simp at hb
  exact he hb
/-! of no frames there are none -/
theorem foldl_mn0 : ∀ (l : List Int), (∀ x ∈ l, x = 0) → l.foldl mn 0 = 0
  | [], _ => rfl
  | x :: l, h => by
    have hx := h x (by simp)
    subst hx
    show List.foldl mn (mn 0 0) l = 0
    rw [show mn 0 0 = 0 by unfold mn; simp]
    exact foldl_mn0 l fun y hy => h y (List.mem_cons_of_mem _ hy)
theorem fewest0 (l : List Int) (h : ∀ x ∈ l, x = 0) : fewestV l = 0 := by
  cases l with
  | nil => rfl
  | cons x l =>
    have hx := h x (by simp)
    subst hx
    show mx (List.foldl mn 0 (0 :: l)) 0 = 0
    rw [foldl_mn0 _ h]
    unfold mx; simp
theorem rCount0 (n : Nd) (l : List Int) (h : ∀ x ∈ l, x = 0) : n.rCount l = 0 := by
  unfold Nd.rCount
  rw [fewest0 l h]
  simp
section
variable {T : World → Prop} {wd lo hi out : Int} {ns : List Nd} {W R : Int → Int} {rk : Int → Nat} {W2 R2 : List Int} (h : GF wd lo hi out ns W R rk W2 R2)
include h
theorem GF.cnt0 : ∀ (r : Nat) (i : Int), 0 ≤ i → i ≤ ns.length → rk i ≤ r → rd (cntL ns Nd.rCount 0) i = 0
  | r, i, i0, i1, hk => by
    obtain ⟨a, b⟩ := h.gg.cnt_eq (N := 0) Nd.rCount
    rcases Int.lt_or_le 0 i with i2 | i2
    · have hn := (h.gg.node i i2 i1).1
      match r, hk with
      | 0, hk =>
        have := hn.inn _ (rd_mem (l := (nd ns (i - 1)).inn) (j := 0) (by omega) (by have := hn.l1; omega))
        omega
      | r + 1, hk =>
        rw [b i i2 i1]
        refine rCount0 _ _ fun x hx => ?_
        obtain ⟨j, hj, rfl⟩ := List.mem_map.1 hx
        have := hn.inn j hj
        exact GF.cnt0 r j this.1 this.2.1 (by omega)
    · obtain rfl : i = 0 := by omega
      rw [a]
theorem GF.out0 : outL ns W2 out [] = [] := by
  have hrg := may_rng h.may
  have hk := h.rank out (by omega) (by omega)
  have hf : Fin18 wd lo hi 0 [] := ⟨rfl, fun f hf => by simp at hf, fun f hf => by simp at hf⟩
  have l1 := h.lens hf (by omega) 12 out (by omega) (by omega) hk
  rw [h.cnt0 12 out (by omega) (by omega) hk] at l1
  unfold outL
  rw [inF_g7]
  exact List.eq_nil_of_length_eq_zero (by omega)
end
theorem fin_mayE {wd lo hi : Int} : ∀ {fs : List (List Int)}, mayE wd lo hi fs = 0 → Fin18 wd lo hi fs.length fs
  | [], _ => ⟨rfl, fun f hf => by simp at hf, fun f hf => by simp at hf⟩
  | f :: fs, h => by
    unfold mayE at h
    split at h
    · rename_i h1
      rw [h] at h1; simp at h1
    · rename_i h1
      have h2 : frE18 wd lo hi f = 0 := by simpa using h1
      have ih := fin_mayE h
      unfold frE18 at h2
      split at h2
      · cases h2
      · rename_i h3
        split at h2
        · rename_i h4
          refine ⟨rfl, fun g hg => ?_, fun g hg => ?_⟩
          · rcases List.mem_cons.1 hg with rfl | hg
            · simpa using h3
            · exact ih.wid g hg
          · rcases List.mem_cons.1 hg with rfl | hg
            · intro x hx
              have := List.all_eq_true.1 h4 x hx
              unfold inW at this
              simp at this
              omega
            · exact ih.num g hg
        · cases h2
end
section
attribute [local go_sem] frD insD rtup
/-! the chapter's example -/
def nM18 : Nd := ⟨4, [0], 0, 3, 1, 1, 1, 1, [], [], 0, 0, 0, 0, 0⟩
theorem nM18_ng : NodeG 1 nM18 (fun _ => 1) (fun _ => 1) Int.toNat 1 := ⟨by decide, by decide, fun j hj => by
    have : j = 0 := by simpa [nM18] using hj
    subst this; decide, by decide +kernel, by decide +kernel, by decide +kernel, fun _ _ _ _ => rfl, fun _ _ e => absurd e (by decide), by decide, by decide, by decide +kernel, by decide +kernel, by decide +kernel, by decide +kernel, rfl⟩
theorem nM18_gg : GG 1 [nM18] (fun _ => 1) (fun _ => 1) Int.toNat := ⟨rfl, rfl, rfl, fun i i1 i2 => by
  have : i = 1 := by simp at i2; omega
  subst this
  exact ⟨nM18_ng, by decide⟩⟩
theorem aw18_look : lookG 1 0 9 1 [nM18] = (0, order [nM18], [1, 1], [1, 1]) := by decide +kernel
theorem aw18_gf : GF 1 0 9 1 [nM18] (fun _ => 1) (fun _ => 1) Int.toNat [1, 1] [1, 1] := ⟨nM18_gg, by decide, aw18_look, rfl, rfl, fun x h0 h1 => by
  have : x = 0 ∨ x = 1 := by simp at h1; omega
  rcases this with rfl | rfl <;> exact ⟨rfl, rfl⟩, by decide⟩
def fs18 : List (List Int) := [[3], [6], [9]]
theorem fs18_fin : Fin18 1 0 9 3 fs18 := ⟨rfl, by decide, by decide⟩
theorem out18 : outL [nM18] [1, 1] 1 fs18 = [[3], [6], [5]] := by decide +kernel
theorem rdy18 : rdyN [nM18] 1 3 = 2 := by decide +kernel
end
section
attribute [local go_sem] frD insD nM18 fs18
theorem awake18_c {T : World → Prop} (Tk : KT T) : Cg Go.Proofs.Tryz.prog T 6 [] [] (fun r H => H = [] ∧ r = .d (.b true)) := by
  have cE := Eval_w Tk aw18_gf fs18_fin (by decide)
  have cR := Ready_w Tk aw18_gf fs18_fin (by decide)
  rw [out18] at cE cR
  rw [rdy18, show ([[3], [6], [5]] : List (List Int)).take (2 : Int).toNat = [[3], [6]] from rfl] at cR
  refine Cg_of [] Tk.m Go.Proofs.Tryz.func6 rfl rfl Go.Proofs.Tryz.ntmps6 (by simp) rfl (rs := [.tmp 0]) rfl fun E hP hn hT hpn => ?_
  (repeat refine TS.imp ?_)
  refine TR.imp ?_; intro K hK; simp only [go_sem, hP, hn]; (repeat refine vc ?_); refine hK _ ?_; clear K hK
  (repeat refine TS.imp ?_)
  refine TR.imp ?_; intro K hK; simp only [go_sem, hP, hn]; (repeat refine vc ?_); refine hK _ ?_; clear K hK
  refine Tr.le (Le.keep [1]) ?_; simp only [List.map_cons, List.map_nil, lk, Nat.reduceEqDiff, reduceIte]
  refine Tr.le (Le.wrow 10 ([nM18].map Nd.ds) rfl ⟨by simp [Aw.wd, Nd.ds, nM18, intC], trivial⟩) ?_
  simp only [go_sem, hP, hn]
  refine Tr.le (Le.freeze 10) ?_
  simp only [go_sem, hP, hn]
  (repeat refine TS.imp ?_)
  refine TR.imp ?_; intro K hK; simp only [go_sem, hP, hn]
  (repeat refine vc ?_)
  refine CallN_frz 17 ?_; simp only [go_sem, hP, hn]
  refine CallN_cs (Hi := [] ) (by rw [hP, hT]; exact  cE) rfl rfl rfl trivial (by simp only [go_sem, hP, hn]; try trivial) (by simp only [go_sem, hP, hn]; try rfl) (by simp only [inH, go_sem, hP, hn]; try simp) (by rw [hn]; decide) ?_; simp only [go_sem, hP, hn]; (repeat refine vc ?_)
  refine hK _ ?_; clear K hK
  refine Tr.le (Le.keep [1, 2, 3]) ?_; simp only [List.map_cons, List.map_nil, lk, Nat.reduceEqDiff, reduceIte]
  (repeat refine TS.imp ?_)
  refine TR.imp ?_; intro K hK; simp only [go_sem, hP, hn]
  (repeat refine vc ?_)
  refine CallN_frz 26 ?_; simp only [go_sem, hP, hn]
  refine CallN_cs (Hi := [] ) (by rw [hP, hT]; exact  cR) rfl rfl rfl trivial (by simp only [go_sem, hP, hn]; try trivial) (by simp only [go_sem, hP, hn]; try rfl) (by simp only [inH, go_sem, hP, hn]; try simp) (by rw [hn]; decide) ?_; simp only [go_sem, hP, hn]; (repeat refine vc ?_)
  refine hK _ ?_; clear K hK
  refine Tr.le (Le.keep [2, 3, 4, 5]) ?_; simp only [List.map_cons, List.map_nil, lk, Nat.reduceEqDiff, reduceIte]
  (repeat refine TS.imp ?_)
  refine TR.imp ?_; intro K hK; simp only [go_sem, hP, hn]
  (repeat refine vc ?_)
  refine CallN_frz 34 ?_; simp only [go_sem, hP, hn]
  refine c1 (by rw [hP, hT]; exact Same18_c Tk.m [[3], [6], [5]] [[3], [6], [5]] (by decide) (by decide)) rfl rfl rfl trivial (by simp only [go_sem, hP, hn]; try trivial) (by simp only [go_sem, hP, hn]; try rfl) (by rw [hn]; decide) (by rfl) ?_; simp only [go_sem, hP, hn]; (repeat refine vc ?_)
  refine hK _ ?_; clear K hK
  refine Tr.le (Le.keep [3, 4, 5, 6]) ?_; simp only [List.map_cons, List.map_nil, lk, Nat.reduceEqDiff, reduceIte]
  (repeat refine TS.imp ?_)
  refine TR.imp ?_; intro K hK; simp only [go_sem, hP, hn]
  (repeat refine vc ?_)
  refine CallN_frz 39 ?_; simp only [go_sem, hP, hn]
  refine c1 (by rw [hP, hT]; exact Same18_c Tk.m [[3], [6]] [[3], [6]] (by decide) (by decide)) rfl rfl rfl trivial (by simp only [go_sem, hP, hn]; try trivial) (by simp only [go_sem, hP, hn]; try rfl) (by rw [hn]; decide) (by rfl) ?_; simp only [go_sem, hP, hn]; (repeat refine vc ?_)
  refine hK _ ?_; clear K hK
  refine Tr.le (Le.keep [3, 5, 6, 7]) ?_; simp only [List.map_cons, List.map_nil, lk, Nat.reduceEqDiff, reduceIte]
  (repeat (first | (refine TR.imp ?_; intro K hK; simp only [go_sem, hP, hn]; (repeat refine vc ?_); refine hK _ ?_; clear K hK) | refine TS.imp ?_))
  simp only [RetG, go_sem]; (repeat with_reducible refine vc ?_)
  all_goals simp
end
section
attribute [local go_sem] frD insD rtup
end
section
attribute [local go_sem] frD insD PQ18
end
/-! the two ways of going through the nodes ask for the same rooms -/
def stM (o : List Int) (p : Int × Int) : List Int := o.set p.1.toNat (mx (rd o p.1) p.2)
def oneF (o : List Int) (i : Int) : List Int := o.set i.toNat 1
section
variable {wd lo hi out : Int} {ns : List Nd} {W R : Int → Int} {rk : Int → Nat} {W2 R2 : List Int} (h : GF wd lo hi out ns W R rk W2 R2)
include h
/-- the graph with another Out is as well known, if it is right -/
theorem GF.outs {out' : Int} (hm : mayG wd lo hi out' ns = 0) : GF wd lo hi out' ns W R rk W2 R2 := by
  obtain ⟨W3, R3, h1, _, _, _⟩ := h.gg.lookG hm
  have h2 := h.look
  have e : lookG wd lo hi out' ns = lookG wd lo hi out ns := by
    have hm0 : mayG wd lo hi out ns = 0 := by
      unfold lookG at h2
      by_cases hz : mayG wd lo hi out ns = 0
      · exact hz
      · rw [if_pos (by simpa using hz)] at h2
        exact absurd (congrArg Prod.fst h2) hz
    unfold lookG
    rw [hm, hm0]
  exact ⟨h.gg, h.n0, e.trans h2, h.wl, h.rl, h.eq, h.inn⟩
end
section
attribute [local go_sem] frD insD rtup rwS_len killC_rwS killC_set frzL_rwS frzL_set renL_rwS renL_set hasL_rwS hasL_set rwS_set List.set_set List.length_set Bool.and_false Bool.not_false killC_app frzL_app renL_app hasL_app OWN18
theorem made18_p {T : World → Prop} (Tm : TP T) (p : Int) (l xs : List Int) (m M : Int) (hM : Int.tmod (wrap64 (Int.tmod m 25 + 25)) 25 = M) (hp : 0 ≤ p ∧ (p < M ∨ M = 0)) : Cg Go.Proofs.Tryz.prog T 7 [] [.agg [.d (.row [.i .i64 0] (l.map intC)), .d (.row [.i .i64 0] (xs.map intC)), .d (.i .i64 m)]] (fun r H => ∃ wd lo hi out ns fs, GM wd lo hi out ns ∧ Fin18 wd lo hi M fs ∧ r = .tup [.agg (gcs wd lo hi out (.d (rowN ns))), .own 2000] ∧ H = OWN18 fs p) := by
  refine Cg_of [2000, 5000] Tm Go.Proofs.Tryz.func7 rfl rfl Go.Proofs.Tryz.ntmps7 (by simp) rfl (rs := [.cell 2 28, .tmp 3]) rfl fun E hP hn hT hpn => ?_
  (repeat refine TS.imp ?_)
  refine TR.imp ?_; intro K hK; simp only [go_sem, hP, hn]; (repeat refine vc ?_); refine hK _ ?_; clear K hK
  (repeat refine TS.imp ?_)
  refine TR.imp ?_; intro K hK; simp only [go_sem, hP, hn]
  (repeat refine vc ?_)
  refine CallN_cx (Hi := []) (by rw [hP, hT]; exact Made16_c Tm l ) rfl rfl rfl trivial (by simp only [go_sem, hP, hn]; try trivial) (by simp only [go_sem, hP, hn]; try rfl) trivial (by rw [hn]; decide) (fun r Ho hr => ?_); obtain  ⟨wd, lo, hi, out, ns, rfl, rfl, hG⟩ := hr; refine ⟨fun k _ => hpn k rfl, ?_⟩; simp only [cgS, newK, touK, go_sem, hP, hn]; (repeat refine vc ?_)
  refine hK _ ?_; clear K hK
  refine Tr.le (Le.freeze 2000) ?_
  simp only [go_sem, hP, hn]
  obtain ⟨W, R, rk, W2, R2, hF⟩ := hG.gf
  have hwd := hG.wd0
  have hlo := hG.lo0
  have hhi := hG.hi0
  have hmm := many25 m
  (repeat refine TS.imp ?_)
  refine d5 (.p true 0 (.p true 1 (.p true 2 (.p true 3 (.p true 4 (.p true 5 (.p true 6 (.p true 7 (.p true 8 (.alt 9 (.alt 10 (.p false 11 .nil) .nil) .nil)))))))))) [2] (by rw [hP]; kernel_rfl) (by kernel_rfl) (by simp only [go_sem, hP, hn]; try simp) (by exact fun _ _ h => h) ?_; intro K hK; simp only [go_sem, hP, hn]
  rw [hM] at hmm ⊢
  (repeat refine vc ?_)
  refine CallP_hb (by rw [hP, hT]; exact Made18_p Tm p wd lo hi out M ns xs hp ⟨by omega, by omega⟩ (by omega) ⟨by omega, by omega⟩ ⟨by omega, by omega⟩) rfl rfl rfl trivial (by simp only [go_sem, hP, hn]; try trivial) (by simp only [go_sem, hP, hn]; try rfl) (by rw [hn]; decide) (fun r Ho hr => ?_)
  obtain ⟨fs, hfs, rfl, rfl⟩ := hr
  refine ⟨fun k _ => hpn k rfl, ?_⟩
  simp only [cgS, newK, touK, go_sem, hP, hn]
  (repeat refine vc ?_)
  refine hK _ ?_; clear K hK
  (repeat refine TS.imp ?_)
  simp only [RetG, go_sem]; (repeat with_reducible refine vc ?_)
  exact ⟨wd, lo, hi, out, ns, fs, hG, hfs, rfl, rfl⟩
theorem fr_len {fs : List (List Int)} {b : Nat} (h : ∀ f ∈ fs, f.length ≤ b) (p : Int) : (fr fs p).length ≤ b := by
  unfold fr
  rw [List.getD_eq_getElem?_getD]
  cases e : fs[p.toNat]? with
  | none => simp
  | some f => exact h f (List.mem_of_getElem? e)
theorem WholeNone_c {T : World → Prop} (Tk : KT T) (l xs : List Int) (m how x : Int) : Cg Go.Proofs.Tryz.prog T 4 [] [.agg [.d (.row [.i .i64 0] (l.map intC)), .d (.row [.i .i64 0] (xs.map intC)), .d (.i .i64 m)], .d (.i .i64 how), .d (.i .i64 x)] (fun r H => H = [] ∧ r = .d (.b true)) := by
  refine Cg_of [] Tk.m Go.Proofs.Tryz.func4 rfl rfl Go.Proofs.Tryz.ntmps4 (by simp) rfl (rs := [.tmp 6]) rfl fun E hP hn hT hpn => ?_
  (repeat refine TS.imp ?_)
  refine TR.imp ?_; intro K hK; simp only [go_sem, hP, hn]; (repeat refine vc ?_); refine hK _ ?_; clear K hK
  (repeat refine TS.imp ?_)
  refine TR.imp ?_; intro K hK; simp only [go_sem, hP, hn]
  (repeat refine vc ?_)
  refine CallN_cs (Hi := [] ) (by rw [hP, hT]; exact  awake18_c Tk) rfl rfl rfl trivial (by simp only [go_sem, hP, hn]; try trivial) (by simp only [go_sem, hP, hn]; try rfl) (by simp only [inH, go_sem, hP, hn]; try simp) (by rw [hn]; decide) ?_; simp only [go_sem, hP, hn]; (repeat refine vc ?_)
  refine hK _ ?_; clear K hK
  have hMb := many25 m
  generalize hM : Int.tmod (wrap64 (Int.tmod m 25 + 25)) 25 = M at *
  generalize hhw : Go.bits .and .i64 how 3 = hw
  obtain ⟨p, hp, hpA, hpB⟩ : ∃ p : Int, (0 ≤ p ∧ (p < M ∨ M = 0)) ∧ (hw = 0 → p = M / 2) ∧ (hw = 1 → M ≠ 0 → p = M - 1) := by
    by_cases h0 : hw = 0
    · exact ⟨M / 2, by omega, fun _ => rfl, fun e => by omega⟩
    · by_cases h1 : M = 0
      · exact ⟨0, by omega, fun e => absurd e h0, fun _ e => absurd h1 e⟩
      · exact ⟨M - 1, by omega, fun e => absurd e h0, fun _ _ => rfl⟩
  (repeat refine TS.imp ?_)
  refine TR.imp ?_; intro K hK; simp only [go_sem, hP, hn]
  (repeat refine vc ?_)
  refine CallN_cx (Hi := []) (by rw [hP, hT]; exact made18_p Tk.m p l xs m M hM hp ) rfl rfl rfl trivial (by simp only [go_sem, hP, hn]; try trivial) (by simp only [go_sem, hP, hn]; try rfl) trivial (by rw [hn]; decide) (fun r Ho hr => ?_); obtain  ⟨wd, lo, hi, out, ns, fs, hG, hfs, rfl, rfl⟩ := hr; refine ⟨fun k _ => hpn k rfl, ?_⟩; simp only [cgS, newK, touK, go_sem, hP, hn]; (repeat refine vc ?_)
  refine hK _ ?_; clear K hK
  refine Tr.le (Le.keep [1, 2, 7, 8, 9]) ?_; simp only [List.map_cons, List.map_nil, lk, Nat.reduceEqDiff, reduceIte]
  obtain ⟨W, R, rk, W2, R2, hF⟩ := hG.gf
  have hmm : 0 ≤ M ∧ M ≤ 1000 := by omega
  have hl0 := hfs.len
  have hn0 := hF.n0
  have hrg := may_rng hF.may
  have cE0 := Cg.nil2 (e0 := [.nil]) (Eval_w Tk hF (many := 0) (fs := []) ⟨rfl, fun f hf => by simp at hf, fun f hf => by simp at hf⟩ (by omega))
  rw [hF.out0] at cE0
  (repeat refine TS.imp ?_)
  refine TR.imp ?_; intro K hK; simp only [go_sem, hP, hn]
  (repeat refine vc ?_)
  refine CallN_cs (Hi := [] ) (by rw [hP, hT]; exact  cE0) rfl rfl rfl trivial (by simp only [go_sem, hP, hn]; try trivial) (by simp only [go_sem, hP, hn]; try rfl) (by simp only [inH, go_sem, hP, hn]; try simp) (by rw [hn]; decide) ?_; simp only [go_sem, hP, hn]; (repeat refine vc ?_)
  refine hK _ ?_; clear K hK
  (repeat refine TS.imp ?_)
  refine TR.imp ?_; intro K hK; simp only [go_sem, hP, hn]; (repeat refine vc ?_); refine hK _ ?_; clear K hK
  (repeat refine TS.imp ?_)
  refine Tr.cond rfl (fun hb => ?_) (fun hb => ?_)
  · exfalso
    simp at hb
  clear hb cE0
  refine Tr.le (Le.keep [1, 2, 7, 8, 9]) ?_; simp only [List.map_cons, List.map_nil, lk, Nat.reduceEqDiff, reduceIte]
  (repeat refine TS.imp ?_)
  refine TR.imp ?_; intro K hK; simp only [go_sem, hP, hn]; (repeat refine vc ?_); refine hK _ ?_; clear K hK
  (repeat refine TS.imp ?_)
  rw [hhw]
  have hsz : (∀ f ∈ fs, f.length ≤ 65536) := fun f hf => by have := hfs.wid f hf; omega
  refine Tr.meet (fun s => (s = ⟨[(1, .d (.i .i64 how)), (2, .d (.i .i64 x)), (7, .d (.b true)), (8, .ptr 8 0), (9, .own 2000)], (8, .box 28 (gcs wd lo hi out (.d (rowN ns)))) :: OWN18 fs p⟩ ∧ hw ≠ 0) ∨ ∃ f2 : List (List Int), s = ⟨[(1, .d (.i .i64 how)), (2, .d (.i .i64 x)), (7, .d (.b true)), (8, .ptr 8 0), (9, .d (frD f2))], [(8, .box 28 (gcs wd lo hi out (.d (rowN ns))))]⟩ ∧ (f2.length ≤ 1000 ∧ ∀ f ∈ f2, f.length ≤ 65536) ∧ hw ≠ 1) ?_ ?_
  rotate_left
  · refine Tr.cond rfl (fun hb => ?_) (fun hb => ?_)
    · have hb2 : 0 < fs.length ∧ hw = 0 := by simpa using hb
      clear hb
      have ht : Int.tdiv (fs.length : Int) 2 = p := by rw [Int.tdiv_eq_ediv_of_nonneg (by omega), hpA hb2.2]; omega
      have p1 : 0 ≤ p ∧ p < fs.length := by omega
      have p2 : p.toNat < fs.length := by omega
      have hget : ((rwS (fs.map frX)).set p.toNat (S.own 5000)).getD p.toNat .any = .own 5000 := by
        rw [set_getD (by rw [rwS_len]; simpa using p2), if_pos rfl]
      have p3 : (fr fs p).length ≤ 16 := by have := hfs.wid _ (fr_mem p1.1 p1.2); omega
      (repeat refine TS.imp ?_)
      have wp : wrap64 p = p := w64 (by omega) (by omega)
      refine TR.imp ?_; intro K hK; simp only [ht, wp, hget, go_sem, hP, hn]
      (repeat (refine ⟨by first | trivial | omega, ?_⟩))
      refine hK _ ?_; clear K hK
      (repeat refine TS.imp ?_)
      refine ⟨⟨[(1, .d (.i .i64 how)), (2, .d (.i .i64 x)), (7, .d (.b true)), (8, .ptr 8 0), (9, .d (frD (fs.set p.toNat (fr fs p ++ [x]))))], [(8, .box 28 (gcs wd lo hi out (.d (rowN ns))))]⟩, ?_, .inr ⟨_, rfl, ⟨by rw [List.length_set]; omega, fun f hf => by
                rcases List.mem_or_eq_of_mem_set hf with hf | hf
                · exact hsz f hf
                · rw [hf]; rw [List.length_append, List.length_singleton]; omega⟩, by omega⟩⟩
      · refine Le.trans (b := ⟨[(1, .d (.i .i64 how)), (2, .d (.i .i64 x)), (7, .d (.b true)), (8, .ptr 8 0), (9, .own 2000)], [(8, .box 28 (gcs wd lo hi out (.d (rowN ns)))), (2000, .rows 22 ((rwS (fs.map frX)).set p.toNat (.own 57))), (57, .row 3 [.i .i64 0] ((fr fs p ++ [x]).map intC))]⟩) (Le.mv (by simp only [go_sem, hP, hn]; first | done | (simp; done) | (simp [intC]; done) | (repeat (first | rfl | constructor))) (by simp only [go_sem, hP, hn]; first | done | (simp; done) | (simp [intC]; done) | (repeat (first | rfl | constructor)))) ?_
        refine Le.trans (Le.freeze 57) ?_
        simp only [go_sem, hP, hn]
        refine Le.trans (Le.unrows 2000 [.nil] ((fs.map frX).set p.toNat (.row [.i .i64 0] ((fr fs p ++ [x]).map intC))) rfl rfl) ?_
        simp only [go_sem, hP, hn]
        refine Le.trans (Le.freeze 2000) ?_
        simp only [go_sem, hP, hn]
        rw [frE_X, List.map_set (f := frX)]
        exact Le.refl _
    · have hb2 : ¬ (0 < fs.length ∧ hw = 0) := by simpa using hb
      clear hb
      (repeat refine TS.imp ?_)
      by_cases h0 : hw = 0
      · have hf0 : fs.length = 0 := by omega
        refine ⟨⟨[(1, .d (.i .i64 how)), (2, .d (.i .i64 x)), (7, .d (.b true)), (8, .ptr 8 0), (9, .d (frD (fs.set p.toNat (fr fs p))))], [(8, .box 28 (gcs wd lo hi out (.d (rowN ns))))]⟩, ?_, .inr ⟨_, rfl, ⟨by rw [List.length_set]; omega, fun f hf => by
                  have := List.length_pos_of_mem hf
                  rw [List.length_set] at this; omega⟩, by omega⟩⟩
        · refine Le.trans (b := ⟨[(1, .d (.i .i64 how)), (2, .d (.i .i64 x)), (7, .d (.b true)), (8, .ptr 8 0), (9, .own 2000)], [(8, .box 28 (gcs wd lo hi out (.d (rowN ns)))), (2000, .rows 22 ((rwS (fs.map frX)).set p.toNat (.own 5000))), (5000, .row 3 [.i .i64 0] ((fr fs p).map intC))]⟩) (Le.mv (by simp only [go_sem, hP, hn]; first | done | (simp; done) | (simp [intC]; done) | (repeat (first | rfl | constructor))) (by simp only [go_sem, hP, hn]; first | done | (simp; done) | (simp [intC]; done) | (repeat (first | rfl | constructor)))) ?_
          refine Le.trans (Le.freeze 5000) ?_
          simp only [go_sem, hP, hn]
          refine Le.trans (Le.unrows 2000 [.nil] ((fs.map frX).set p.toNat (.row [.i .i64 0] ((fr fs p).map intC))) rfl rfl) ?_
          simp only [go_sem, hP, hn]
          refine Le.trans (Le.freeze 2000) ?_
          simp only [go_sem, hP, hn]
          rw [frE_X, List.map_set (f := frX)]
          exact Le.refl _
      · exact ⟨_, (Le.mv (by simp only [go_sem, hP, hn]; first | done | (simp; done) | (simp [intC]; done) | (repeat (first | rfl | constructor))) (by simp only [go_sem, hP, hn]; first | done | (simp; done) | (simp [intC]; done) | (repeat (first | rfl | constructor)))), .inl ⟨rfl, h0⟩⟩
  intro s hJ
  refine Tr.seq ?_
  refine Tr.meet (fun s => ∃ f2 : List (List Int), s = ⟨[(1, .d (.i .i64 how)), (2, .d (.i .i64 x)), (7, .d (.b true)), (8, .ptr 8 0), (9, .d (frD f2))], [(8, .box 28 (gcs wd lo hi out (.d (rowN ns))))]⟩ ∧ (f2.length ≤ 1000 ∧ ∀ f ∈ f2, f.length ≤ 65536)) ?_ ?_
  rotate_left
  · rcases hJ with ⟨rfl, h0⟩ | ⟨f2, rfl, hf2, h1⟩
    · (repeat refine TS.imp ?_)
      refine TR.imp ?_; intro K hK; simp only [hhw, go_sem, hP, hn]; (repeat refine vc ?_); refine hK _ ?_; clear K hK
      (repeat refine TS.imp ?_)
      refine Tr.cond rfl (fun hb => ?_) (fun hb => ?_)
      · have hb2 : 0 < fs.length ∧ hw = 1 := by simpa using hb
        clear hb
        have hpe := hpB hb2.2 (by omega)
        have p1 : 0 ≤ p ∧ p < fs.length := by omega
        have p2 : p.toNat < fs.length := by omega
        have hget : ((rwS (fs.map frX)).set p.toNat (S.own 5000)).getD p.toNat .any = .own 5000 := by
          rw [set_getD (by rw [rwS_len]; simpa using p2), if_pos rfl]
        have p3 : 0 < (fr fs p).length ∧ (fr fs p).length ≤ 16 := by have := hfs.wid _ (fr_mem p1.1 p1.2); omega
        have wp : wrap64 ((fs.length : Int) - 1) = p := by rw [w64 (by omega) (by omega)]; omega
        (repeat refine TS.imp ?_)
        refine TR.imp ?_; intro K hK; simp only [wp, hget, go_sem, hP, hn]
        (repeat (refine ⟨by first | trivial | omega, ?_⟩))
        refine hK _ ?_; clear K hK
        (repeat refine TS.imp ?_)
        refine ⟨⟨[(1, .d (.i .i64 how)), (2, .d (.i .i64 x)), (7, .d (.b true)), (8, .ptr 8 0), (9, .d (frD (fs.set p.toNat ((fr fs p).set 0 x))))], [(8, .box 28 (gcs wd lo hi out (.d (rowN ns))))]⟩, ?_, _, rfl, ⟨by rw [List.length_set]; omega, fun f hf => by
                  rcases List.mem_or_eq_of_mem_set hf with hf | hf
                  · exact hsz f hf
                  · rw [hf, List.length_set]; omega⟩⟩
        refine Le.trans (b := ⟨[(1, .d (.i .i64 how)), (2, .d (.i .i64 x)), (7, .d (.b true)), (8, .ptr 8 0), (9, .own 2000)], [(8, .box 28 (gcs wd lo hi out (.d (rowN ns)))), (2000, .rows 22 ((rwS (fs.map frX)).set p.toNat (.own 5000))), (5000, .row 3 [.i .i64 0] (((fr fs p).set 0 x).map intC))]⟩) (Le.mv (by simp only [go_sem, hP, hn]; first | done | (simp; done) | (simp [intC]; done) | (repeat (first | rfl | constructor))) (by simp only [go_sem, hP, hn]; first | done | (simp; done) | (simp [intC]; done) | (repeat (first | rfl | constructor)))) ?_
        refine Le.trans (Le.freeze 5000) ?_
        simp only [go_sem, hP, hn]
        refine Le.trans (Le.unrows 2000 [.nil] ((fs.map frX).set p.toNat (.row [.i .i64 0] (((fr fs p).set 0 x).map intC))) rfl rfl) ?_
        simp only [go_sem, hP, hn]
        refine Le.trans (Le.freeze 2000) ?_
        simp only [go_sem, hP, hn]
        rw [frE_X, List.map_set (f := frX)]
        exact Le.refl _
      · clear hb
        (repeat refine TS.imp ?_)
        refine ⟨⟨[(1, .d (.i .i64 how)), (2, .d (.i .i64 x)), (7, .d (.b true)), (8, .ptr 8 0), (9, .d (frD (fs.set p.toNat (fr fs p))))], [(8, .box 28 (gcs wd lo hi out (.d (rowN ns))))]⟩, ?_, _, rfl, ⟨by rw [List.length_set]; omega, fun f hf => by
                  rcases List.mem_or_eq_of_mem_set hf with hf | hf
                  · exact hsz f hf
                  · rw [hf]; have := fr_len hsz p; omega⟩⟩
        refine Le.trans (b := ⟨[(1, .d (.i .i64 how)), (2, .d (.i .i64 x)), (7, .d (.b true)), (8, .ptr 8 0), (9, .own 2000)], [(8, .box 28 (gcs wd lo hi out (.d (rowN ns)))), (2000, .rows 22 ((rwS (fs.map frX)).set p.toNat (.own 5000))), (5000, .row 3 [.i .i64 0] ((fr fs p).map intC))]⟩) (Le.mv (by simp only [go_sem, hP, hn]; first | done | (simp; done) | (simp [intC]; done) | (repeat (first | rfl | constructor))) (by simp only [go_sem, hP, hn]; first | done | (simp; done) | (simp [intC]; done) | (repeat (first | rfl | constructor)))) ?_
        refine Le.trans (Le.freeze 5000) ?_
        simp only [go_sem, hP, hn]
        refine Le.trans (Le.unrows 2000 [.nil] ((fs.map frX).set p.toNat (.row [.i .i64 0] ((fr fs p).map intC))) rfl rfl) ?_
        simp only [go_sem, hP, hn]
        refine Le.trans (Le.freeze 2000) ?_
        simp only [go_sem, hP, hn]
        rw [frE_X, List.map_set (f := frX)]
        exact Le.refl _
    · (repeat refine TS.imp ?_)
      refine TR.imp ?_; intro K hK; simp only [hhw, go_sem, hP, hn]; (repeat refine vc ?_); refine hK _ ?_; clear K hK
      (repeat refine TS.imp ?_)
      refine Tr.cond rfl (fun hb => ?_) (fun hb => ?_)
      · exfalso
        have hb2 : 0 < f2.length ∧ hw = 1 := by simpa using hb
        exact h1 hb2.2
      · clear hb
        (repeat refine TS.imp ?_)
        exact ⟨_, (Le.mv (by simp only [go_sem, hP, hn]; first | done | (simp; done) | (simp [intC]; done) | (repeat (first | rfl | constructor))) (by simp only [go_sem, hP, hn]; first | done | (simp; done) | (simp [intC]; done) | (repeat (first | rfl | constructor)))), f2, rfl, hf2⟩
  clear hJ
  rintro s ⟨f2, rfl, hf2⟩
  refine Tr.seq ?_
  refine Tr.meet (fun s => ∃ o2 : Int, s = ⟨[(1, .d (.i .i64 how)), (2, .d (.i .i64 x)), (7, .d (.b true)), (8, .ptr 8 0), (9, .d (frD f2))], [(8, .box 28 (gcs wd lo hi o2 (.d (rowN ns))))]⟩) ?_ ?_
  rotate_left
  · (repeat refine TS.imp ?_)
    refine TR.imp ?_; intro K hK; simp only [hhw, go_sem, hP, hn]; (repeat refine vc ?_); refine hK _ ?_; clear K hK
    (repeat refine TS.imp ?_)
    refine Tr.cond rfl (fun hb => ?_) (fun hb => ?_)
    · (repeat refine TS.imp ?_)
      refine TR.imp ?_; intro K hK; simp only [go_sem, hP, hn]; (repeat refine vc ?_); refine hK _ ?_; clear K hK
      (repeat refine TS.imp ?_)
      exact ⟨_, (Le.mv (by simp only [go_sem, hP, hn]; first | done | (simp; done) | (simp [intC]; done) | (repeat (first | rfl | constructor))) (by simp only [go_sem, hP, hn]; first | done | (simp; done) | (simp [intC]; done) | (repeat (first | rfl | constructor)))), x, rfl⟩
    · (repeat refine TS.imp ?_)
      exact ⟨_, (Le.mv (by simp only [go_sem, hP, hn]; first | done | (simp; done) | (simp [intC]; done) | (repeat (first | rfl | constructor))) (by simp only [go_sem, hP, hn]; first | done | (simp; done) | (simp [intC]; done) | (repeat (first | rfl | constructor)))), out, rfl⟩
  rintro s ⟨o2, rfl⟩
  by_cases he : errS wd lo hi o2 ns f2 = 0
  · have hL0 : (lookG wd lo hi o2 ns).1 = 0 ∧ mayE wd lo hi f2 = 0 := by
      unfold errS at he
      split at he
      · rename_i h1
        rw [he] at h1; simp at h1
      · rename_i h1
        exact ⟨by simpa using h1, he⟩
    have hm2 : mayG wd lo hi o2 ns = 0 := by
      have h1 := hL0.1
      unfold lookG at h1
      by_cases hz : mayG wd lo hi o2 ns = 0
      · exact hz
      · rw [if_pos (by simpa using hz)] at h1
        exact absurd h1 hz
    have hF2 := hF.outs hm2
    have hfs2 := fin_mayE hL0.2
    have hmm2 : 0 ≤ (f2.length : Int) ∧ (f2.length : Int) ≤ 1000 := by omega
    have cS := Streams_w Tk hF2 hfs2 hmm2
    have cR := Streams_g Tk.m hF2 hfs2 hmm2
    have cE := Eval_w Tk hF2 hfs2 hmm2
    have cY := Ready_w Tk hF2 hfs2 hmm2
    generalize outL ns W2 o2 f2 = A1 at *
    (repeat refine TS.imp ?_)
    refine TR.imp ?_; intro K hK; simp only [go_sem, hP, hn]
    (repeat refine vc ?_)
    refine CallN_cs (Hi := [] ) (by rw [hP, hT]; exact  cS) rfl rfl rfl trivial (by simp only [go_sem, hP, hn]; try trivial) (by simp only [go_sem, hP, hn]; try rfl) (by simp only [inH, go_sem, hP, hn]; try simp) (by rw [hn]; decide) ?_; simp only [go_sem, hP, hn]; (repeat refine vc ?_)
    refine hK _ ?_; clear K hK
    (repeat refine TS.imp ?_)
    refine TR.imp ?_; intro K hK; simp only [go_sem, hP, hn]
    (repeat refine vc ?_)
    refine CallN_cs (Hi := [] ) (by rw [hP, hT]; exact  cR) rfl rfl rfl trivial (by simp only [go_sem, hP, hn]; try trivial) (by simp only [go_sem, hP, hn]; try rfl) (by simp only [inH, go_sem, hP, hn]; try simp) (by rw [hn]; decide) ?_; simp only [go_sem, hP, hn]; (repeat refine vc ?_)
    refine hK _ ?_; clear K hK
    (repeat refine TS.imp ?_)
    refine TR.imp ?_; intro K hK; simp only [go_sem, hP, hn]
    (repeat refine vc ?_)
    refine CallN_cs (Hi := [] ) (by rw [hP, hT]; exact  cE) rfl rfl rfl trivial (by simp only [go_sem, hP, hn]; try trivial) (by simp only [go_sem, hP, hn]; try rfl) (by simp only [inH, go_sem, hP, hn]; try simp) (by rw [hn]; decide) ?_; simp only [go_sem, hP, hn]; (repeat refine vc ?_)
    refine hK _ ?_; clear K hK
    (repeat refine TS.imp ?_)
    refine TR.imp ?_; intro K hK; simp only [go_sem, hP, hn]
    (repeat refine vc ?_)
    refine CallN_cs (Hi := [] ) (by rw [hP, hT]; exact  cY) rfl rfl rfl trivial (by simp only [go_sem, hP, hn]; try trivial) (by simp only [go_sem, hP, hn]; try rfl) (by simp only [inH, go_sem, hP, hn]; try simp) (by rw [hn]; decide) ?_; simp only [go_sem, hP, hn]; (repeat refine vc ?_)
    refine hK _ ?_; clear K hK
    (repeat refine TS.imp ?_)
    refine Tr.le (Le.keep [7, 12, 13, 14, 15, 16, 17, 18]) ?_; simp only [List.map_cons, List.map_nil, lk, Nat.reduceEqDiff, reduceIte]
    (repeat refine TS.imp ?_)
    refine TR.imp ?_; intro K hK; simp only [go_sem, hP, hn]; (repeat refine vc ?_); refine hK _ ?_; clear K hK
    (repeat refine TS.imp ?_)
    simp only [RetG, go_sem]; (repeat with_reducible refine vc ?_)
    all_goals simp
  · have cS := Streams_we Tk wd lo hi o2 ns f2 (by omega) hF.inn (by omega) hf2.2 he
    have cR := Streams_e Tk.m wd lo hi o2 ns f2 (by omega) (by omega) hF.inn (by omega) he
    have cE := Eval_we Tk wd lo hi o2 ns f2 (by omega) hF.inn (by omega) hf2.2 he
    have cY := Ready_we Tk wd lo hi o2 ns f2 (by omega) hF.inn (by omega) hf2.2 he
    generalize errS wd lo hi o2 ns f2 = e at *
    have hz : (e == 0) = false := by simpa using he
    have w0 : wrap64 0 = 0 := w64 (by omega) (by omega)
    (repeat refine TS.imp ?_)
    refine TR.imp ?_; intro K hK; simp only [go_sem, hP, hn]
    (repeat refine vc ?_)
    refine CallN_cs (Hi := [] ) (by rw [hP, hT]; exact  cS) rfl rfl rfl trivial (by simp only [go_sem, hP, hn]; try trivial) (by simp only [go_sem, hP, hn]; try rfl) (by simp only [inH, go_sem, hP, hn]; try simp) (by rw [hn]; decide) ?_; simp only [go_sem, hP, hn]; (repeat refine vc ?_)
    refine hK _ ?_; clear K hK
    (repeat refine TS.imp ?_)
    refine TR.imp ?_; intro K hK; simp only [go_sem, hP, hn]
    (repeat refine vc ?_)
    refine CallN_cs (Hi := [] ) (by rw [hP, hT]; exact  cR) rfl rfl rfl trivial (by simp only [go_sem, hP, hn]; try trivial) (by simp only [go_sem, hP, hn]; try rfl) (by simp only [inH, go_sem, hP, hn]; try simp) (by rw [hn]; decide) ?_; simp only [go_sem, hP, hn]; (repeat refine vc ?_)
    refine hK _ ?_; clear K hK
    (repeat refine TS.imp ?_)
    refine TR.imp ?_; intro K hK; simp only [go_sem, hP, hn]
    (repeat refine vc ?_)
    refine CallN_cs (Hi := [] ) (by rw [hP, hT]; exact  cE) rfl rfl rfl trivial (by simp only [go_sem, hP, hn]; try trivial) (by simp only [go_sem, hP, hn]; try rfl) (by simp only [inH, go_sem, hP, hn]; try simp) (by rw [hn]; decide) ?_; simp only [go_sem, hP, hn]; (repeat refine vc ?_)
    refine hK _ ?_; clear K hK
    (repeat refine TS.imp ?_)
    refine TR.imp ?_; intro K hK; simp only [go_sem, hP, hn]
    (repeat refine vc ?_)
    refine CallN_cs (Hi := [] ) (by rw [hP, hT]; exact  cY) rfl rfl rfl trivial (by simp only [go_sem, hP, hn]; try trivial) (by simp only [go_sem, hP, hn]; try rfl) (by simp only [inH, go_sem, hP, hn]; try simp) (by rw [hn]; decide) ?_; simp only [go_sem, hP, hn]; (repeat refine vc ?_)
    refine hK _ ?_; clear K hK
    (repeat refine TS.imp ?_)
    refine Tr.le (Le.keep [7, 12, 13, 14, 15, 16, 17, 18]) ?_; simp only [List.map_cons, List.map_nil, lk, Nat.reduceEqDiff, reduceIte]
    (repeat refine TS.imp ?_)
    refine TR.imp ?_; intro K hK; simp only [hz, w0, go_sem, hP, hn]; (repeat refine vc ?_); refine hK _ ?_; clear K hK
    (repeat refine TS.imp ?_)
    simp only [RetG, go_sem]; (repeat with_reducible refine vc ?_)
    all_goals simp [w0]
end
end Go.Proofs.YtgomeljgbjgbkaaGreatDoor.Aw
