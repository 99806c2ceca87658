/- The abstract walk, and contracts of Go functions: each call returns what the Lean function named tells. Conditions: those that each theorem names, none else. -/
import Derived.Test.YtgomeljgbjgbkaaGreatDoorZWholeNone5
set_option linter.unusedVariables false
set_option linter.unusedSimpArgs false
set_option maxRecDepth 100000
set_option linter.unusedSectionVars false
set_option maxHeartbeats 4000000
namespace Go.Proofs.YtgomeljgbjgbkaaGreatDoor.Aw
open Go.RowKit
attribute [local go_sem_proc] Nat.reduceAdd Nat.reduceMul Nat.reduceSub Nat.reduceEqDiff Nat.reduceLeDiff Nat.reduceBEq Nat.reduceBNe Int.reduceToNat reduceIte reduceCtorEq
attribute [local go_sem] initT SQ so pe he ev lk constS stp stc gdS nth pickS pickD loadS cellsAt okAt fieldAddrS fieldS partS indexAddrS indexS extractS binS binD binI isShift unS convS lenS sliceS bndI bndC mmS mm2 mmD builtS fillS okCells cellsS splS solid aliveL alive okS boxS allocS makeS bsliceS elemsOf dcells stF frzW storeS frzA frzK oneS1 srcR rwsOf hdO appR frz frzT frzS frzL frzO frzH appS srcS appVC killS killT killC killH killO k1 k2 S.has S.hasL St.add St.upd dropH lh cond_or cond_and rw_intC rw_intC0 rw_set rw_app rw_apps rw_rep rw_slice wr64 cond_true cond_false true_and and_true List.map_cons List.map_nil List.length_cons List.length_nil List.drop_succ_cons List.drop_zero List.take_succ_cons List.take_zero List.nil_append List.cons_append List.getD_cons_zero List.getD_cons_succ List.headD_cons List.length_map ite_true ite_false if_true if_false Bool.false_eq_true and_self forall_const List.drop_nil List.take_nil List.append_nil Option.map_some Option.map_none List.mapM_cons List.mapM_nil Option.bind_eq_bind Option.bind_some Option.pure_def knows resL resV oneS freshS freshL cv cvL stpL stcL or_true true_or or_false false_or List.all_cons List.all_nil Bool.and_self Bool.or_self Bool.true_and Bool.and_true Bool.or_false Bool.false_or implies_true flatD allm_nil allm_cons List.getElem?_cons_zero List.getElem?_cons_succ Nd.cs Nd.ds ml mln Option.isSome_some Option.isSome_none eq_self Int.toNat_natCast AP ldOk isLd inL subL crt chg chgS chgP idxs aliveW Option.toList_some Option.toList_none Option.toList RetG Nd.win frzA offK keepH aliveK nkH closedH closedO keysK inH St.upd rowO List.contains_cons List.contains_nil Bool.or_self Option.isNone_none Option.isNone_some Bool.not_true Bool.not_false gcs rowN e0N frzC
attribute [local go_sem] sz2 ag2 ok2 kk2 iu2 zc2 zd2 by2 sz3 ag3 ok3 kk3 iu3 zc3 zd3 by3 sz4 ag4 ok4 bo4 zc4 zd4 by4 sz5 ag5 ok5 kk5 iu5 zc5 zd5 by5 sz9 ag9 ok9 st9 zc9 zd9 by9 sz12 ag12 ok12 kk12 iu12 zc12 zd12 by12 sz15 ag15 ok15 zc15 by15 sz16 ag16 ok16 zc16 by16 sz21 ag21 ok21 kk21 iu21 zc21 zd21 by21 sz22 ag22 ok22 sl22 zc22 zd22 by22 sz23 ag23 ok23 zc23 zd23 pl23 by23 fl23_0 fl23_1 fl23_2 sz24 ag24 ok24 zc24 zd24 pl24 by24 fl24_0 fl24_1 fl24_2 sz26 ag26 ok26 sl26 zc26 zd26 by26 sz27 ag27 ok27 zc27 zd27 pl27 by27 fl27_0 fl27_1 fl27_2 fl27_3 fl27_4 sz28 ag28 ok28 zc28 zd28 pl28 by28 fl28_0 fl28_1 fl28_2 fl28_3 fl28_4 sz29 ag29 ok29 sl29 zc29 zd29 by29 sz32 ag32 ok32 sl32 zc32 zd32 by32 sz33 ag33 ok33 kk33 iu33 zc33 zd33 by33 sz36 ag36 ok36 zc36 zd36 pl36 by36 fl36_0 fl36_1 sz37 ag37 ok37 zc37 zd37 pl37 by37 fl37_0 fl37_1 sz49 ag49 ok49 zc49 zd49 pl49 by49 fl49_0 fl49_1 fl49_2 fl49_3 fl49_4 fl49_5 fl49_6 fl49_7 fl49_8 fl49_9 fl49_10 fl49_11 fl49_12 fl49_13 fl49_14 sz50 ag50 ok50 zc50 zd50 pl50 by50 fl50_0 fl50_1 fl50_2 fl50_3 fl50_4 fl50_5 fl50_6 fl50_7 fl50_8 fl50_9 fl50_10 fl50_11 fl50_12 fl50_13 fl50_14 sz53 ag53 ok53 zc53 by53 sz55 ag55 ok55 zc55 zd55 pl55 by55 fl55_0 fl55_1 fl55_2 sz56 ag56 ok56 zc56 zd56 pl56 by56 fl56_0 fl56_1 fl56_2 sz58 ag58 ok58 zc58 zd58 pl58 by58 fl58_0 fl58_1 fl58_2 fl58_3 sz59 ag59 ok59 zc59 zd59 pl59 by59 fl59_0 fl59_1 fl59_2 fl59_3 sz66 ag66 ok66 zc66 zd66 pl66 by66 fl66_0 fl66_1 fl66_2 sz67 ag67 ok67 zc67 zd67 pl67 by67 fl67_0 fl67_1 fl67_2 sz79 ag79 ok79 zc79 by79 sz80 ag80 ok80 zc80 zd80 pl80 by80 fl80_0 fl80_1 sz81 ag81 ok81 zc81 zd81 pl81 by81 fl81_0 fl81_1 sz105 ag105 ok105 sl105 ar105 zc105 zd105 pl105 by105 sz108 ag108 ok108 sl108 ar108 zc108 zd108 pl108 by108 sz109 ag109 ok109 zc109 by109 sz115 ag115 ok115 zc115 zd115 pl115 by115 fl115_0 fl115_1 sz116 ag116 ok116 zc116 zd116 pl116 by116 fl116_0 fl116_1 sz120 ag120 ok120 zc120 zd120 pl120 by120 fl120_0 fl120_1 sz121 ag121 ok121 sl121 ar121 zc121 zd121 pl121 by121 sz124 ag124 ok124 kk124 iu124 zc124 zd124 by124 sz133 ag133 ok133 kk133 iu133 zc133 zd133 by133 sz137 ag137 ok137 zc137 by137
section
attribute [local go_sem] frD
theorem right_g {T : World → Prop} (Tk : KT T) (n : Nd) (fs : List (List Int)) (hm0 : fs.length ≤ 65536) (hwl : n.ws.length ≤ 65536) (hbl : n.bs.length ≤ 65536) (hil : n.inn.length ≤ 65536) (hfl : ∀ f ∈ fs, f.length ≤ 65536) : Cg Go.Proofs.Tryz.prog T 63 [] [.agg n.cs, .d (frD fs)] (fun r H => H = [] ∧ r = .d (.b (rightV n fs))) := by
  refine Cg_of [] Tk.m Go.Proofs.Tryz.func63 rfl rfl Go.Proofs.Tryz.ntmps63 (by simp) rfl (rs := [.tmp 4]) rfl fun E hP hn hT hpn => ?_
  (repeat refine TS.imp ?_)
  refine TR.imp ?_; intro K hK; simp only [go_sem, hP, hn]; (repeat refine vc ?_); refine hK _ ?_; clear K hK
  (repeat refine TS.imp ?_)
  refine TR.imp ?_; intro K hK; simp only [go_sem, hP, hn]; (repeat refine vc ?_); refine hK _ ?_; clear K hK
  (repeat refine TS.imp ?_)
  refine Tr.cond rfl (fun h1 => ?_) (fun h1 => ?_)
  · have : rightV n fs = false := by unfold rightV; rw [h1]; rfl
    rw [this]
    (repeat (first | (refine TR.imp ?_; intro K hK; simp only [go_sem, hP, hn]; (repeat refine vc ?_); refine hK _ ?_; clear K hK) | refine TS.imp ?_))
    simp only [RetG, go_sem]; (repeat with_reducible refine vc ?_)
  have hpos : 0 < fs.length := by
    have : ¬ (fs.length : Int) = 0 := by simpa using h1
    omega
  have hR : rightV n fs = (!((fs.length : Int) != manyV n fs || n.rchk (wdsV n fs) != 0) && fs.all (frOk (wdsV n fs))) := by unfold rightV; rw [h1]; rfl
  rw [hR]
  clear h1 hR
  refine Tr.le (Le.keep [1, 2]) ?_; simp only [List.map_cons, List.map_nil, lk, Nat.reduceEqDiff, reduceIte]
  (repeat refine TS.imp ?_)
  refine d5 (.p true 0 (.p true 1 (.p true 2 (.p true 3 (.p true 5 (.alt 4 (.p false 6 .nil) .nil)))))) [] (by rw [hP]; kernel_rfl) (by kernel_rfl) (by simp only [go_sem, hP, hn]; try simp) (by exact fun _ _ h => h) ?_; intro K hK; simp only [go_sem, hP, hn]
  rw [show (fs.map frE).getD 0 [.nil] = [.row [.i .i64 0] ((fr fs 0).map intC)] from rw_fr fs 0 (by omega) (by omega)]
  simp only [go_sem, hP, hn]
  (repeat refine vc ?_)
  refine hK _ ?_; clear K hK
  refine Tr.seq ?_
  refine Tr.meet (fun s => s = ⟨[(1, .d (frD fs)), (2, .ptr 2 0), (5, .d (.i .i64 (manyV n fs))), (6, .d (.row [.i .i64 0] ((wdsV n fs).map intC)))], [(2, .box 50 n.cs)]⟩) ?_ ?_
  rotate_left
  · (repeat refine TS.imp ?_)
    refine TR.imp ?_; intro K hK; simp only [go_sem, hP, hn]; (repeat refine vc ?_); refine hK _ ?_; clear K hK
    refine Tr.le (Le.keep [1, 2, 5, 6, 22]) ?_; simp only [List.map_cons, List.map_nil, lk, Nat.reduceEqDiff, reduceIte]
    refine Tr.block ?_
    refine Tr.seq ?_
    refine Tr.meet (fun s => s = ⟨[(1, .d (frD fs)), (2, .ptr 2 0), (5, .d (.i .i64 1)), (6, .own 20), (22, .d (.i .i64 n.k)), (23, .d (.b (rWin n.k)))], [(2, .box 50 n.cs), (20, .row 3 [.i .i64 0] ([((fr fs 0).length : Int)].map intC))]⟩) ?_ ?_
    rotate_left
    · (repeat refine TS.imp ?_)
      refine TR.imp ?_; intro K hK; simp only [go_sem, hP, hn]; (repeat refine vc ?_); refine hK _ ?_; clear K hK
      (repeat refine TS.imp ?_)
      refine Tr.cond rfl (fun h1 => ?_) (fun h1 => ?_)
      · rw [h1, show rWin n.k = true by unfold rWin; rw [h1]; rfl]
        (repeat refine TS.imp ?_)
        exact ⟨_, (Le.mv (by simp only [go_sem, hP, hn]; first | done | (simp; done) | (simp [intC]; done) | (repeat (first | rfl | constructor))) (by simp only [go_sem, hP, hn]; first | done | (simp; done) | (simp [intC]; done) | (repeat (first | rfl | constructor)))), rfl⟩
      (repeat refine TS.imp ?_)
      refine TR.imp ?_; intro K hK; simp only [go_sem, hP, hn]; (repeat refine vc ?_); refine hK _ ?_; clear K hK
      (repeat refine TS.imp ?_)
      refine Tr.cond rfl (fun h2 => ?_) (fun h2 => ?_)
      · rw [h2, show rWin n.k = true by unfold rWin; rw [h2, Bool.or_true]; rfl]
        (repeat refine TS.imp ?_)
        exact ⟨_, (Le.mv (by simp only [go_sem, hP, hn]; first | done | (simp; done) | (simp [intC]; done) | (repeat (first | rfl | constructor))) (by simp only [go_sem, hP, hn]; first | done | (simp; done) | (simp [intC]; done) | (repeat (first | rfl | constructor)))), rfl⟩
      (repeat refine TS.imp ?_)
      refine TR.imp ?_; intro K hK; simp only [go_sem, hP, hn]; (repeat refine vc ?_); refine hK _ ?_; clear K hK
      (repeat refine TS.imp ?_)
      refine Tr.cond rfl (fun h3 => ?_) (fun h3 => ?_)
      · rw [h3, show rWin n.k = true by unfold rWin; rw [h3, Bool.or_true]; rfl]
        (repeat refine TS.imp ?_)
        exact ⟨_, (Le.mv (by simp only [go_sem, hP, hn]; first | done | (simp; done) | (simp [intC]; done) | (repeat (first | rfl | constructor))) (by simp only [go_sem, hP, hn]; first | done | (simp; done) | (simp [intC]; done) | (repeat (first | rfl | constructor)))), rfl⟩
      (repeat refine TS.imp ?_)
      refine TR.imp ?_; intro K hK; simp only [go_sem, hP, hn]; (repeat refine vc ?_); refine hK _ ?_; clear K hK
      (repeat refine TS.imp ?_)
      refine Tr.cond rfl (fun h4 => ?_) (fun h4 => ?_)
      · rw [h4, show rWin n.k = true by unfold rWin; rw [h4, Bool.or_true]; rfl]
        (repeat refine TS.imp ?_)
        exact ⟨_, (Le.mv (by simp only [go_sem, hP, hn]; first | done | (simp; done) | (simp [intC]; done) | (repeat (first | rfl | constructor))) (by simp only [go_sem, hP, hn]; first | done | (simp; done) | (simp [intC]; done) | (repeat (first | rfl | constructor)))), rfl⟩
      (repeat refine TS.imp ?_)
      refine TR.imp ?_; intro K hK; simp only [go_sem, hP, hn]; (repeat refine vc ?_); refine hK _ ?_; clear K hK
      (repeat refine TS.imp ?_)
      rw [show rWin n.k = (n.k == 12) by unfold rWin; rw [h1, h2, h3, h4]; rfl]
      exact ⟨_, (Le.mv (by simp only [go_sem, hP, hn]; first | done | (simp; done) | (simp [intC]; done) | (repeat (first | rfl | constructor))) (by simp only [go_sem, hP, hn]; first | done | (simp; done) | (simp [intC]; done) | (repeat (first | rfl | constructor)))), rfl⟩
    rintro s rfl
    have hnm : rMany n.k = false → wdsV n fs = [((fr fs 0).length : Int)] := fun e => by unfold wdsV; rw [e]; rfl
    (repeat refine TS.imp ?_)
    refine Tr.cond rfl (fun hw => ?_) (fun hw => ?_)
    · rw [hnm (by
        unfold rWin at hw
        unfold rMany
        simp only [Bool.or_eq_true, beq_iff_eq] at hw
        simp only [Bool.or_eq_false_iff, beq_eq_false_iff_ne]
        omega)]
      have : manyV n fs = n.size := by unfold manyV; rw [hw]; rfl
      rw [this]
      (repeat refine TS.imp ?_)
      refine TR.imp ?_; intro K hK; simp only [go_sem, hP, hn]; (repeat refine vc ?_); refine hK _ ?_; clear K hK
      (repeat refine TS.imp ?_)
      exact ⟨_, (Le.freeze 20).trans (Le.mv (by simp only [go_sem, hP, hn]; first | done | (simp; done) | (simp [intC]; done) | (repeat (first | rfl | constructor))) (by simp only [go_sem, hP, hn]; first | done | (simp; done) | (simp [intC]; done) | (repeat (first | rfl | constructor)))), rfl⟩
    (repeat refine TS.imp ?_)
    refine TR.imp ?_; intro K hK; simp only [go_sem, hP, hn]; (repeat refine vc ?_); refine hK _ ?_; clear K hK
    (repeat refine TS.imp ?_)
    refine Tr.cond rfl (fun h5 => ?_) (fun h5 => ?_)
    · have hk : n.k = 5 := by simpa using h5
      rw [hnm (by rw [hk]; rfl)]
      have : manyV n fs = fs.length := by unfold manyV; rw [hw, h5]; rfl
      rw [this]
      (repeat refine TS.imp ?_)
      refine TR.imp ?_; intro K hK; simp only [go_sem, hP, hn]; (repeat refine vc ?_); refine hK _ ?_; clear K hK
      (repeat refine TS.imp ?_)
      exact ⟨_, (Le.freeze 20).trans (Le.mv (by simp only [go_sem, hP, hn]; first | done | (simp; done) | (simp [intC]; done) | (repeat (first | rfl | constructor))) (by simp only [go_sem, hP, hn]; first | done | (simp; done) | (simp [intC]; done) | (repeat (first | rfl | constructor)))), rfl⟩
    refine Tr.seq ?_
    refine Tr.meet (fun s => s = ⟨[(1, .d (frD fs)), (2, .ptr 2 0), (5, .d (.i .i64 1)), (6, .own 20), (35, .d (.b (rMany n.k)))], [(2, .box 50 n.cs), (20, .row 3 [.i .i64 0] ([((fr fs 0).length : Int)].map intC))]⟩) ?_ ?_
    rotate_left
    · (repeat refine TS.imp ?_)
      refine TR.imp ?_; intro K hK; simp only [go_sem, hP, hn]; (repeat refine vc ?_); refine hK _ ?_; clear K hK
      (repeat refine TS.imp ?_)
      refine Tr.cond rfl (fun h7 => ?_) (fun h7 => ?_)
      · rw [h7, show rMany n.k = true by unfold rMany; rw [h7]; rfl]
        (repeat refine TS.imp ?_)
        exact ⟨_, (Le.mv (by simp only [go_sem, hP, hn]; first | done | (simp; done) | (simp [intC]; done) | (repeat (first | rfl | constructor))) (by simp only [go_sem, hP, hn]; first | done | (simp; done) | (simp [intC]; done) | (repeat (first | rfl | constructor)))), rfl⟩
      (repeat refine TS.imp ?_)
      refine TR.imp ?_; intro K hK; simp only [go_sem, hP, hn]; (repeat refine vc ?_); refine hK _ ?_; clear K hK
      (repeat refine TS.imp ?_)
      rw [show rMany n.k = (n.k == 8) by unfold rMany; rw [h7]; rfl]
      exact ⟨_, (Le.mv (by simp only [go_sem, hP, hn]; first | done | (simp; done) | (simp [intC]; done) | (repeat (first | rfl | constructor))) (by simp only [go_sem, hP, hn]; first | done | (simp; done) | (simp [intC]; done) | (repeat (first | rfl | constructor)))), rfl⟩
    rintro s rfl
    (repeat refine TS.imp ?_)
    refine Tr.cond rfl (fun hq => ?_) (fun hq => ?_)
    · have : manyV n fs = n.inn.length := by unfold manyV; rw [hw, h5, hq]; rfl
      rw [this]
      (repeat refine TS.imp ?_)
      refine TR.imp ?_; intro K hK; simp only [go_sem, hP, hn]; (repeat refine vc ?_); refine hK _ ?_; clear K hK
      (repeat refine TS.imp ?_)
      refine TR.imp ?_; intro K hK; simp only [go_sem, hP, hn]; (repeat refine vc ?_); refine hK _ ?_; clear K hK
      (repeat refine TS.imp ?_)
      refine Tr.le (Le.keep [1, 2, 5, 6, 41, 42, 43]) ?_; simp only [List.map_cons, List.map_nil, lk, Nat.reduceEqDiff, reduceIte]
      refine Tr.le (Le.nilslot 3001 6 3 [.i .i64 0] rfl (by rw [hpn] <;> rfl) rfl rfl) ?_
      refine Tr.loop (fun q s => ∃ (i : Int), s = ⟨[(1, .d (frD fs)), (2, .ptr 2 0), (5, .d (.i .i64 n.inn.length)), (6, .own 3001), (41, .d (frD fs)), (42, .d (.i .i64 fs.length)), (43, .d (.i .i64 i))], [(2, .box 50 n.cs), (3001, .row 3 [.i .i64 0] (((fs.map (fun f => (f.length : Int))).take i.toNat).map intC))]⟩ ∧ 0 ≤ i ∧ i + q = fs.length) fs.length ⟨_, (Le.mv (by simp only [go_sem, hP, hn]; first | done | (simp; done) | (simp [intC]; done) | (repeat (first | rfl | constructor))) (by simp only [go_sem, hP, hn]; first | done | (simp; done) | (simp [intC]; done) | (repeat (first | rfl | constructor)))), 0, rfl, by omega, by omega⟩ ?_
      rintro q s ⟨i, rfl, i0, iq⟩
      have htl : ((fs.map (fun f => (f.length : Int))).take i.toNat).length ≤ 65536 := by simp; omega
      (repeat refine TS.imp ?_)
      refine TR.imp ?_; intro K hK; simp only [go_sem, hP, hn]; (repeat refine vc ?_); refine hK _ ?_; clear K hK
      (repeat refine TS.imp ?_)
      refine Tr.cond rfl (fun hb => ?_) (fun hb => ?_)
      · have hi : i < fs.length := by simpa using hb
        have htk : (fs.map (fun f => (f.length : Int))).take (i + 1).toNat = (fs.map (fun f => (f.length : Int))).take i.toNat ++ [((fr fs i).length : Int)] := by
          rw [take_rd i0 (by simpa using hi)]
          have hk : i.toNat < fs.length := by omega
          simp [rd, fr, List.getD, hk]
        generalize (fs.map (fun f => (f.length : Int))).take i.toNat = L at *
        clear hb
        (repeat refine TS.imp ?_)
        refine TR.imp ?_; intro K hK; simp only [go_sem, hP, hn]
        rw [rw_fr fs i i0 hi]
        simp only [go_sem, hP, hn]
        (repeat refine vc ?_)
        refine hK _ ?_; clear K hK
        (repeat refine TS.imp ?_)
        refine TR.imp ?_; intro K hK; simp only [go_sem, hP, hn]; (repeat refine vc ?_); refine hK _ ?_; clear K hK
        (repeat refine TS.imp ?_)
        refine TR.imp ?_; intro K hK; simp only [go_sem, hP, hn]; (repeat refine vc ?_); refine hK _ ?_; clear K hK
        (repeat refine TS.imp ?_)
        rw [w64 (x := i + 1) (by omega) (by omega)]
        refine ⟨q - 1, _, by omega, ?_, i + 1, rfl, by omega, by omega⟩
        rw [htk]
        refine Le.trans (b := ⟨[(1, .d (frD fs)), (2, .ptr 2 0), (5, .d (.i .i64 n.inn.length)), (6, .own 51), (41, .d (frD fs)), (42, .d (.i .i64 fs.length)), (43, .d (.i .i64 (i + 1)))], [(2, .box 50 n.cs), (51, .row 3 [.i .i64 0] ((L ++ [((fr fs i).length : Int)]).map intC))]⟩) (Le.mv (by simp only [go_sem, hP, hn]; first | done | (simp; done) | (simp [intC]; done) | (repeat (first | rfl | constructor))) (by simp only [go_sem, hP, hn]; first | done | (simp; done) | (simp [intC]; done) | (repeat (first | rfl | constructor)))) ?_
        refine Le.trans (Le.ren 51 3001 (by rw [hpn] <;> rfl) rfl rfl) ?_; simp only [renT, renH, renO, renS, renL, rn, go_sem, hP, hn]
        exact (Le.mv (by simp only [go_sem, hP, hn]; first | done | (simp; done) | (simp [intC]; done) | (repeat (first | rfl | constructor))) (by simp only [go_sem, hP, hn]; first | done | (simp; done) | (simp [intC]; done) | (repeat (first | rfl | constructor))))
      · have hi : i = fs.length := by have := of_decide_eq_false hb; omega
        subst hi
        clear hb
        have e : wdsV n fs = (fs.map (fun f => (f.length : Int))).take (fs.length : Int).toNat := by
          unfold wdsV
          rw [hq, if_pos rfl, List.take_of_length_le (by simp)]
        rw [e]
        (repeat refine TS.imp ?_)
        exact ⟨_, (Le.freeze 3001).trans (Le.mv (by simp only [go_sem, hP, hn]; first | done | (simp; done) | (simp [intC]; done) | (repeat (first | rfl | constructor))) (by simp only [go_sem, hP, hn]; first | done | (simp; done) | (simp [intC]; done) | (repeat (first | rfl | constructor)))), rfl⟩
    · have : manyV n fs = 1 := by unfold manyV; rw [hw, h5, hq]; rfl
      rw [this, hnm hq]
      (repeat refine TS.imp ?_)
      exact ⟨_, (Le.freeze 20).trans (Le.mv (by simp only [go_sem, hP, hn]; first | done | (simp; done) | (simp [intC]; done) | (repeat (first | rfl | constructor))) (by simp only [go_sem, hP, hn]; first | done | (simp; done) | (simp [intC]; done) | (repeat (first | rfl | constructor)))), rfl⟩
  rintro s rfl
  have hrl : (wdsV n fs).length ≤ 65536 := by
    unfold wdsV
    split
    · simp; omega
    · simp
  have hrp : 0 < (wdsV n fs).length := by
    unfold wdsV
    split
    · simp; omega
    · simp
  generalize wdsV n fs = V at *
  generalize manyV n fs = M at *
  (repeat refine TS.imp ?_)
  refine TR.imp ?_; intro K hK; simp only [go_sem, hP, hn]; (repeat refine vc ?_); refine c2 (fun hg => by rw [hP, hT]; exact Check_k Tk n V hwl hbl hrl hil) rfl rfl rfl (fun hg => trivial) (fun hg => by clear hK; revert hg; simp only [go_sem, hP, hn]; first | trivial | omega | (simp; done) | (simp +contextual; done) | grind) (fun hg => by simp only [go_sem, hP, hn]; try rfl) (by rw [hn]; decide) (by rfl) ?_; simp only [go_sem, hP, hn]; (repeat refine vc ?_); refine hK _ ?_; clear K hK
  (repeat refine TS.imp ?_)
  rw [chk_eq]
  refine Tr.cond rfl (fun hc => ?_) (fun hc => ?_)
  · (repeat (first | (refine TR.imp ?_; intro K hK; simp only [go_sem, hP, hn]; (repeat refine vc ?_); refine hK _ ?_; clear K hK) | refine TS.imp ?_))
    simp only [RetG, go_sem]; (repeat with_reducible refine vc ?_)
    rw [hc]; rfl
  rw [hc]
  clear hc
  rw [Bool.not_false, Bool.true_and]
  (repeat refine TS.imp ?_)
  refine TR.imp ?_; intro K hK; simp only [go_sem, hP, hn]; (repeat refine vc ?_); refine hK _ ?_; clear K hK
  (repeat refine TS.imp ?_)
  refine Tr.le (Le.keep [1, 2, 6, 63, 64, 65]) ?_; simp only [List.map_cons, List.map_nil, lk, Nat.reduceEqDiff, reduceIte]
  generalize hV : fs.all (frOk V) = v
  refine Tr.loop (fun q s => ∃ (i : Int), s = ⟨[(1, .d (frD fs)), (2, .ptr 2 0), (6, .d (.row [.i .i64 0] (V.map intC))), (63, .d (frD fs)), (64, .d (.i .i64 fs.length)), (65, .d (.i .i64 i))], [(2, .box 50 n.cs)]⟩ ∧ 0 ≤ i ∧ i + q = fs.length ∧ v = (fs.drop i.toNat).all (frOk V)) fs.length ⟨_, (Le.mv (by simp only [go_sem, hP, hn]; first | done | (simp; done) | (simp [intC]; done) | (repeat (first | rfl | constructor))) (by simp only [go_sem, hP, hn]; first | done | (simp; done) | (simp [intC]; done) | (repeat (first | rfl | constructor)))), 0, rfl, by omega, by omega, hV.symm⟩ ?_
  rintro q s ⟨i, rfl, i0, iq, hv⟩
  (repeat refine TS.imp ?_)
  refine TR.imp ?_; intro K hK; simp only [go_sem, hP, hn]; (repeat refine vc ?_); refine hK _ ?_; clear K hK
  (repeat refine TS.imp ?_)
  refine Tr.cond rfl (fun hb => ?_) (fun hb => ?_)
  · have hi : i < fs.length := by simpa using hb
    have hdr : fs.drop i.toNat = fr fs i :: fs.drop (i + 1).toNat := by
      have hk : i.toNat < fs.length := by omega
      rw [List.drop_eq_getElem_cons hk, show (i + 1).toNat = i.toNat + 1 by omega]
      simp [fr, List.getD, hk]
    rw [hdr, List.all_cons] at hv
    have hfl2 := hfl _ (fr_mem i0 hi)
    clear hb
    (repeat refine TS.imp ?_)
    refine TR.imp ?_; intro K hK; simp only [go_sem, hP, hn]
    rw [rw_fr fs i i0 hi]
    simp only [go_sem, hP, hn]
    (repeat refine vc ?_)
    refine hK _ ?_; clear K hK
    (repeat refine TS.imp ?_)
    generalize fr fs i = f at *
    refine TR.imp ?_; intro K hK; simp only [go_sem, hP, hn]
    (repeat refine vc ?_)
    refine hK _ ?_; clear K hK
    (repeat refine TS.imp ?_)
    refine Tr.cond rfl (fun hc => ?_) (fun hc => ?_)
    · (repeat (first | (refine TR.imp ?_; intro K hK; simp only [go_sem, hP, hn]; (repeat refine vc ?_); refine hK _ ?_; clear K hK) | refine TS.imp ?_))
      simp only [RetG, go_sem]; (repeat with_reducible refine vc ?_)
      unfold frOk at hv
      rw [hc] at hv
      simpa using hv
    have hfo : frOk V f = f.all fits32 := by unfold frOk; rw [hc]; rfl
    rw [hfo] at hv
    clear hc hfo
    refine Tr.le (Le.keep [1, 2, 6, 10, 63, 64, 65]) ?_; simp only [List.map_cons, List.map_nil, lk, Nat.reduceEqDiff, reduceIte]
    (repeat refine TS.imp ?_)
    refine TR.imp ?_; intro K hK; simp only [go_sem, hP, hn]; (repeat refine vc ?_); refine hK _ ?_; clear K hK
    (repeat refine TS.imp ?_)
    refine Tr.le (Le.keep [1, 2, 6, 63, 64, 65, 80, 81, 82]) ?_; simp only [List.map_cons, List.map_nil, lk, Nat.reduceEqDiff, reduceIte]
    refine Tr.loop (fun p s => ∃ (k : Int), s = ⟨[(1, .d (frD fs)), (2, .ptr 2 0), (6, .d (.row [.i .i64 0] (V.map intC))), (63, .d (frD fs)), (64, .d (.i .i64 fs.length)), (65, .d (.i .i64 i)), (80, .d (.row [.i .i64 0] (f.map intC))), (81, .d (.i .i64 f.length)), (82, .d (.i .i64 k))], [(2, .box 50 n.cs)]⟩ ∧ 0 ≤ k ∧ k + p = f.length ∧ v = ((f.drop k.toNat).all fits32 && (fs.drop (i + 1).toNat).all (frOk V))) f.length ⟨_, (Le.mv (by simp only [go_sem, hP, hn]; first | done | (simp; done) | (simp [intC]; done) | (repeat (first | rfl | constructor))) (by simp only [go_sem, hP, hn]; first | done | (simp; done) | (simp [intC]; done) | (repeat (first | rfl | constructor)))), 0, rfl, by omega, by omega, hv⟩ ?_
    clear hv
    rintro p s ⟨k, rfl, k0, kp, hv⟩
    (repeat refine TS.imp ?_)
    refine TR.imp ?_; intro K hK; simp only [go_sem, hP, hn]; (repeat refine vc ?_); refine hK _ ?_; clear K hK
    (repeat refine TS.imp ?_)
    refine Tr.cond rfl (fun hb => ?_) (fun hb => ?_)
    · have hk : k < f.length := by simpa using hb
      rw [drop_rd k0 hk, List.all_cons] at hv
      clear hb
      (repeat refine TS.imp ?_)
      refine TR.imp ?_; intro K hK; simp only [go_sem, hP, hn]; (repeat refine vc ?_); refine hK _ ?_; clear K hK
      (repeat refine TS.imp ?_)
      refine TR.imp ?_; intro K hK; simp only [go_sem, hP, hn]; (repeat refine vc ?_); refine c1 (by rw [hP, hT]; exact Fits_c Tk.m (rd f k)) rfl rfl rfl trivial (by simp only [go_sem, hP, hn]; try trivial) (by simp only [go_sem, hP, hn]; try rfl) (by rw [hn]; decide) (by rfl) ?_; simp only [go_sem, hP, hn]; (repeat refine vc ?_); refine hK _ ?_; clear K hK
      (repeat refine TS.imp ?_)
      refine Tr.cond rfl (fun hc => ?_) (fun hc => ?_)
      · have hc : fits32 (rd f k) = false := by simpa using hc
        (repeat (first | (refine TR.imp ?_; intro K hK; simp only [go_sem, hP, hn]; (repeat refine vc ?_); refine hK _ ?_; clear K hK) | refine TS.imp ?_))
        simp only [RetG, go_sem]; (repeat with_reducible refine vc ?_)
        rw [hv, hc]; rfl
      · have hc : fits32 (rd f k) = true := by simpa using hc
        (repeat refine TS.imp ?_)
        refine TR.imp ?_; intro K hK; simp only [go_sem, hP, hn]; (repeat refine vc ?_); refine hK _ ?_; clear K hK
        (repeat refine TS.imp ?_)
        rw [w64 (x := k + 1) (by omega) (by omega)]
        refine ⟨p - 1, _, by omega, ?_, k + 1, rfl, by omega, by omega, by rw [hv, hc]; rfl⟩
        exact (Le.mv (by simp only [go_sem, hP, hn]; first | done | (simp; done) | (simp [intC]; done) | (repeat (first | rfl | constructor))) (by simp only [go_sem, hP, hn]; first | done | (simp; done) | (simp [intC]; done) | (repeat (first | rfl | constructor))))
    · rw [drop_end (by simpa using hb)] at hv
      (repeat refine TS.imp ?_)
      refine TR.imp ?_; intro K hK; simp only [go_sem, hP, hn]; (repeat refine vc ?_); refine hK _ ?_; clear K hK
      (repeat refine TS.imp ?_)
      rw [w64 (x := i + 1) (by omega) (by omega)]
      refine ⟨q - 1, _, by omega, ?_, i + 1, rfl, by omega, by omega, by simpa using hv⟩
      exact (Le.mv (by simp only [go_sem, hP, hn]; first | done | (simp; done) | (simp [intC]; done) | (repeat (first | rfl | constructor))) (by simp only [go_sem, hP, hn]; first | done | (simp; done) | (simp [intC]; done) | (repeat (first | rfl | constructor))))
  · rw [List.drop_of_length_le (by have := of_decide_eq_false hb; omega)] at hv
    (repeat (first | (refine TR.imp ?_; intro K hK; simp only [go_sem, hP, hn]; (repeat refine vc ?_); refine hK _ ?_; clear K hK) | refine TS.imp ?_))
    simp only [RetG, go_sem]; (repeat with_reducible refine vc ?_)
    simpa using hv
end
end Go.Proofs.YtgomeljgbjgbkaaGreatDoor.Aw
namespace Go.Proofs.YtgomeljgbjgbkaaGreatDoor.Aw
open Go.RowKit
set_option maxRecDepth 100000
/-! what frames that are as they should be have -/
structure FOk (n : Nd) (fs : List (List Int)) (w : Nat) : Prop where
  m0 : 1 ≤ fs.length ∧ fs.length ≤ 4096
  w0 : 1 ≤ w ∧ w ≤ 16
  f0 : (fr fs 0).length = w
  le : ∀ f ∈ fs, f.length ≤ 16
  num : ∀ f ∈ fs, ∀ x ∈ f, in32 x
  kok : n.k ≠ 8 → KOk n fs w
  join : n.k = 8 → fs.length ≤ 4
  post : 0 ≤ n.post ∧ n.post ≤ 3
  il : n.inn.length ≤ 4
  wl : n.ws.length ≤ 4096
  bl : n.bs.length ≤ 4096
theorem chkL7 {n : Nd} (h7 : n.k = 7) (v : Int) : ∀ (l : List Int) (s : Int), n.chkL v s l = 0 → ∀ x ∈ l, x = v
  | [], _, _, x, hx => by cases hx
  | y :: l, s, h, x, hx => by
    unfold Nd.chkL at h
    rw [h7] at h
    split at h
    · cases h
    · rename_i hc
      have hy : y = v := by simpa using hc
      rcases List.mem_cons.1 hx with rfl | hx
      · exact hy
      · exact chkL7 h7 v l _ h x hx
theorem ws_le {n : Nd} {v : Int} (hv : 1 ≤ v ∧ v ≤ 16) (he : n.else0 = true) (hs : n.sized v = true) : n.ws.length ≤ 4096 ∧ n.bs.length ≤ 4096 := by
  cases hw : rWeighs n.k with
  | false =>
    have e10 : n.e10 = false := by
      unfold Nd.else0 at he
      cases e : n.e10 with
      | false => rfl
      | true => rw [e] at he; simp at he
    unfold Nd.e10 at e10
    rw [hw] at e10
    simp at e10
    rw [e10.1, e10.2]; simp
  | true =>
    unfold Nd.sized at hs
    rw [if_pos hw] at hs
    have hc : n.k = 1 ∨ n.k = 2 ∨ n.k = 6 := by unfold rWeighs at hw; simpa [or_assoc] using hw
    have h4 : n.s4 = false := by
      cases e : n.s4 with
      | false => rfl
      | true => rw [e] at hs; simp at hs
    have h13 : n.s13 = false := by
      cases e : n.s13 with
      | false => rfl
      | true => rw [e] at hs; simp at hs
    have h21 : n.s21 v (if (n.k == 2) = true then v else n.wid) = false := by
      cases e : n.s21 v (if (n.k == 2) = true then v else n.wid) with
      | false => rfl
      | true => rw [e] at hs; simp at hs
    unfold Nd.s21 at h21
    simp only [Bool.or_eq_false_iff, bne_eq_false_iff_eq] at h21
    obtain ⟨⟨⟨hW, hB⟩, _⟩, _⟩ := h21
    have hsz : rFour n.k = true → 1 ≤ n.size ∧ n.size ≤ 8 := by
      intro e; unfold Nd.s4 at h4; rw [e] at h4
      simp at h4
      exact inB_iff.mp h4
    have hwd : (n.k = 1 ∨ n.k = 6) → 1 ≤ n.wid ∧ n.wid ≤ 16 := by
      intro e; unfold Nd.s13 at h13
      have : (n.k == 1 || n.k == 6) = true := by simpa using e
      rw [this] at h13; simp at h13
      exact inB_iff.mp h13
    unfold Nd.rWeights at hW
    rcases hc with hk | hk | hk
    · have s1 := hsz (by rw [hk]; rfl)
      have d1 := hwd (.inl hk)
      rw [hk] at hW hB
      simp at hW hB
      have m1 := mul_le n.wid 16 n.size 8 (by omega) d1.2 (by omega) s1.2
      have m2 := mul_le (n.wid * n.size) 128 v 16 m1.1 m1.2 (by omega) (by omega)
      rw [w64 (x := n.wid * n.size) (by omega) (by omega), w64 (by omega) (by omega)] at hW
      omega
    · have s1 := hsz (by rw [hk]; rfl)
      rw [hk] at hW hB
      simp at hW hB
      have m1 := mul_le v 16 n.size 8 (by omega) (by omega) (by omega) s1.2
      rw [w64 (by omega) (by omega)] at hW
      omega
    · have d1 := hwd (.inr hk)
      rw [hk] at hW hB
      simp at hW hB
      have m1 := mul_le n.wid 16 v 16 (by omega) d1.2 (by omega) (by omega)
      rw [w64 (by omega) (by omega)] at hW
      omega
theorem win_size {n : Nd} {v : Int} (hs : n.sized v = true) (hw : rWin n.k = true) : 1 ≤ n.size ∧ n.size ≤ 8 := by
  have h4 : n.s4 = false := by
    unfold Nd.sized at hs
    cases e : n.s4 with
    | false => rfl
    | true => rw [e] at hs; simp at hs
  unfold Nd.s4 at h4
  have : (rFour n.k || n.k == 12) = true := hw
  rw [this] at h4
  exact inB_iff.1 (show inB n.size 1 8 = true by simpa using h4)
theorem right_fok {n : Nd} {fs : List (List Int)} (hm : fs.length ≤ 4096) (h : rightV n fs = true) : FOk n fs (fr fs 0).length := by
  unfold rightV at h
  simp only [Bool.and_eq_true, Bool.not_eq_true', Bool.or_eq_false_iff, bne_eq_false_iff_eq, beq_eq_false_iff_ne] at h
  obtain ⟨⟨h0, h1, hk⟩, hall⟩ := h
  have hpos : 1 ≤ fs.length := by omega
  have hall := List.all_eq_true.1 hall
  have hf0m : fr fs 0 ∈ fs := fr_mem (by decide) (by omega)
  obtain ⟨c1, c7, c9, he, hs, hL⟩ := rchk_unpack hk
  have hin := chk1_all c1
  have hlen : (wdsV n fs).length = n.inn.length := by
    unfold Nd.chk1 at c1
    simp only [Bool.or_eq_false_iff, bne_eq_false_iff_eq] at c1
    omega
  have hnum : ∀ f ∈ fs, ∀ x ∈ f, in32 x := fun f hf x hx => by
    have := hall f hf
    unfold frOk at this
    simp only [Bool.and_eq_true] at this
    exact (fits32_iff x).1 (List.all_eq_true.1 this.2 x hx)
  have hpost : 0 ≤ n.post ∧ n.post ≤ 3 := by
    unfold Nd.r9 at c9
    simp only [Bool.or_eq_false_iff, decide_eq_false_iff_not] at c9
    omega
  cases hq : rMany n.k with
  | false =>
    have hwd : wdsV n fs = [((fr fs 0).length : Int)] := by unfold wdsV; rw [hq]; rfl
    rw [hwd] at hin hlen hs hL hk
    have hw0 := hin _ (List.mem_singleton.2 rfl)
    have hs : n.sized ((fr fs 0).length : Int) = true := hs
    have hfl : ∀ f ∈ fs, f.length = (fr fs 0).length := fun f hf => by
      have := hall f hf
      unfold frOk at this
      rw [hwd] at this
      simp [rd] at this
      have := this.1
      omega
    have hil : n.inn.length = 1 := by rw [← hlen]; rfl
    obtain ⟨hwl, hbl⟩ := ws_le hw0 he hs
    have k8 : n.k ≠ 8 := fun e => by rw [e] at hq; cases hq
    refine ⟨⟨hpos, hm⟩, by omega, rfl, fun f hf => by rw [hfl f hf]; omega, hnum, fun _ => ?_, fun e => absurd e k8, hpost, by omega, hwl, hbl⟩
    refine ⟨by omega, ⟨hpos, hm⟩, hfl, hnum, fun e => ?_, fun e => ?_, fun e1 e2 e3 => ?_, by rw [hil]; exact hk, by omega, hwl, hbl⟩
    · rw [h1]; unfold manyV; rw [e]; rfl
    · rw [hq] at e; cases e
    · have : (fs.length : Int) = 1 := by
        rw [h1]; unfold manyV
        rw [e1, hq, if_neg (by decide), if_neg (by simpa using e3), if_neg (by decide)]
      omega
  | true =>
    have hwd : wdsV n fs = fs.map (fun f => (f.length : Int)) := by unfold wdsV; rw [hq]; rfl
    have h24 := rMany_chk hk hq
    rw [hwd] at hin hlen hs hL hk h24
    simp only [List.length_map] at hlen h24
    have hle : ∀ f ∈ fs, 1 ≤ f.length ∧ f.length ≤ 16 := fun f hf => by
      have := hin _ (List.mem_map.2 ⟨f, hf, rfl⟩)
      omega
    have h0e : rd (fs.map (fun f => (f.length : Int))) 0 = (fr fs 0).length := by
      have hk0 : (0 : Int).toNat < fs.length := by simp; omega
      simp [rd, fr, List.getD]
      cases fs with
      | nil => simp at hpos
      | cons a b => rfl
    rw [h0e] at hs hL
    have hw0 := hle _ hf0m
    obtain ⟨hwl, hbl⟩ := ws_le (v := ((fr fs 0).length : Int)) (by omega) he hs
    refine ⟨⟨hpos, hm⟩, hw0, rfl, fun f hf => (hle f hf).2, hnum, fun k8 => ?_, fun _ => h24.2, hpost, by omega, hwl, hbl⟩
    have k7 : n.k = 7 := by
      unfold rMany at hq
      simp only [Bool.or_eq_true, beq_iff_eq] at hq
      omega
    have hsame : ∀ f ∈ fs, f.length = (fr fs 0).length := fun f hf => by
      have := chkL7 k7 _ _ _ hL _ (List.mem_map.2 ⟨f, hf, rfl⟩)
      omega
    have hrep : fs.map (fun f => (f.length : Int)) = List.replicate n.inn.length ((fr fs 0).length : Int) := by
      rw [← hlen, List.eq_replicate_iff]
      exact ⟨by simp, fun b hb => by obtain ⟨f, hf, rfl⟩ := List.mem_map.1 hb; rw [hsame f hf]⟩
    refine ⟨hw0, ⟨hpos, hm⟩, hsame, hnum, fun e => ?_, fun _ => hlen, fun _ e => ?_, by rw [← hrep]; exact hk, by omega, hwl, hbl⟩
    · rw [k7] at e; cases e
    · rw [hq] at e; cases e
end Go.Proofs.YtgomeljgbjgbkaaGreatDoor.Aw
namespace Go.Proofs.YtgomeljgbjgbkaaGreatDoor.Aw
open Go.RowKit
attribute [local go_sem_proc] Nat.reduceAdd Nat.reduceMul Nat.reduceSub Nat.reduceEqDiff Nat.reduceLeDiff Nat.reduceBEq Nat.reduceBNe Int.reduceToNat reduceIte reduceCtorEq
attribute [local go_sem] initT SQ so pe he ev lk constS stp stc gdS nth pickS pickD loadS cellsAt okAt fieldAddrS fieldS partS indexAddrS indexS extractS binS binD binI isShift unS convS lenS sliceS bndI bndC mmS mm2 mmD builtS fillS okCells cellsS splS solid aliveL alive okS boxS allocS makeS bsliceS elemsOf dcells stF frzW storeS frzA frzK oneS1 srcR rwsOf hdO appR frz frzT frzS frzL frzO frzH appS srcS appVC killS killT killC killH killO k1 k2 S.has S.hasL St.add St.upd dropH lh cond_or cond_and rw_intC rw_intC0 rw_set rw_app rw_apps rw_rep rw_slice wr64 cond_true cond_false true_and and_true List.map_cons List.map_nil List.length_cons List.length_nil List.drop_succ_cons List.drop_zero List.take_succ_cons List.take_zero List.nil_append List.cons_append List.getD_cons_zero List.getD_cons_succ List.headD_cons List.length_map ite_true ite_false if_true if_false Bool.false_eq_true and_self forall_const List.drop_nil List.take_nil List.append_nil Option.map_some Option.map_none List.mapM_cons List.mapM_nil Option.bind_eq_bind Option.bind_some Option.pure_def knows resL resV oneS freshS freshL cv cvL stpL stcL or_true true_or or_false false_or List.all_cons List.all_nil Bool.and_self Bool.or_self Bool.true_and Bool.and_true Bool.or_false Bool.false_or implies_true flatD allm_nil allm_cons List.getElem?_cons_zero List.getElem?_cons_succ Nd.cs Nd.ds ml mln Option.isSome_some Option.isSome_none eq_self Int.toNat_natCast AP ldOk isLd inL subL crt chg chgS chgP idxs aliveW Option.toList_some Option.toList_none Option.toList RetG Nd.win frzA offK keepH aliveK nkH closedH closedO keysK inH St.upd rowO List.contains_cons List.contains_nil Bool.or_self Option.isNone_none Option.isNone_some Bool.not_true Bool.not_false gcs rowN e0N frzC
attribute [local go_sem] sz2 ag2 ok2 kk2 iu2 zc2 zd2 by2 sz3 ag3 ok3 kk3 iu3 zc3 zd3 by3 sz4 ag4 ok4 bo4 zc4 zd4 by4 sz5 ag5 ok5 kk5 iu5 zc5 zd5 by5 sz9 ag9 ok9 st9 zc9 zd9 by9 sz12 ag12 ok12 kk12 iu12 zc12 zd12 by12 sz15 ag15 ok15 zc15 by15 sz16 ag16 ok16 zc16 by16 sz21 ag21 ok21 kk21 iu21 zc21 zd21 by21 sz22 ag22 ok22 sl22 zc22 zd22 by22 sz23 ag23 ok23 zc23 zd23 pl23 by23 fl23_0 fl23_1 fl23_2 sz24 ag24 ok24 zc24 zd24 pl24 by24 fl24_0 fl24_1 fl24_2 sz26 ag26 ok26 sl26 zc26 zd26 by26 sz27 ag27 ok27 zc27 zd27 pl27 by27 fl27_0 fl27_1 fl27_2 fl27_3 fl27_4 sz28 ag28 ok28 zc28 zd28 pl28 by28 fl28_0 fl28_1 fl28_2 fl28_3 fl28_4 sz29 ag29 ok29 sl29 zc29 zd29 by29 sz32 ag32 ok32 sl32 zc32 zd32 by32 sz33 ag33 ok33 kk33 iu33 zc33 zd33 by33 sz36 ag36 ok36 zc36 zd36 pl36 by36 fl36_0 fl36_1 sz37 ag37 ok37 zc37 zd37 pl37 by37 fl37_0 fl37_1 sz49 ag49 ok49 zc49 zd49 pl49 by49 fl49_0 fl49_1 fl49_2 fl49_3 fl49_4 fl49_5 fl49_6 fl49_7 fl49_8 fl49_9 fl49_10 fl49_11 fl49_12 fl49_13 fl49_14 sz50 ag50 ok50 zc50 zd50 pl50 by50 fl50_0 fl50_1 fl50_2 fl50_3 fl50_4 fl50_5 fl50_6 fl50_7 fl50_8 fl50_9 fl50_10 fl50_11 fl50_12 fl50_13 fl50_14 sz53 ag53 ok53 zc53 by53 sz55 ag55 ok55 zc55 zd55 pl55 by55 fl55_0 fl55_1 fl55_2 sz56 ag56 ok56 zc56 zd56 pl56 by56 fl56_0 fl56_1 fl56_2 sz58 ag58 ok58 zc58 zd58 pl58 by58 fl58_0 fl58_1 fl58_2 fl58_3 sz59 ag59 ok59 zc59 zd59 pl59 by59 fl59_0 fl59_1 fl59_2 fl59_3 sz66 ag66 ok66 zc66 zd66 pl66 by66 fl66_0 fl66_1 fl66_2 sz67 ag67 ok67 zc67 zd67 pl67 by67 fl67_0 fl67_1 fl67_2 sz79 ag79 ok79 zc79 by79 sz80 ag80 ok80 zc80 zd80 pl80 by80 fl80_0 fl80_1 sz81 ag81 ok81 zc81 zd81 pl81 by81 fl81_0 fl81_1 sz105 ag105 ok105 sl105 ar105 zc105 zd105 pl105 by105 sz108 ag108 ok108 sl108 ar108 zc108 zd108 pl108 by108 sz109 ag109 ok109 zc109 by109 sz115 ag115 ok115 zc115 zd115 pl115 by115 fl115_0 fl115_1 sz116 ag116 ok116 zc116 zd116 pl116 by116 fl116_0 fl116_1 sz120 ag120 ok120 zc120 zd120 pl120 by120 fl120_0 fl120_1 sz121 ag121 ok121 sl121 ar121 zc121 zd121 pl121 by121 sz124 ag124 ok124 kk124 iu124 zc124 zd124 by124 sz133 ag133 ok133 kk133 iu133 zc133 zd133 by133 sz137 ag137 ok137 zc137 by137
section
attribute [local go_sem] frD
theorem Frame_w {T : World → Prop} (Tk : KT T) (n : Nd) (fs : List (List Int)) (w : Nat) (h : FOk n fs w) (hR : rightV n fs = true) : Cg Go.Proofs.Tryz.prog T 35 [] [.agg n.cs, .d (frD fs)] (fun r H => H = [(2000, .row 3 [.i .i64 0] ((frameV n fs w).map intC))] ∧ r = .own 2000) := by
  have hm0 := h.m0
  have hw0 := h.w0
  have hf0 := h.f0
  have hRc := right_g Tk n fs (by omega) (Nat.le_trans h.wl (by decide)) (Nat.le_trans h.bl (by decide)) (Nat.le_trans h.il (by decide)) (fun f hf => Nat.le_trans (h.le f hf) (by decide))
  rw [hR] at hRc
  have hA : 1 ≤ fs.length ∧ fs.length ≤ 4096 := by omega
  refine Cg_of [2000] Tk.m Go.Proofs.Tryz.func35 rfl rfl Go.Proofs.Tryz.ntmps35 (by simp) rfl (rs := [.tmp 4]) rfl fun E hP hn hT hpn => ?_
  (repeat refine TS.imp ?_)
  refine TR.imp ?_; intro K hK; simp only [go_sem, hP, hn]; (repeat refine vc ?_); refine hK _ ?_; clear K hK
  (repeat refine TS.imp ?_)
  refine TR.imp ?_; intro K hK; simp only [go_sem, hP, hn]; (repeat refine vc ?_); refine c1 (by rw [hP, hT]; exact hRc.ct (bool_ct _)) rfl rfl rfl trivial (by simp only [go_sem, hP, hn]; try trivial) (by simp only [go_sem, hP, hn]; try rfl) (by rw [hn]; decide) (by rfl) ?_; simp only [go_sem, hP, hn]; (repeat refine vc ?_); refine hK _ ?_; clear K hK
  (repeat refine TS.imp ?_)
  refine Tr.cond rfl (fun h0 => ?_) (fun h0 => ?_)
  · cases h0
  clear h0
  refine Tr.le (Le.keep [1, 2]) ?_; simp only [List.map_cons, List.map_nil, lk, Nat.reduceEqDiff, reduceIte]
  refine Tr.le (Le.ren 2 1000 (by rw [hpn] <;> rfl) rfl rfl) ?_; simp only [renT, renH, renO, renS, renL, rn, go_sem, hP, hn]
  refine Tr.skip ?_
  refine n1 ?_
  refine Tr.seq ?_
  refine Tr.meet (fun s => (rWeighs n.k = false ∧ ¬ (n.k = 3 ∨ n.k = 5) ∧ ¬ (n.k = 4 ∨ n.k = 12) ∧ ¬ n.k = 7 ∧ ¬ n.k = 9 ∧ ¬ n.k = 10 ∧ ¬ n.k = 11) ∧ s = ⟨[(1, .d (frD fs))], []⟩) ?_ ?_
  rotate_left
  · (repeat refine TS.imp ?_)
    refine TR.imp ?_; intro K hK; simp only [go_sem, hP, hn]; (repeat refine vc ?_); refine hK _ ?_; clear K hK
    refine Tr.le (Le.keep [1, 2, 13]) ?_; simp only [List.map_cons, List.map_nil, lk, Nat.reduceEqDiff, reduceIte]
    refine Tr.block ?_
    refine Tr.seq ?_
    refine Tr.meet (fun s => s = ⟨[(1, .d (frD fs)), (2, .ptr 1000 0), (13, .d (.i .i64 n.k)), (14, .d (.b (rWeighs n.k)))], [(1000, .box 50 n.cs)]⟩) ?_ ?_
    rotate_left
    · (repeat refine TS.imp ?_)
      refine TR.imp ?_; intro K hK; simp only [go_sem, hP, hn]; (repeat refine vc ?_); refine hK _ ?_; clear K hK
      (repeat refine TS.imp ?_)
      refine Tr.cond rfl (fun h1 => ?_) (fun h1 => ?_)
      · rw [h1, show rWeighs n.k = true by unfold rWeighs; rw [h1]; rfl]
        (repeat refine TS.imp ?_)
        exact ⟨_, (Le.mv (by simp only [go_sem, hP, hn]; first | done | (simp; done) | (simp [intC]; done) | (repeat (first | rfl | constructor))) (by simp only [go_sem, hP, hn]; first | done | (simp; done) | (simp [intC]; done) | (repeat (first | rfl | constructor)))), rfl⟩
      (repeat refine TS.imp ?_)
      refine TR.imp ?_; intro K hK; simp only [go_sem, hP, hn]; (repeat refine vc ?_); refine hK _ ?_; clear K hK
      (repeat refine TS.imp ?_)
      refine Tr.cond rfl (fun h2 => ?_) (fun h2 => ?_)
      · rw [h2, show rWeighs n.k = true by unfold rWeighs; rw [h2, Bool.or_true]; rfl]
        (repeat refine TS.imp ?_)
        exact ⟨_, (Le.mv (by simp only [go_sem, hP, hn]; first | done | (simp; done) | (simp [intC]; done) | (repeat (first | rfl | constructor))) (by simp only [go_sem, hP, hn]; first | done | (simp; done) | (simp [intC]; done) | (repeat (first | rfl | constructor)))), rfl⟩
      (repeat refine TS.imp ?_)
      refine TR.imp ?_; intro K hK; simp only [go_sem, hP, hn]; (repeat refine vc ?_); refine hK _ ?_; clear K hK
      (repeat refine TS.imp ?_)
      rw [show rWeighs n.k = (n.k == 6) by unfold rWeighs; rw [h1, h2]; rfl]
      exact ⟨_, (Le.mv (by simp only [go_sem, hP, hn]; first | done | (simp; done) | (simp [intC]; done) | (repeat (first | rfl | constructor))) (by simp only [go_sem, hP, hn]; first | done | (simp; done) | (simp [intC]; done) | (repeat (first | rfl | constructor)))), rfl⟩
    rintro s rfl
    (repeat refine TS.imp ?_)
    refine Tr.cond rfl (fun hw => ?_) (fun hw => ?_)
    · (repeat refine TS.imp ?_)
      refine TR.imp ?_; intro K hK; simp only [go_sem, hP, hn]
      (repeat refine vc ?_)
      refine CallN_cx (Hi := []) (by rw [hP, hT]; exact weighed_c Tk.m n fs w ((h.kok (by unfold rWeighs at hw; simp only [Bool.or_eq_true, beq_iff_eq] at hw; omega)).wok hw) ) rfl rfl rfl trivial (by simp only [go_sem, hP, hn]; try trivial) (by simp only [go_sem, hP, hn]; try rfl) trivial (by rw [hn]; decide) (fun r Ho hr => ?_); obtain  ⟨rfl, rfl⟩ := hr; refine ⟨fun k _ => hpn k rfl, ?_⟩; simp only [cgS, newK, touK, go_sem, hP, hn]; (repeat refine vc ?_)
      refine hK _ ?_; clear K hK
      (repeat (first | (refine TR.imp ?_; intro K hK; simp only [go_sem, hP, hn]; (repeat refine vc ?_); refine hK _ ?_; clear K hK) | refine TS.imp ?_))
      simp only [RetG, go_sem]; (repeat with_reducible refine vc ?_)
      unfold frameV
      rw [if_pos hw]
    refine Tr.seq ?_
    refine Tr.meet (fun s => s = ⟨[(1, .d (frD fs)), (2, .ptr 1000 0), (13, .d (.i .i64 n.k)), (21, .d (.b (n.k == 3 || n.k == 5)))], [(1000, .box 50 n.cs)]⟩) ?_ ?_
    rotate_left
    · (repeat refine TS.imp ?_)
      refine TR.imp ?_; intro K hK; simp only [go_sem, hP, hn]; (repeat refine vc ?_); refine hK _ ?_; clear K hK
      (repeat refine TS.imp ?_)
      refine Tr.cond rfl (fun h1 => ?_) (fun h1 => ?_)
      · rw [h1, Bool.true_or]
        (repeat refine TS.imp ?_)
        exact ⟨_, (Le.mv (by simp only [go_sem, hP, hn]; first | done | (simp; done) | (simp [intC]; done) | (repeat (first | rfl | constructor))) (by simp only [go_sem, hP, hn]; first | done | (simp; done) | (simp [intC]; done) | (repeat (first | rfl | constructor)))), rfl⟩
      (repeat refine TS.imp ?_)
      refine TR.imp ?_; intro K hK; simp only [go_sem, hP, hn]; (repeat refine vc ?_); refine hK _ ?_; clear K hK
      (repeat refine TS.imp ?_)
      rw [h1, Bool.false_or]
      exact ⟨_, (Le.mv (by simp only [go_sem, hP, hn]; first | done | (simp; done) | (simp [intC]; done) | (repeat (first | rfl | constructor))) (by simp only [go_sem, hP, hn]; first | done | (simp; done) | (simp [intC]; done) | (repeat (first | rfl | constructor)))), rfl⟩
    rintro s rfl
    (repeat refine TS.imp ?_)
    refine Tr.cond rfl (fun h3 => ?_) (fun h3 => ?_)
    · have hkk := h.kok (by simp only [Bool.or_eq_true, beq_iff_eq] at h3; omega)
      (repeat refine TS.imp ?_)
      refine TR.imp ?_; intro K hK; simp only [go_sem, hP, hn]
      (repeat refine vc ?_)
      refine CallN_cx (Hi := []) (by rw [hP, hT]; exact eachA_c Tk.m fs w (fun xs => rd xs (mostV xs)) 66 hA (by omega) hkk.len (fun k k0 k1 => F1_c Tk.m (col fs k) (by rw [col_len]; omega) (by rw [col_len]; omega)) ) rfl rfl rfl trivial (by simp only [go_sem, hP, hn]; try trivial) (by simp only [go_sem, hP, hn]; try rfl) trivial (by rw [hn]; decide) (fun r Ho hr => ?_); obtain  ⟨rfl, rfl⟩ := hr; refine ⟨fun k _ => hpn k rfl, ?_⟩; simp only [cgS, newK, touK, go_sem, hP, hn]; (repeat refine vc ?_)
      refine hK _ ?_; clear K hK
      (repeat (first | (refine TR.imp ?_; intro K hK; simp only [go_sem, hP, hn]; (repeat refine vc ?_); refine hK _ ?_; clear K hK) | refine TS.imp ?_))
      simp only [RetG, go_sem]; (repeat with_reducible refine vc ?_)
      unfold frameV
      rw [if_neg (by rw [hw]; decide), if_pos (by simpa using h3)]
    refine Tr.seq ?_
    refine Tr.meet (fun s => s = ⟨[(1, .d (frD fs)), (2, .ptr 1000 0), (13, .d (.i .i64 n.k)), (26, .d (.b (n.k == 4 || n.k == 12)))], [(1000, .box 50 n.cs)]⟩) ?_ ?_
    rotate_left
    · (repeat refine TS.imp ?_)
      refine TR.imp ?_; intro K hK; simp only [go_sem, hP, hn]; (repeat refine vc ?_); refine hK _ ?_; clear K hK
      (repeat refine TS.imp ?_)
      refine Tr.cond rfl (fun h1 => ?_) (fun h1 => ?_)
      · rw [h1, Bool.true_or]
        (repeat refine TS.imp ?_)
        exact ⟨_, (Le.mv (by simp only [go_sem, hP, hn]; first | done | (simp; done) | (simp [intC]; done) | (repeat (first | rfl | constructor))) (by simp only [go_sem, hP, hn]; first | done | (simp; done) | (simp [intC]; done) | (repeat (first | rfl | constructor)))), rfl⟩
      (repeat refine TS.imp ?_)
      refine TR.imp ?_; intro K hK; simp only [go_sem, hP, hn]; (repeat refine vc ?_); refine hK _ ?_; clear K hK
      (repeat refine TS.imp ?_)
      rw [h1, Bool.false_or]
      exact ⟨_, (Le.mv (by simp only [go_sem, hP, hn]; first | done | (simp; done) | (simp [intC]; done) | (repeat (first | rfl | constructor))) (by simp only [go_sem, hP, hn]; first | done | (simp; done) | (simp [intC]; done) | (repeat (first | rfl | constructor)))), rfl⟩
    rintro s rfl
    (repeat refine TS.imp ?_)
    have h3' : ¬ (n.k = 3 ∨ n.k = 5) := by simpa using h3
    clear h3
    have hw' : ¬ rWeighs n.k = true := by rw [hw]; decide
    refine Tr.cond rfl (fun h4 => ?_) (fun h4 => ?_)
    · have hkk := h.kok (by simp only [Bool.or_eq_true, beq_iff_eq] at h4; omega)
      (repeat refine TS.imp ?_)
      refine TR.imp ?_; intro K hK; simp only [go_sem, hP, hn]
      (repeat refine vc ?_)
      refine CallN_cx (Hi := []) (by rw [hP, hT]; exact eachA_c Tk.m fs w meanV 68 hA (by omega) hkk.len (fun k k0 k1 => F2_c Tk.m (col fs k) (by rw [col_len]; omega) (by rw [col_len]; omega) (hkk.col k0 k1)) ) rfl rfl rfl trivial (by simp only [go_sem, hP, hn]; try trivial) (by simp only [go_sem, hP, hn]; try rfl) trivial (by rw [hn]; decide) (fun r Ho hr => ?_); obtain  ⟨rfl, rfl⟩ := hr; refine ⟨fun k _ => hpn k rfl, ?_⟩; simp only [cgS, newK, touK, go_sem, hP, hn]; (repeat refine vc ?_)
      refine hK _ ?_; clear K hK
      (repeat (first | (refine TR.imp ?_; intro K hK; simp only [go_sem, hP, hn]; (repeat refine vc ?_); refine hK _ ?_; clear K hK) | refine TS.imp ?_))
      simp only [RetG, go_sem]; (repeat with_reducible refine vc ?_)
      unfold frameV
      rw [if_neg hw', if_neg h3', if_pos (by simpa using h4)]
    have h4' : ¬ (n.k = 4 ∨ n.k = 12) := by simpa using h4
    clear h4
    (repeat refine TS.imp ?_)
    refine TR.imp ?_; intro K hK; simp only [go_sem, hP, hn]; (repeat refine vc ?_); refine hK _ ?_; clear K hK
    (repeat refine TS.imp ?_)
    refine Tr.cond rfl (fun h7 => ?_) (fun h7 => ?_)
    · have hkk := h.kok (by simp only [Bool.or_eq_true, beq_iff_eq] at h7; omega)
      (repeat refine TS.imp ?_)
      refine TR.imp ?_; intro K hK; simp only [go_sem, hP, hn]
      (repeat refine vc ?_)
      refine CallN_cx (Hi := []) (by rw [hP, hT]; exact eachA_c Tk.m fs w addV 70 hA (by omega) hkk.len (fun k k0 k1 => F3_c Tk.m (col fs k) (by rw [col_len]; omega) (hkk.col k0 k1)) ) rfl rfl rfl trivial (by simp only [go_sem, hP, hn]; try trivial) (by simp only [go_sem, hP, hn]; try rfl) trivial (by rw [hn]; decide) (fun r Ho hr => ?_); obtain  ⟨rfl, rfl⟩ := hr; refine ⟨fun k _ => hpn k rfl, ?_⟩; simp only [cgS, newK, touK, go_sem, hP, hn]; (repeat refine vc ?_)
      refine hK _ ?_; clear K hK
      (repeat (first | (refine TR.imp ?_; intro K hK; simp only [go_sem, hP, hn]; (repeat refine vc ?_); refine hK _ ?_; clear K hK) | refine TS.imp ?_))
      simp only [RetG, go_sem]; (repeat with_reducible refine vc ?_)
      unfold frameV
      rw [if_neg hw', if_neg h3', if_neg h4', if_pos (by simpa using h7)]
    have h7' : ¬ n.k = 7 := by simpa using h7
    clear h7
    (repeat refine TS.imp ?_)
    refine TR.imp ?_; intro K hK; simp only [go_sem, hP, hn]; (repeat refine vc ?_); refine hK _ ?_; clear K hK
    (repeat refine TS.imp ?_)
    refine Tr.cond rfl (fun h9 => ?_) (fun h9 => ?_)
    · have hkk := h.kok (by simp only [Bool.or_eq_true, beq_iff_eq] at h9; omega)
      (repeat refine TS.imp ?_)
      refine TR.imp ?_; intro K hK; simp only [go_sem, hP, hn]
      (repeat refine vc ?_)
      refine CallN_cx (Hi := [(1000, .box 50 n.cs)] ) (by rw [hP, hT]; exact  eachB_c Tk.m fs w (fun xs => clampV (rd xs 0) n.low n.high) n 72 hA (by omega) hkk.len (fun k k0 k1 => F4_c Tk.m n (col fs k) (by rw [col_len]; omega)) ) rfl rfl rfl trivial (by simp only [go_sem, hP, hn]; try trivial) (by simp only [go_sem, hP, hn]; try rfl) (by simp only [inH, go_sem, hP, hn]; try simp) (by rw [hn]; decide) (fun r Ho hr => ?_); obtain  ⟨rfl, rfl⟩ := hr; refine ⟨fun k _ => hpn k rfl, ?_⟩; simp only [cgS, newK, touK, go_sem, hP, hn]; (repeat refine vc ?_)
      refine hK _ ?_; clear K hK
      (repeat (first | (refine TR.imp ?_; intro K hK; simp only [go_sem, hP, hn]; (repeat refine vc ?_); refine hK _ ?_; clear K hK) | refine TS.imp ?_))
      simp only [RetG, go_sem]; (repeat with_reducible refine vc ?_)
      unfold frameV
      rw [if_neg hw', if_neg h3', if_neg h4', if_neg h7', if_pos (by simpa using h9)]
    have h9' : ¬ n.k = 9 := by simpa using h9
    clear h9
    (repeat refine TS.imp ?_)
    refine TR.imp ?_; intro K hK; simp only [go_sem, hP, hn]; (repeat refine vc ?_); refine hK _ ?_; clear K hK
    (repeat refine TS.imp ?_)
    refine Tr.cond rfl (fun hx => ?_) (fun hx => ?_)
    · have hkk := h.kok (by simp only [Bool.or_eq_true, beq_iff_eq] at hx; omega)
      (repeat refine TS.imp ?_)
      refine TR.imp ?_; intro K hK; simp only [go_sem, hP, hn]
      (repeat refine vc ?_)
      refine CallN_cx (Hi := [(1000, .box 50 n.cs)] ) (by rw [hP, hT]; exact  eachB_c Tk.m fs w (fun xs => scaleV (rd xs 0) n.mult n.shift) n 74 hA (by omega) hkk.len (fun k k0 k1 => F5_c Tk.m n (col fs k) (by rw [col_len]; omega) (hkk.col k0 k1 _ (rd_mem (by decide) (by rw [col_len]; omega)))) ) rfl rfl rfl trivial (by simp only [go_sem, hP, hn]; try trivial) (by simp only [go_sem, hP, hn]; try rfl) (by simp only [inH, go_sem, hP, hn]; try simp) (by rw [hn]; decide) (fun r Ho hr => ?_); obtain  ⟨rfl, rfl⟩ := hr; refine ⟨fun k _ => hpn k rfl, ?_⟩; simp only [cgS, newK, touK, go_sem, hP, hn]; (repeat refine vc ?_)
      refine hK _ ?_; clear K hK
      (repeat (first | (refine TR.imp ?_; intro K hK; simp only [go_sem, hP, hn]; (repeat refine vc ?_); refine hK _ ?_; clear K hK) | refine TS.imp ?_))
      simp only [RetG, go_sem]; (repeat with_reducible refine vc ?_)
      unfold frameV
      rw [if_neg hw', if_neg h3', if_neg h4', if_neg h7', if_neg h9', if_pos (by simpa using hx)]
    have hx' : ¬ n.k = 10 := by simpa using hx
    clear hx
    (repeat refine TS.imp ?_)
    refine TR.imp ?_; intro K hK; simp only [go_sem, hP, hn]; (repeat refine vc ?_); refine hK _ ?_; clear K hK
    (repeat refine TS.imp ?_)
    refine Tr.cond rfl (fun hb => ?_) (fun hb => ?_)
    · (repeat refine TS.imp ?_)
      refine TR.imp ?_; intro K hK; simp only [go_sem, hP, hn]
      rw [show (fs.map frE).getD 0 [.nil] = [.row [.i .i64 0] ((fr fs 0).map intC)] from rw_fr fs 0 (by omega) (by omega)]
      simp only [go_sem, hP, hn]
      (repeat refine vc ?_)
      refine c1 (by rw [hP, hT]; exact most_c Tk.m (fr fs 0) (by omega) (by omega)) rfl rfl rfl trivial (by simp only [go_sem, hP, hn]; try trivial) (by simp only [go_sem, hP, hn]; try rfl) (by rw [hn]; decide) (by rfl) ?_; simp only [go_sem, hP, hn]; (repeat refine vc ?_)
      (repeat refine vc ?_)
      refine hK _ ?_; clear K hK
      refine Tr.le (Le.keep [4]) ?_; simp only [List.map_cons, List.map_nil, lk, Nat.reduceEqDiff, reduceIte]
      refine Tr.le (Le.ren 51 2000 (by rw [hpn] <;> rfl) rfl rfl) ?_; simp only [renT, renH, renO, renS, renL, rn, go_sem, hP, hn]
      (repeat (first | (refine TR.imp ?_; intro K hK; simp only [go_sem, hP, hn]; (repeat refine vc ?_); refine hK _ ?_; clear K hK) | refine TS.imp ?_))
      simp only [RetG, go_sem]; (repeat with_reducible refine vc ?_)
      unfold frameV
      rw [if_neg hw', if_neg h3', if_neg h4', if_neg h7', if_neg h9', if_neg hx', if_pos (by simpa using hb)]
      rfl
    have hb' : ¬ n.k = 11 := by simpa using hb
    (repeat refine TS.imp ?_)
    exact ⟨_, (Le.mv (by simp only [go_sem, hP, hn]; first | done | (simp; done) | (simp [intC]; done) | (repeat (first | rfl | constructor))) (by simp only [go_sem, hP, hn]; first | done | (simp; done) | (simp [intC]; done) | (repeat (first | rfl | constructor)))), ⟨by simpa using hw, h3', h4', h7', h9', hx', hb'⟩, rfl⟩
  rintro s ⟨⟨hw, h3', h4', h7', h9', hx', hb'⟩, rfl⟩
  have hFv : frameV n fs w = fs.flatten := by
    unfold frameV
    rw [if_neg (by rw [hw]; decide), if_neg h3', if_neg h4', if_neg h7', if_neg h9', if_neg hx', if_neg hb']
  rw [hFv]
  (repeat refine TS.imp ?_)
  refine TR.imp ?_; intro K hK; simp only [go_sem, hP, hn]; (repeat refine vc ?_); refine hK _ ?_; clear K hK
  refine Tr.le (Le.nilslot 3001 5 3 [.i .i64 0] rfl (by rw [hpn] <;> rfl) rfl rfl) ?_
  (repeat refine TS.imp ?_)
  refine TR.imp ?_; intro K hK; simp only [go_sem, hP, hn]; (repeat refine vc ?_); refine hK _ ?_; clear K hK
  (repeat refine TS.imp ?_)
  refine Tr.le (Le.keep [5, 52, 53, 54]) ?_; simp only [List.map_cons, List.map_nil, lk, Nat.reduceEqDiff, reduceIte]
  refine Tr.loop (fun q s => ∃ (i : Int) (L : List Int), s = ⟨[(5, .own 3001), (52, .d (frD fs)), (53, .d (.i .i64 fs.length)), (54, .d (.i .i64 i))], [(3001, .row 3 [.i .i64 0] (L.map intC))]⟩ ∧ 0 ≤ i ∧ i + q = fs.length ∧ L = (fs.take i.toNat).flatten ∧ L.length ≤ i.toNat * 16) fs.length ⟨_, (Le.mv (by simp only [go_sem, hP, hn]; first | done | (simp; done) | (simp [intC]; done) | (repeat (first | rfl | constructor))) (by simp only [go_sem, hP, hn]; first | done | (simp; done) | (simp [intC]; done) | (repeat (first | rfl | constructor)))), 0, [], rfl, by omega, by omega, rfl, by simp⟩ ?_
  rintro q s ⟨i, L, rfl, i0, iq, hL, hLl⟩
  (repeat refine TS.imp ?_)
  refine TR.imp ?_; intro K hK; simp only [go_sem, hP, hn]; (repeat refine vc ?_); refine hK _ ?_; clear K hK
  (repeat refine TS.imp ?_)
  refine Tr.cond rfl (fun hb => ?_) (fun hb => ?_)
  · have hi : i < fs.length := by simpa using hb
    have hfl := h.le _ (fr_mem i0 hi)
    clear hb
    (repeat refine TS.imp ?_)
    refine TR.imp ?_; intro K hK; simp only [go_sem, hP, hn]
    rw [rw_fr fs i i0 hi]
    simp only [go_sem, hP, hn]
    (repeat refine vc ?_)
    refine hK _ ?_; clear K hK
    (repeat refine TS.imp ?_)
    refine TR.imp ?_; intro K hK; simp only [go_sem, hP, hn]; (repeat refine vc ?_); refine hK _ ?_; clear K hK
    (repeat refine TS.imp ?_)
    refine TR.imp ?_; intro K hK; simp only [go_sem, hP, hn]; (repeat refine vc ?_); refine hK _ ?_; clear K hK
    (repeat refine TS.imp ?_)
    rw [w64 (x := i + 1) (by omega) (by omega)]
    refine ⟨q - 1, _, by omega, ?_, i + 1, L ++ fr fs i, rfl, by omega, by omega, ?_, by rw [List.length_append]; omega⟩
    · refine Le.trans (b := ⟨[(5, .own 60), (52, .d (frD fs)), (53, .d (.i .i64 fs.length)), (54, .d (.i .i64 (i + 1)))], [(60, .row 3 [.i .i64 0] ((L ++ fr fs i).map intC))]⟩) (Le.mv (by simp only [go_sem, hP, hn]; first | done | (simp; done) | (simp [intC]; done) | (repeat (first | rfl | constructor))) (by simp only [go_sem, hP, hn]; first | done | (simp; done) | (simp [intC]; done) | (repeat (first | rfl | constructor)))) ?_
      refine Le.trans (Le.ren 60 3001 (by rw [hpn] <;> rfl) rfl rfl) ?_; simp only [renT, renH, renO, renS, renL, rn, go_sem, hP, hn]
      exact (Le.mv (by simp only [go_sem, hP, hn]; first | done | (simp; done) | (simp [intC]; done) | (repeat (first | rfl | constructor))) (by simp only [go_sem, hP, hn]; first | done | (simp; done) | (simp [intC]; done) | (repeat (first | rfl | constructor))))
    · have hk : i.toNat < fs.length := by omega
      rw [hL, show (i + 1).toNat = i.toNat + 1 by omega, List.take_succ_eq_append_getElem hk, List.flatten_append]
      unfold fr
      rw [List.getD_eq_getElem?_getD, List.getElem?_eq_getElem hk]
      simp
  · have hi : i = fs.length := by have := of_decide_eq_false hb; omega
    subst hi
    rw [Int.toNat_natCast, List.take_of_length_le (Nat.le_refl _)] at hL
    subst hL
    refine Tr.le (Le.keep [5]) ?_; simp only [List.map_cons, List.map_nil, lk, Nat.reduceEqDiff, reduceIte]
    refine Tr.le (Le.ren 3001 2000 (by rw [hpn] <;> rfl) rfl rfl) ?_; simp only [renT, renH, renO, renS, renL, rn, go_sem, hP, hn]
    (repeat (first | (refine TR.imp ?_; intro K hK; simp only [go_sem, hP, hn]; (repeat refine vc ?_); refine hK _ ?_; clear K hK) | refine TS.imp ?_))
    simp only [RetG, go_sem]; (repeat with_reducible refine vc ?_)
end
section
attribute [local go_sem] frD insD rwS_len killC_rwS killC_set frzL_rwS frzL_set renL_rwS renL_set hasL_rwS hasL_set rwS_set List.set_set Bool.and_false Bool.not_false rcs OBR
/-- a run between nodes -/
def OBS (wd lo hi out : Int) (ns : List Nd) (W : List Int) (ds : List D) : Hp := [(1001, .rows 29 (rwS ds))]
attribute [local go_sem] OBS
theorem node_c {T : World → Prop} (Tk : KT T) (wd lo hi out : Int) (ns : List Nd) (W : List Int) (ds : List D) (k : Int) (n : Nd) (u : Int → List (List Int)) (w C : Nat) (outF : Int → List Int) (hns : ns.length ≤ 4000) (hk : 1 ≤ k ∧ k ≤ ns.length ∧ k < ds.length) (hnd : nd ns (k - 1) = n) (hnil : ds[k.toNat]? = some .nil) (hdl : ds.length ≤ 4001) (hil : 1 ≤ n.inn.length ∧ n.inn.length ≤ 4096)
    (hj : ∀ j ∈ n.inn, 0 ≤ j ∧ j < ds.length ∧ j.toNat ≠ k.toNat ∧ ds.getD j.toNat .nil = frD (u j) ∧ (u j).length ≤ 65536) (hw0 : rd n.inn 0 < W.length) (hw1 : rd W (rd n.inn 0) = w) (hw2 : w ≤ 65536) (hgap : rWin n.k = true → mx n.gap 1 = gapV n) (hsz : rWin n.k = true → 0 ≤ n.size ∧ n.size ≤ 4096)
    (hC : n.count ((n.inn.map u).map fun s => (s.length : Int)) = C) (hC1 : C ≤ 65536) (hst : n.has 17 = true → 1 ≤ n.stp) (hix : rWin n.k = false → n.k ≠ 5 → ∀ j ∈ n.inn, C ≤ (u j).length)
    (hF : ∀ i : Int, 0 ≤ i → i < C → Cg Go.Proofs.Tryz.prog T 35 [] [.agg n.cs, .d (frD (inpF n (n.inn.map u) w i))] (fun r H => H = [] ∧ r = .d (.row [.i .i64 0] ((outF i).map intC)))) :
    Cg Go.Proofs.Tryz.prog T 24 (OBS wd lo hi out ns W ds) [.fps (rcs wd lo hi out ns W 1001), .d (.i .i64 k)] (fun r H => H = OBS wd lo hi out ns W (ds.set k.toNat (frD ((List.range C).map fun i => outF (i : Nat)))) ∧ r = .tup []) := by
  have hget : ∀ j ∈ n.inn, (rwS ds).getD j.toNat .any = .d (frD (u j)) := fun j hm => by
    obtain ⟨a, b, c, d, _⟩ := hj j hm
    rw [rwS_getD (by omega), d]
  have hndr := rw_nd ns (k - 1) (by omega) (by omega)
  rw [hnd] at hndr
  have w2 : wrap64 (k - 1) = k - 1 := w64 (by omega) (by omega)
  have q1 : 0 ≤ k - 1 := by omega
  have q2 : k - 1 < ns.length := by omega
  refine Cg_of [1001] Tk.m Go.Proofs.Tryz.func24 rfl rfl Go.Proofs.Tryz.ntmps24 (by simp) rfl (rs := []) rfl fun E hP hn hT hpn => ?_
  (repeat refine TS.imp ?_)
  refine TR.imp ?_; intro K hK; simp only [w2, hndr, go_sem, hP, hn]
  simp only [q1, q2, and_self, true_and, List.length_map]
  (repeat (refine ⟨by first | trivial | omega, ?_⟩))
  refine hK _ ?_; clear K hK
  refine Tr.le (Le.keep [0, 1, 4]) ?_; simp only [List.map_cons, List.map_nil, lk, Nat.reduceEqDiff, reduceIte]
  (repeat refine TS.imp ?_)
  refine TR.imp ?_; intro K hK; simp only [go_sem, hP, hn]; (repeat refine vc ?_); refine hK _ ?_; clear K hK
  (repeat refine TS.imp ?_)
  refine TR.imp ?_; intro K hK; simp only [go_sem, hP, hn]; (repeat refine vc ?_); refine hK _ ?_; clear K hK
  (repeat refine TS.imp ?_)
  refine Tr.loop (fun q s => ∃ (m : Int) (cs : List Int), s = ⟨[(0, .fps (rcs wd lo hi out ns W 1001)), (1, .d (.i .i64 k)), (4, .ptr 4 0), (5, .own 21), (23, .d (.row [.i .i64 0] (n.inn.map intC))), (24, .d (.i .i64 n.inn.length)), (25, .d (.i .i64 m))], [(4, .box 50 n.cs), (1001, .rows 29 (rwS ds)), (21, .row 3 [.i .i64 0] (cs.map intC))]⟩ ∧ 0 ≤ m ∧ m + q = n.inn.length ∧ cs.length = n.inn.length ∧ cs.take m.toNat = (n.inn.take m.toNat).map fun j => ((u j).length : Int)) n.inn.length ⟨_, ?_, 0, List.replicate n.inn.length 0, rfl, by omega, by omega, by simp, rfl⟩ ?_
  · exact (Le.mv (by simp only [go_sem, hP, hn]; first | done | (simp; done) | (simp [intC]; done) | (repeat (first | rfl | constructor))) (by simp only [go_sem, hP, hn]; first | done | (simp; done) | (simp [intC]; done) | (repeat (first | rfl | constructor))))
  rintro q s ⟨m, cs, rfl, m0, mq, hcl, hct⟩
  (repeat refine TS.imp ?_)
  refine TR.imp ?_; intro K hK; simp only [go_sem, hP, hn]; (repeat refine vc ?_); refine hK _ ?_; clear K hK
  (repeat refine TS.imp ?_)
  refine Tr.cond rfl (fun hb => ?_) (fun hb => ?_)
  · have hm1 : m < n.inn.length := of_decide_eq_true hb
    clear hb
    have hjm := rd_mem m0 hm1
    have hjr := hj _ hjm
    have hgj := hget _ hjm
    have w1 : wrap64 (m + 1) = m + 1 := w64 (by omega) (by omega)
    have y1 : 0 ≤ rd n.inn m ∧ rd n.inn m < ds.length := ⟨hjr.1, hjr.2.1⟩
    have y2 : (rd n.inn m).toNat < ds.length := by omega
    have y3 : m < cs.length := by omega
    have y4 : m.toNat < cs.length := by omega
    have htk := take_rd m0 hm1
    (repeat refine TS.imp ?_)
    refine TR.imp ?_; intro K hK; simp only [go_sem, hP, hn]; (repeat refine vc ?_); refine hK _ ?_; clear K hK
    (repeat refine TS.imp ?_)
    generalize rd n.inn m = j at *
    refine TR.imp ?_; intro K hK; simp only [hgj, go_sem, hP, hn]
    (repeat refine vc ?_)
    refine hK _ ?_; clear K hK
    (repeat refine TS.imp ?_)
    refine TR.imp ?_; intro K hK; simp only [w1, go_sem, hP, hn]; (repeat refine vc ?_); refine hK _ ?_; clear K hK
    (repeat refine TS.imp ?_)
    refine ⟨q - 1, _, by omega, ?_, m + 1, cs.set m.toNat ((u j).length : Int), rfl, by omega, by omega, by simp [hcl], ?_⟩
    · exact (Le.mv (by simp only [go_sem, hP, hn]; first | done | (simp; done) | (simp [intC]; done) | (repeat (first | rfl | constructor))) (by simp only [go_sem, hP, hn]; first | done | (simp; done) | (simp [intC]; done) | (repeat (first | rfl | constructor))))
    · rw [htk, show (m + 1).toNat = m.toNat + 1 by omega, take_setG y4, hct, List.map_append]; rfl
  have hm1 : m = n.inn.length := by have := of_decide_eq_false hb; omega
  subst hm1
  rw [Int.toNat_natCast, List.take_of_length_le (by omega), List.take_length] at hct
  have hct : cs = (n.inn.map u).map fun s => (s.length : Int) := by rw [hct, List.map_map]; rfl
  subst hct
  clear hb
  have hcl0 : ((n.inn.map u).map fun s => (s.length : Int)).length ≤ 65536 := by simp; omega
  (repeat refine TS.imp ?_)
  refine TR.imp ?_; intro K hK; simp only [go_sem, hP, hn]; (repeat refine vc ?_); refine c1 (by rw [hP, hT]; exact kCount_k Tk n ((n.inn.map u).map fun s => (s.length : Int)) hcl0 hst) rfl rfl rfl trivial (by simp only [go_sem, hP, hn]; try trivial) (by simp only [go_sem, hP, hn]; try rfl) (by rw [hn]; decide) (by rfl) ?_; simp only [go_sem, hP, hn]; (repeat refine vc ?_); refine hK _ ?_; clear K hK
  rw [hC]
  refine Tr.le (Le.keep [0, 1, 4, 44, 45]) ?_; simp only [List.map_cons, List.map_nil, lk, Nat.reduceEqDiff, reduceIte]
  refine Tr.le (Le.nilrows 1002 1001 k.toNat 22 [.nil] rfl (by unfold rwS; rw [List.getElem?_map, hnil]; rfl) (by rw [hpn] <;> rfl) rfl (by simp [freeH, closedO, hasL_set, hasL_rwS, k1, S.hasL, S.has, go_sem])) ?_
  simp only [go_sem, hP, hn]
  (repeat refine TS.imp ?_)
  refine Tr.loop (fun q s => ∃ i : Int, s = ⟨[(0, .fps (rcs wd lo hi out ns W 1001)), (1, .d (.i .i64 k)), (4, .ptr 4 0), (44, .d (.i .i64 C)), (45, .d (.i .i64 i))], [(4, .box 50 n.cs), (1001, .rows 29 ((rwS ds).set k.toNat (.own 1002))), (1002, .row 22 [.nil] (((List.range i.toNat).map fun t => outF (t : Nat)).map frE))]⟩ ∧ 0 ≤ i ∧ i + q = C) C ⟨_, ?_, 0, rfl, by omega, by omega⟩ ?_
  · exact (Le.mv (by simp only [go_sem, hP, hn]; first | done | (simp; done) | (simp [intC]; done) | (repeat (first | rfl | constructor))) (by simp only [go_sem, hP, hn]; first | done | (simp; done) | (simp [intC]; done) | (repeat (first | rfl | constructor))))
  rintro q s ⟨i, rfl, i0, iq⟩
  (repeat refine TS.imp ?_)
  refine TR.imp ?_; intro K hK; simp only [go_sem, hP, hn]; (repeat refine vc ?_); refine hK _ ?_; clear K hK
  (repeat refine TS.imp ?_)
  refine Tr.cond rfl (fun hb => ?_) (fun hb => ?_)
  · have hi1 : i < C := of_decide_eq_true hb
    clear hb
    have w1 : wrap64 (i + 1) = i + 1 := w64 (by omega) (by omega)
    have cF := hF i i0 hi1
    have cO := over_c Tk wd lo hi out ns W ds k.toNat ((List.range i.toNat).map fun t => outF (t : Nat)) n i u w (by omega) hil hj hw0 hw1 hw2 hgap hsz (fun a b j hjm => by have := hix a b j hjm; omega)
    (repeat refine TS.imp ?_)
    refine TR.imp ?_; intro K hK; simp only [go_sem, hP, hn]; (repeat refine vc ?_); refine hK _ ?_; clear K hK
    (repeat refine TS.imp ?_)
    have hk1 : k.toNat < ds.length := by omega
    have hk2 : 0 ≤ k ∧ k < ds.length := ⟨by omega, hk.2.2⟩
    have hgk : ((rwS ds).set k.toNat (.own 1002)).getD k.toNat .any = .own 1002 := by rw [set_getD (by rw [rwS_len]; exact hk1), if_pos rfl]
    have hFl : ((List.range i.toNat).map fun t => outF (t : Nat)).length ≤ 65536 := by simp; omega
    generalize hFF : ((List.range i.toNat).map fun t => outF (t : Nat)) = F at *
    refine Tr.mono (Q := thenS (fun s' => Le E s' ⟨[(0, .fps (rcs wd lo hi out ns W 1001)), (1, .d (.i .i64 k)), (4, .ptr 4 0), (44, .d (.i .i64 C)), (45, .d (.i .i64 i))], [(4, .box 50 n.cs), (1001, .rows 29 ((rwS ds).set k.toNat (.own 1002))), (1002, .row 22 [.nil] ((F ++ [outF i]).map frE))]⟩) fun _ _ => False) ?_ ?_
    · refine d5 (.p true 0 (.p true 1 (.p true 2 (.p true 3 (.p true 4 (.p true 5 (.p true 6 (.p true 7 (.p true 8 (.p true 9 (.p true 10 (.p true 12 (.p true 13 (.p true 14 (.p true 15 (.alt 11 (.alt 16 (.alt 17 (.alt 18 (.alt 19 (.p true 20 (.alt 21 .nil .nil)) .nil) .nil) .nil) .nil) (.alt 16 (.alt 11 (.alt 17 (.alt 18 (.alt 19 (.p true 20 (.alt 21 .nil .nil)) .nil) .nil) .nil) (.alt 17 (.alt 11 (.alt 18 (.alt 19 (.p true 20 (.alt 21 .nil .nil)) .nil) .nil) (.alt 18 (.alt 11 (.alt 19 (.p true 20 (.alt 21 .nil .nil)) .nil) .nil) .nil)) .nil)) .nil))))))))))))))))) [1001, 1002] (by rw [hP]; kernel_rfl) (by kernel_rfl) (by simp only [go_sem, hP, hn]; try simp) (by exact fun _ _ h => h) ?_; intro K hK; simp only [go_sem, hP, hn]
      repeat' (first
        | refine And.intro ?_ ?_
        | trivial
        | omega
        | (refine CallP_co (Hi := OBR wd lo hi out ns W ds k.toNat F) (by rw [hP, hT]; exact cO) rfl rfl rfl trivial (by simp only [go_sem, hP, hn]; try trivial) (by simp only [go_sem, hP, hn]; try rfl) (by simp [inH, lh, OBR]) (by rfl) (by rw [hn]; decide) ?_; simp only [go_sem, hP, hn])
        | (refine CallP_cs (by rw [hP, hT]; exact cF) rfl rfl rfl trivial (by simp only [go_sem, hP, hn]; try trivial) (by simp only [go_sem, hP, hn]; try rfl) (by rw [hn]; decide) ?_; simp only [go_sem, hP, hn])
        | (rw [hgk]; simp only [go_sem, hP, hn])
        | (simp only [List.length_set, rwS_len]; first | exact hk1 | exact hk2.2 | exact hk2.1))
      all_goals
        refine hK _ ?_
        show Le E _ _
        refine Le.trans (b := ⟨[(0, .fps (rcs wd lo hi out ns W 1001)), (1, .d (.i .i64 k)), (4, .ptr 4 0), (44, .d (.i .i64 C)), (45, .d (.i .i64 i))], [(4, .box 50 n.cs), (1001, .rows 29 ((rwS ds).set k.toNat (.own 67))), (67, .row 22 [.nil] ((F ++ [outF i]).map frE))]⟩) ?_ ?_
        · rw [List.map_append (l₁ := F)]
          exact (Le.mv (by simp only [go_sem, hP, hn]; first | done | (simp; done) | (simp [intC]; done) | (repeat (first | rfl | constructor))) (by simp only [go_sem, hP, hn]; first | done | (simp; done) | (simp [intC]; done) | (repeat (first | rfl | constructor))))
        refine Le.trans (Le.ren 67 1002 (by rw [hpn] <;> rfl) rfl (by simp [freeH, closedO, hasL_set, hasL_rwS, k1, S.hasL, S.has, go_sem])) ?_; simp only [renT, renH, renO, renS, renL, rn, go_sem, hP, hn]
        exact Le.refl _
    · intro e s' hl
      cases e <;> simp only [thenS] at hl
      simp only [inBlk, thenS]
      refine Tr.le hl ?_
      (repeat refine TS.imp ?_)
      refine TR.imp ?_; intro K hK; simp only [w1, go_sem, hP, hn]; (repeat refine vc ?_); refine hK _ ?_; clear K hK
      (repeat refine TS.imp ?_)
      refine ⟨q - 1, _, by omega, ?_, i + 1, rfl, by omega, by omega⟩
      rw [show (i + 1).toNat = i.toNat + 1 by omega, List.range_succ, List.map_append (f := fun (t : Nat) => outF (t : Int)), hFF, List.map_cons, List.map_nil, Int.toNat_of_nonneg i0]
      exact (Le.mv (by simp only [go_sem, hP, hn]; first | done | (simp; done) | (simp [intC]; done) | (repeat (first | rfl | constructor))) (by simp only [go_sem, hP, hn]; first | done | (simp; done) | (simp [intC]; done) | (repeat (first | rfl | constructor))))
  have hi1 : i = C := by have := of_decide_eq_false hb; omega
  subst hi1
  rw [Int.toNat_natCast]
  clear hb
  refine Tr.le (Le.freeze 1002) ?_
  simp only [go_sem, hP, hn]
  (repeat refine TS.imp ?_)
  simp only [RetG, go_sem]; (repeat with_reducible refine vc ?_)
end
end Go.Proofs.YtgomeljgbjgbkaaGreatDoor.Aw
namespace Go.Proofs.YtgomeljgbjgbkaaGreatDoor.Aw
open Go.RowKit
/-! the plain law of kernels -/
theorem scale32 (x m s : Int) : in32 (scaleV x m s) := by
  unfold scaleV
  split
  · exact clamp32 _
  · decide
theorem pst32 (n : Nd) (x : Int) (hl : -2147483648 ≤ n.low) (hm : n.low ≤ n.high) (hh : n.high ≤ 2147483647) : in32 (n.pst x) := by
  unfold Nd.pst
  split
  · have := clampV_in (x := if (Go.bits .and .i64 n.post 1 != 0) = true then scaleV (clampV x (-2147483648) 2147483647) n.mult n.shift else clampV x (-2147483648) 2147483647) hm
    unfold in32; omega
  · split
    · exact scale32 _ _ _
    · exact clamp32 _
theorem mostV_b (xs : List Int) (h : 1 ≤ xs.length) : 0 ≤ mostV xs ∧ mostV xs < xs.length := mostN_b xs h _ (Nat.le_refl _)
/-- another Post, another Bias, and what they need -/
def Nd.wq (n : Nd) (bs : List Int) (mu sh lo hi po : Int) : Nd := { n with bs := bs, mult := mu, shift := sh, low := lo, high := hi, post := po }
def Nd.wp (n : Nd) (mu sh lo hi po : Int) : Nd := n.wq n.bs mu sh lo hi po
theorem weighed_num {n : Nd} {fs : List (List Int)} {w : Nat} (hl : -2147483648 ≤ n.low) (hm : n.low ≤ n.high) (hh : n.high ≤ 2147483647) : ∀ b, ∀ x ∈ weighedN n fs w b, in32 x
  | 0, x, hx => by simp [weighedN] at hx
  | b + 1, x, hx => by
    unfold weighedN at hx
    rcases List.mem_append.1 hx with h | h
    · exact weighed_num hl hm hh b x h
    · obtain rfl := List.mem_singleton.1 h; exact pst32 n _ hl hm hh
theorem s27_iff {n : Nd} (h : n.s27 = true) : (0 ≤ n.mult ∧ n.mult ≤ 32767) ∧ (0 ≤ n.shift ∧ n.shift ≤ 30) ∧ -2147483648 ≤ n.low ∧ n.low ≤ n.high ∧ n.high ≤ 2147483647 := by
  unfold Nd.s27 at h
  simp only [Bool.and_eq_true, inB_iff, decide_eq_true_eq] at h
  omega
theorem KOk.s27 {n : Nd} {fs : List (List Int)} {w : Nat} (h : KOk n fs w) : n.s27 = true := by
  have hs := h.sized
  unfold Nd.sized at hs
  repeat' (split at hs <;> try (cases hs; done))
  all_goals exact hs
end Go.Proofs.YtgomeljgbjgbkaaGreatDoor.Aw
namespace Go.Proofs.YtgomeljgbjgbkaaGreatDoor.Aw
open Go.RowKit
attribute [local go_sem_proc] Nat.reduceAdd Nat.reduceMul Nat.reduceSub Nat.reduceEqDiff Nat.reduceLeDiff Nat.reduceBEq Nat.reduceBNe Int.reduceToNat reduceIte reduceCtorEq
attribute [local go_sem] initT SQ so pe he ev lk constS stp stc gdS nth pickS pickD loadS cellsAt okAt fieldAddrS fieldS partS indexAddrS indexS extractS binS binD binI isShift unS convS lenS sliceS bndI bndC mmS mm2 mmD builtS fillS okCells cellsS splS solid aliveL alive okS boxS allocS makeS bsliceS elemsOf dcells stF frzW storeS frzA frzK oneS1 srcR rwsOf hdO appR frz frzT frzS frzL frzO frzH appS srcS appVC killS killT killC killH killO k1 k2 S.has S.hasL St.add St.upd dropH lh cond_or cond_and rw_intC rw_intC0 rw_set rw_app rw_apps rw_rep rw_slice wr64 cond_true cond_false true_and and_true List.map_cons List.map_nil List.length_cons List.length_nil List.drop_succ_cons List.drop_zero List.take_succ_cons List.take_zero List.nil_append List.cons_append List.getD_cons_zero List.getD_cons_succ List.headD_cons List.length_map ite_true ite_false if_true if_false Bool.false_eq_true and_self forall_const List.drop_nil List.take_nil List.append_nil Option.map_some Option.map_none List.mapM_cons List.mapM_nil Option.bind_eq_bind Option.bind_some Option.pure_def knows resL resV oneS freshS freshL cv cvL stpL stcL or_true true_or or_false false_or List.all_cons List.all_nil Bool.and_self Bool.or_self Bool.true_and Bool.and_true Bool.or_false Bool.false_or implies_true flatD allm_nil allm_cons List.getElem?_cons_zero List.getElem?_cons_succ Nd.cs Nd.ds ml mln Option.isSome_some Option.isSome_none eq_self Int.toNat_natCast AP ldOk isLd inL subL crt chg chgS chgP idxs aliveW Option.toList_some Option.toList_none Option.toList RetG Nd.win frzA offK keepH aliveK nkH closedH closedO keysK inH St.upd rowO List.contains_cons List.contains_nil Bool.or_self Option.isNone_none Option.isNone_some Bool.not_true Bool.not_false gcs rowN e0N frzC
attribute [local go_sem] sz2 ag2 ok2 kk2 iu2 zc2 zd2 by2 sz3 ag3 ok3 kk3 iu3 zc3 zd3 by3 sz4 ag4 ok4 bo4 zc4 zd4 by4 sz5 ag5 ok5 kk5 iu5 zc5 zd5 by5 sz9 ag9 ok9 st9 zc9 zd9 by9 sz12 ag12 ok12 kk12 iu12 zc12 zd12 by12 sz15 ag15 ok15 zc15 by15 sz16 ag16 ok16 zc16 by16 sz21 ag21 ok21 kk21 iu21 zc21 zd21 by21 sz22 ag22 ok22 sl22 zc22 zd22 by22 sz23 ag23 ok23 zc23 zd23 pl23 by23 fl23_0 fl23_1 fl23_2 sz24 ag24 ok24 zc24 zd24 pl24 by24 fl24_0 fl24_1 fl24_2 sz26 ag26 ok26 sl26 zc26 zd26 by26 sz27 ag27 ok27 zc27 zd27 pl27 by27 fl27_0 fl27_1 fl27_2 fl27_3 fl27_4 sz28 ag28 ok28 zc28 zd28 pl28 by28 fl28_0 fl28_1 fl28_2 fl28_3 fl28_4 sz29 ag29 ok29 sl29 zc29 zd29 by29 sz32 ag32 ok32 sl32 zc32 zd32 by32 sz33 ag33 ok33 kk33 iu33 zc33 zd33 by33 sz36 ag36 ok36 zc36 zd36 pl36 by36 fl36_0 fl36_1 sz37 ag37 ok37 zc37 zd37 pl37 by37 fl37_0 fl37_1 sz49 ag49 ok49 zc49 zd49 pl49 by49 fl49_0 fl49_1 fl49_2 fl49_3 fl49_4 fl49_5 fl49_6 fl49_7 fl49_8 fl49_9 fl49_10 fl49_11 fl49_12 fl49_13 fl49_14 sz50 ag50 ok50 zc50 zd50 pl50 by50 fl50_0 fl50_1 fl50_2 fl50_3 fl50_4 fl50_5 fl50_6 fl50_7 fl50_8 fl50_9 fl50_10 fl50_11 fl50_12 fl50_13 fl50_14 sz53 ag53 ok53 zc53 by53 sz55 ag55 ok55 zc55 zd55 pl55 by55 fl55_0 fl55_1 fl55_2 sz56 ag56 ok56 zc56 zd56 pl56 by56 fl56_0 fl56_1 fl56_2 sz58 ag58 ok58 zc58 zd58 pl58 by58 fl58_0 fl58_1 fl58_2 fl58_3 sz59 ag59 ok59 zc59 zd59 pl59 by59 fl59_0 fl59_1 fl59_2 fl59_3 sz66 ag66 ok66 zc66 zd66 pl66 by66 fl66_0 fl66_1 fl66_2 sz67 ag67 ok67 zc67 zd67 pl67 by67 fl67_0 fl67_1 fl67_2 sz79 ag79 ok79 zc79 by79 sz80 ag80 ok80 zc80 zd80 pl80 by80 fl80_0 fl80_1 sz81 ag81 ok81 zc81 zd81 pl81 by81 fl81_0 fl81_1 sz105 ag105 ok105 sl105 ar105 zc105 zd105 pl105 by105 sz108 ag108 ok108 sl108 ar108 zc108 zd108 pl108 by108 sz109 ag109 ok109 zc109 by109 sz115 ag115 ok115 zc115 zd115 pl115 by115 fl115_0 fl115_1 sz116 ag116 ok116 zc116 zd116 pl116 by116 fl116_0 fl116_1 sz120 ag120 ok120 zc120 zd120 pl120 by120 fl120_0 fl120_1 sz121 ag121 ok121 sl121 ar121 zc121 zd121 pl121 by121 sz124 ag124 ok124 kk124 iu124 zc124 zd124 by124 sz133 ag133 ok133 kk133 iu133 zc133 zd133 by133 sz137 ag137 ok137 zc137 by137
set_option maxRecDepth 100000
/-! all frames of all nodes, in plain lists -/
def nodeF (n : Nd) (ins : List (List (List Int))) (w : Nat) : List (List Int) := (List.range (n.rCount (ins.map fun s => (s.length : Int))).toNat).map fun i => frameV n (inpF n ins w (i : Nat)) w
def frF (ns : List Nd) (W : List Int) (u : Int → List (List Int)) (i : Int) : List (List Int) := nodeF (nd ns (i - 1)) ((nd ns (i - 1)).inn.map u) (rd W (rd (nd ns (i - 1)).inn 0)).toNat
theorem frF_loc {ns : List Nd} {W : List Int} (u v : Int → List (List Int)) (i : Int) (h : ∀ j ∈ (nd ns (i - 1)).inn, u j = v j) : frF ns W u i = frF ns W v i := by
  unfold frF; rw [List.map_congr_left h]
structure SG (w : Int) (b : Nat) (s : List (List Int)) : Prop where
  wid : ∀ f ∈ s, (f.length : Int) = w
  num : ∀ f ∈ s, ∀ x ∈ f, in32 x
  len : s.length ≤ b
theorem SG.at_w {w : Int} {b : Nat} {s : List (List Int)} (h : SG w b s) (hw : 0 ≤ w) (t : Int) : ((atV s t w.toNat).length : Int) = w ∧ ∀ x ∈ atV s t w.toNat, in32 x := by
  unfold atV
  split
  · refine ⟨by rw [List.length_replicate]; omega, fun x hx => ?_⟩
    have := (List.mem_replicate.1 hx).2
    subst this
    exact ⟨by decide, by decide⟩
  · have hm := fr_mem (fs := s) (i := t) (by omega) (by omega)
    exact ⟨h.wid _ hm, h.num _ hm⟩
theorem mean32 (xs : List Int) (h0 : 1 ≤ xs.length) (h : ∀ x ∈ xs, in32 x) : in32 (meanV xs) := by
  obtain ⟨h1, h2⟩ := sum32 xs h
  unfold meanV divV
  have hl : (1 : Int) ≤ xs.length := by omega
  generalize (xs.length : Int) = m at *
  generalize xs.sum = s at *
  rw [if_neg (by omega)]
  refine ⟨(Int.le_ediv_iff_mul_le (by omega)).2 (by omega), ?_⟩
  have : (2 * s + m) / (2 * m) < 2147483648 := (Int.ediv_lt_iff_lt_mul (by omega)).2 (by omega)
  omega
/-- the frames that a node's frame is told from are as they should be -/
structure NI (n : Nd) (W : Int → Int) (fs : List (List Int)) : Prop where
  h0 : 1 ≤ fs.length ∧ fs.length ≤ 4096
  many : (fs.length : Int) = manyV n fs
  wds : wdsV n fs = n.inn.map W
  num : ∀ f ∈ fs, ∀ x ∈ f, in32 x
  one : rMany n.k = false → ∀ f ∈ fs, (f.length : Int) = W (rd n.inn 0)
section
variable {N : Int} {n : Nd} {W R : Int → Int} {rk : Int → Nat} {i : Int} (hn : NodeG N n W R rk i)
include hn
theorem NodeG.rd0 : rd (n.inn.map W) 0 = W (rd n.inn 0) := rd_map hn.l1
theorem NodeG.w0 : 1 ≤ W (rd n.inn 0) ∧ W (rd n.inn 0) ≤ 16 := by
  obtain ⟨c1, _⟩ := rchk_unpack hn.chk
  exact chk1_all c1 _ (List.mem_map_of_mem (rd_mem (by omega) (by have := hn.l1; omega)))
theorem NodeG.one_inn (hm : rMany n.k = false) : ∃ a, n.inn = [a] := by
  obtain ⟨_, h7, _⟩ := rchk_unpack hn.chk
  unfold Nd.r7 at h7
  rw [hm] at h7
  rcases inn12 hn with h | ⟨a, b, h⟩
  · exact h
  · rw [h] at h7; simp at h7
theorem NI.right {fs : List (List Int)} (h : NI n W fs) : rightV n fs = true := by
  unfold rightV
  have e0 : ((fs.length : Int) == 0) = false := by
    have := h.h0
    cases e : ((fs.length : Int) == 0) with
    | false => rfl
    | true => have := of_decide_eq_true e; omega
  have e1 : ((fs.length : Int) != manyV n fs) = false := by simpa using h.many
  have e2 : (n.rchk (wdsV n fs) != 0) = false := by rw [h.wds, hn.chk]; rfl
  rw [e0, e1, e2]
  simp only [Bool.not_false, Bool.or_self, Bool.true_and]
  refine List.all_eq_true.2 fun f hf => ?_
  unfold frOk
  have e3 : f.all fits32 = true := List.all_eq_true.2 fun x hx => (fits32_iff x).2 (h.num f hf x hx)
  rw [e3, Bool.and_true, h.wds]
  cases hm : rMany n.k with
  | true =>
    have h2 := rMany_chk hn.chk hm
    have h3 : (((n.inn.map W).length : Int) == 1) = false := by
      cases e : (((n.inn.map W).length : Int) == 1) with
      | false => rfl
      | true => have := of_decide_eq_true e; omega
    rw [h3]; rfl
  | false =>
    rw [hn.rd0, h.one hm f hf]; simp
theorem NI.w {fs : List (List Int)} (h : NI n W fs) : (fr fs 0).length = (W (rd n.inn 0)).toNat := by
  have hf0 : fr fs 0 ∈ fs := fr_mem (by decide) (by have := h.h0; omega)
  cases hm : rMany n.k with
  | false => have := h.one hm _ hf0; omega
  | true =>
    have e := h.wds
    unfold wdsV at e
    rw [if_pos hm] at e
    have e2 : rd (fs.map fun f => (f.length : Int)) 0 = rd (n.inn.map W) 0 := congrArg (fun l => rd l 0) e
    rw [hn.rd0] at e2
    have e3 : rd (fs.map fun f => (f.length : Int)) 0 = (fr fs 0).length := by
      have := h.h0
      cases fs with
      | nil => simp at this
      | cons x l => rfl
    omega
theorem NI.fok {fs : List (List Int)} (h : NI n W fs) : FOk n fs (W (rd n.inn 0)).toNat := by
  rw [← h.w hn]
  exact right_fok h.h0.2 (h.right hn)
omit hn in
theorem sized_s27 {v : Int} (hs : n.sized v = true) : n.s27 = true := by
  unfold Nd.sized at hs
  repeat' (split at hs <;> try (cases hs; done))
  all_goals exact hs
omit hn in
theorem sized_wid {v : Int} (hs : n.sized v = true) (hk : n.k = 1 ∨ n.k = 6) : (n.bs.length : Int) = n.wid := by
  have hw : rWeighs n.k = true := by rcases hk with e | e <;> (rw [e]; rfl)
  have h2 : (n.k == 2) = false := by rcases hk with e | e <;> (rw [e]; rfl)
  unfold Nd.sized at hs
  rw [if_pos hw, h2] at hs
  simp only [Bool.false_eq_true, if_false] at hs
  have h21 : n.s21 v n.wid = false := by
    cases e : n.s21 v n.wid with
    | false => rfl
    | true => rw [e] at hs; simp at hs
  unfold Nd.s21 at h21
  simp only [Bool.or_eq_false_iff, bne_eq_false_iff_eq] at h21
  exact h21.1.1.2
omit hn in
theorem each_num {fs : List (List Int)} {w : Nat} (h : KOk n fs w) {g : List Int → Int} (hg : ∀ xs : List Int, xs.length = fs.length → (∀ x ∈ xs, in32 x) → in32 (g xs)) : ∀ x ∈ eachL g fs w, in32 x := by
  intro x hx
  unfold eachL at hx
  obtain ⟨k, hk, rfl⟩ := List.mem_map.1 hx
  have hk := List.mem_range.1 hk
  exact hg _ (col_len _ _) (h.col (by omega) (by omega))
/-- what comes of them is as wide as it should be, of words -/
theorem NI.out {fs : List (List Int)} (h : NI n W fs) : ((frameV n fs (W (rd n.inn 0)).toNat).length : Int) = W i ∧ ∀ x ∈ frameV n fs (W (rd n.inn 0)).toNat, in32 x := by
  have hF := h.fok hn
  have hw := hn.w0
  have hrd := hn.rd0
  obtain ⟨c1, c7, c9, he, hs, hL⟩ := rchk_unpack hn.chk
  have h27 := s27_iff (sized_s27 hs)
  have hwd := hn.wd
  unfold Nd.rwide at hwd
  rw [hn.chk, if_neg (by decide)] at hwd
  rw [hrd] at hwd
  generalize hww : (W (rd n.inn 0)).toNat = w at *
  unfold frameV
  by_cases h8 : n.k = 8
  · rw [if_neg (by rw [h8]; decide), if_neg (by omega), if_neg (by omega), if_neg (by omega), if_neg (by omega), if_neg (by omega), if_neg (by omega)]
    rw [if_neg (by rw [h8]; decide), if_neg (by rw [h8]; decide), if_neg (by rw [h8]; decide)] at hwd
    have e := h.wds
    unfold wdsV at e
    rw [if_pos (show rMany n.k = true by rw [h8]; rfl)] at e
    refine ⟨?_, fun x hx => ?_⟩
    · rw [hwd, ← e]
      have hm : rMany n.k = true := by rw [h8]; rfl
      have hall := chk1_all c1
      rw [← e] at hall
      have hlen : fs.length = n.inn.length := by
        have := congrArg List.length e
        simpa using this
      have hl2 := hn.l2
      have hl1 := hn.l1
      clear e hF h
      match fs, hlen with
      | [f], _ => simp [sumL]; have := hall f.length (by simp); rw [w64 (by omega) (by omega)]
      | [f, g], _ =>
        have h1 := hall f.length (by simp)
        have h2 := hall g.length (by simp)
        simp only [List.flatten_cons, List.flatten_nil, List.append_nil, List.length_append, List.map_cons, List.map_nil, sumL]
        rw [w64 (x := 0 + (f.length : Int)) (by omega) (by omega), w64 (by omega) (by omega)]
        omega
      | [], e => simp at e; omega
      | _ :: _ :: _ :: _, e => simp at e; omega
    · obtain ⟨f, hf, hx⟩ := List.mem_flatten.1 hx
      exact h.num f hf x hx
  · have hK := hF.kok h8
    by_cases hwe : rWeighs n.k = true
    · rw [if_pos hwe]
      unfold weighedV
      rw [weighedN_len]
      refine ⟨?_, weighed_num h27.2.2.1 h27.2.2.2.1 h27.2.2.2.2 _⟩
      have hc : n.k = 1 ∨ n.k = 2 ∨ n.k = 6 := by unfold rWeighs at hwe; simpa [or_assoc] using hwe
      by_cases h2 : n.k = 2
      · have := (hK.wok hwe).dp h2
        rw [if_neg (by rw [h2]; decide), if_neg (by rw [h2]; decide), if_pos (by rw [h2]; decide)] at hwd
        omega
      · rw [if_pos (by simp; omega)] at hwd
        rw [hwd]
        exact sized_wid hs (by omega)
    · rw [if_neg hwe]
      have hwe2 : ¬ (n.k == 1 || n.k == 6) = true := fun e => hwe (by unfold rWeighs; simp at e ⊢; omega)
      rw [if_neg hwe2] at hwd
      by_cases h11 : n.k = 11
      · rw [if_neg (by omega), if_neg (by omega), if_neg (by omega), if_neg (by omega), if_neg (by omega), if_pos h11]
        rw [if_pos (by rw [h11]; decide)] at hwd
        refine ⟨by rw [hwd]; rfl, fun x hx => ?_⟩
        obtain rfl := List.mem_singleton.1 hx
        have := h.w hn
        have := mostV_b (fr fs 0) (by omega)
        exact ⟨by omega, by omega⟩
      · rw [if_neg (by simpa using h11), if_pos (by simpa using h8)] at hwd
        have hlen := hK.m0.1
        have hwW : ((w : Nat) : Int) = W i := by omega
        have h0 : ∀ xs : List Int, xs.length = fs.length → (∀ x ∈ xs, in32 x) → in32 (rd xs 0) := fun xs hx hxs => hxs _ (rd_mem (by decide) (by omega))
        rw [if_neg h11]
        split
        · exact ⟨by rw [eachL_len]; exact hwW, each_num hK fun xs hx hxs => by
            have := mostV_b xs (by omega)
            exact hxs _ (rd_mem this.1 this.2)⟩
        split
        · exact ⟨by rw [eachL_len]; exact hwW, each_num hK fun xs hx hxs => mean32 xs (by omega) hxs⟩
        split
        · exact ⟨by rw [eachL_len]; exact hwW, each_num hK fun xs hx hxs => add_in xs⟩
        split
        · exact ⟨by rw [eachL_len]; exact hwW, each_num hK fun xs hx hxs => by
            have := clampV_in (x := rd xs 0) h27.2.2.2.1
            exact ⟨by omega, by omega⟩⟩
        split
        · exact ⟨by rw [eachL_len]; exact hwW, each_num hK fun xs hx hxs => scale32 _ _ _⟩
        · exfalso
          obtain ⟨k1, k2, _⟩ := hK.unpack
          unfold rWeighs at hwe
          simp at hwe
          omega
/-- which frames go into a frame -/
theorem NodeG.ni {u : Int → List (List Int)} {b : Nat} (hb : b ≤ 4096) (hu : ∀ j ∈ n.inn, SG (W j) b (u j)) {k : Int} (k0 : 0 ≤ k) (k1 : k < n.rCount ((n.inn.map u).map fun s => (s.length : Int))) :
    NI n W (inpF n (n.inn.map u) (W (rd n.inn 0)).toNat k) := by
  have hw := hn.w0
  obtain ⟨c1, c7, c9, he, hs, hL⟩ := rchk_unpack hn.chk
  have hone : ∀ fs : List (List Int), 1 ≤ fs.length → rMany n.k = false → (∀ f ∈ fs, (f.length : Int) = W (rd n.inn 0)) → wdsV n fs = n.inn.map W := fun fs h1 hm hf => by
    obtain ⟨a, ha⟩ := hn.one_inn hm
    unfold wdsV
    rw [hm, if_neg (by decide), hf _ (fr_mem (by decide) (by omega)), ha]; rfl
  by_cases hwin : rWin n.k = true
  · have hsz := win_size hs hwin
    have hm : rMany n.k = false := by
      unfold rWin at hwin; unfold rMany
      simp only [Bool.or_eq_true, beq_iff_eq] at hwin
      simp only [Bool.or_eq_false_iff, beq_eq_false_iff_ne]
      omega
    obtain ⟨a, ha⟩ := hn.one_inn hm
    have hua := hu a (by rw [ha]; simp)
    have hWa : W (rd n.inn 0) = W a := by rw [ha]; rfl
    have hat := fun t => hua.at_w (t := t) (by omega)
    have hin : inF (n.inn.map u) 0 = u a := by rw [ha]; rfl
    unfold inpF
    rw [if_pos hwin, hin, hWa]
    have hf : ∀ f ∈ (List.range n.size.toNat).map (fun j => atV (u a) (wrap64 (n.rFirst k + wrap64 ((j : Nat) * gapV n))) (W a).toNat), (f.length : Int) = W (rd n.inn 0) ∧ ∀ x ∈ f, in32 x := fun f hf => by
      obtain ⟨j, _, rfl⟩ := List.mem_map.1 hf
      rw [hWa]; exact hat _
    have hlen : ((List.range n.size.toNat).map (fun j => atV (u a) (wrap64 (n.rFirst k + wrap64 ((j : Nat) * gapV n))) (W a).toNat)).length = n.size.toNat := by simp
    generalize (List.range n.size.toNat).map (fun j => atV (u a) (wrap64 (n.rFirst k + wrap64 ((j : Nat) * gapV n))) (W a).toNat) = fs at *
    exact ⟨by omega, by unfold manyV; rw [if_pos hwin]; omega, hone fs (by omega) hm fun f h => (hf f h).1, fun f h => (hf f h).2, fun _ f h => (hf f h).1⟩
  · have hwin : rWin n.k = false := by simpa using hwin
    unfold Nd.rCount at k1
    rw [hwin, Bool.false_and, if_neg (by decide)] at k1
    unfold inpF
    rw [if_neg (by rw [hwin]; decide)]
    by_cases h5 : n.k = 5
    · have hm : rMany n.k = false := by rw [h5]; rfl
      obtain ⟨a, ha⟩ := hn.one_inn hm
      have hua := hu a (by rw [ha]; simp)
      have hWa : W (rd n.inn 0) = W a := by rw [ha]; rfl
      have hin : inF (n.inn.map u) 0 = u a := by rw [ha]; rfl
      rw [if_pos h5, hin]
      have hpos : 1 ≤ (u a).length := by
        rw [ha] at k1
        simp only [List.map_cons, List.map_nil] at k1
        rw [fewest1 (by omega)] at k1
        by_cases e : (u a).length = 0
        · rw [e] at k1; simp at k1; omega
        · omega
      have hul := hua.len
      exact ⟨by omega, by unfold manyV; rw [hwin, if_neg (by decide), h5, if_pos (by decide)], hone _ hpos hm fun f h => by rw [hWa]; exact hua.wid f h, hua.num, fun _ f h => by rw [hWa]; exact hua.wid f h⟩
    · rw [if_neg h5]
      rw [show (n.k == 5) = false by simpa using h5, Bool.false_and, if_neg (by decide)] at k1
      have hk : ∀ j ∈ n.inn, k < (u j).length := by
        rcases inn12 hn with ⟨a, ha⟩ | ⟨a, c, ha⟩
        · rw [ha] at k1 ⊢
          simp only [List.map_cons, List.map_nil] at k1
          rw [fewest1 (by omega)] at k1
          intro j hj
          obtain rfl := List.mem_singleton.1 hj
          exact k1
        · rw [ha] at k1 ⊢
          simp only [List.map_cons, List.map_nil] at k1
          rw [fewest2 (by omega) (by omega)] at k1
          intro j hj
          unfold mn at k1
          split at k1 <;> rcases List.mem_cons.1 hj with rfl | hj <;> (try obtain rfl := List.mem_singleton.1 hj) <;> omega
      have hmem : ∀ j ∈ n.inn, fr (u j) k ∈ u j := fun j hj => fr_mem k0 (hk j hj)
      have hml : ((n.inn.map u).map fun s => fr s k) = n.inn.map fun j => fr (u j) k := by rw [List.map_map]; rfl
      have hl1 := hn.l1
      have hl2 := hn.l2
      rw [hml]
      refine ⟨by rw [List.length_map]; omega, ?_, ?_, fun f hf => ?_, fun hm f hf => ?_⟩
      · unfold manyV
        rw [hwin, if_neg (by decide), show (n.k == 5) = false by simpa using h5, if_neg (by decide), List.length_map]
        cases hm : rMany n.k with
        | true => rfl
        | false =>
          obtain ⟨a, ha⟩ := hn.one_inn hm
          rw [ha]; rfl
      · cases hm : rMany n.k with
        | true =>
          unfold wdsV
          rw [if_pos hm, List.map_map]
          exact List.map_congr_left fun j hj => (hu j hj).wid _ (hmem j hj)
        | false =>
          refine hone _ (by rw [List.length_map]; omega) hm fun f hf => ?_
          obtain ⟨j, hj, rfl⟩ := List.mem_map.1 hf
          obtain ⟨a, ha⟩ := hn.one_inn hm
          have : j = rd n.inn 0 := by rw [ha] at hj ⊢; exact List.mem_singleton.1 hj
          rw [← this]
          exact (hu j hj).wid _ (hmem j hj)
      · obtain ⟨j, hj, rfl⟩ := List.mem_map.1 hf
        exact (hu j hj).num _ (hmem j hj)
      · obtain ⟨j, hj, rfl⟩ := List.mem_map.1 hf
        obtain ⟨a, ha⟩ := hn.one_inn hm
        have : j = rd n.inn 0 := by rw [ha] at hj ⊢; exact List.mem_singleton.1 hj
        rw [← this]
        exact (hu j hj).wid _ (hmem j hj)
/-- how many come -/
theorem NodeG.cnt {l : List Int} {b : Nat} (hb : b ≤ 4000) (hl : l.length = n.inn.length) (h : ∀ x ∈ l, 0 ≤ x ∧ x ≤ b) : 0 ≤ n.rCount l ∧ n.rCount l ≤ b + 10 := by
  have hw := hn.wf
  have hf : 0 ≤ fewestV l ∧ fewestV l ≤ b := by
    rcases inn12 hn with ⟨a, ha⟩ | ⟨a, c, ha⟩
    · rw [ha] at hl
      match l, hl with
      | [x], _ => have := h x (by simp); rw [fewest1 this.1]; exact this
    · rw [ha] at hl
      match l, hl with
      | [x, y], _ =>
        have h1 := h x (by simp)
        have h2 := h y (by simp)
        rw [fewest2 h1.1 h2.1]
        unfold mn
        split <;> omega
  have hr := hw.rt
  have hsp := hw.sp
  have hst := hw.st
  unfold Nd.rCount
  split
  · rw [w64 (x := fewestV l + n.rRight) (by omega) (by omega), hw.ends (by omega) (by omega)]
    split
    · omega
    · have hlf := hw.lf
      have d1 := Int.ediv_nonneg (a := fewestV l + n.rRight - 1 - (n.rSpan - 1 - n.rLeft)) (b := n.rStp) (by omega) (by omega)
      have d2 := Int.ediv_le_self (a := fewestV l + n.rRight - 1 - (n.rSpan - 1 - n.rLeft)) n.rStp (by omega)
      omega
  split
  · omega
  · omega
theorem NodeG.lens {u : Int → List (List Int)} {b : Nat} (hu : ∀ j ∈ n.inn, (u j).length ≤ b) : ((n.inn.map u).map fun s => (s.length : Int)).length = n.inn.length ∧ ∀ x ∈ (n.inn.map u).map (fun s => (s.length : Int)), 0 ≤ x ∧ x ≤ b := by
  refine ⟨by simp, fun x hx => ?_⟩
  obtain ⟨s, hs, rfl⟩ := List.mem_map.1 hx
  obtain ⟨j, hj, rfl⟩ := List.mem_map.1 hs
  have := hu j hj
  omega
theorem NodeG.sg {u : Int → List (List Int)} {b : Nat} (hb : b ≤ 4000) (hu : ∀ j ∈ n.inn, SG (W j) b (u j)) : SG (W i) (b + 10) (nodeF n (n.inn.map u) (W (rd n.inn 0)).toNat) := by
  obtain ⟨l1, l2⟩ := hn.lens (u := u) (b := b) fun j hj => (hu j hj).len
  have hc := hn.cnt hb l1 l2
  have key : ∀ f ∈ nodeF n (n.inn.map u) (W (rd n.inn 0)).toNat, (f.length : Int) = W i ∧ ∀ x ∈ f, in32 x := fun f hf => by
    unfold nodeF at hf
    obtain ⟨k, hk, rfl⟩ := List.mem_map.1 hf
    have hk := List.mem_range.1 hk
    exact (hn.ni (k := (k : Nat)) (by omega) hu (by omega) (by omega)).out hn
  refine ⟨fun f hf => (key f hf).1, fun f hf => (key f hf).2, ?_⟩
  unfold nodeF
  rw [List.length_map, List.length_range]
  omega
end
set_option maxRecDepth 100000
/-! a frame hangs on the frames of its reach alone -/
/-- the frames of all nodes, as they go along -/
structure FX (ns : List Nd) (W2 : List Int) (A : Int → List (List Int)) : Prop where
  fx : ∀ i : Int, 1 ≤ i → i ≤ ns.length → A i = frF ns W2 A i
  le : ∀ i : Int, 0 ≤ i → i ≤ ns.length → (A i).length ≤ 65536
section
variable {wd lo hi out : Int} {ns : List Nd} {W R : Int → Int} {rk : Int → Nat} {W2 R2 : List Int} (h : GF wd lo hi out ns W R rk W2 R2)
include h
end
section
attribute [local go_sem] rtup frD insD
theorem wE_rep : ∀ n : Nat, wE (List.replicate n [D.nil]) ((List.replicate n ([] : List (List Int))).map insE)
  | 0 => trivial
  | n + 1 => ⟨by simp [insE, Aw.wd, frD], wE_rep n⟩
theorem setE_ins (l : List (List (List Int))) (i : Nat) (n : List (List Int)) : setE (l.map insE) i 0 [frD n] = (l.set i n).map insE := by
  unfold setE
  apply List.ext_getElem?
  intro j
  rw [List.getElem?_modify, List.getElem?_map, List.getElem?_map, List.getElem?_set]
  by_cases h : i = j
  · subst h
    by_cases h2 : i < l.length
    · simp [h2, insE]
    · simp [h2]
  · simp [h]
/-- all frames of all nodes: each node's, f u i, of its inputs' -/
theorem Streams_c {T : World → Prop} (Tm : TP T) (wd lo hi out many : Int) (ns : List Nd) (os W R : List Int) (fs : List (List Int)) (f : (Int → List (List Int)) → Int → List (List Int)) (G : Int → List (List Int) → Prop) (hwd : 1 ≤ wd ∧ wd ≤ 16) (hns : ns.length ≤ 4000) (hin : ∀ n ∈ ns, n.inn.length ≤ 4096 ∧ n.ws.length ≤ 65536 ∧ n.bs.length ≤ 65536)
    (hok : lookG wd lo hi out ns = (0, os, W, R)) (hW : W.length = ns.length + 1) (hO : RO ns os) (hfs : Fin18 wd lo hi many fs) (hm : 0 ≤ many ∧ many ≤ 1000)
    (hord : ∀ (o1 : List Int) (i : Int) (r : List Int), os = o1 ++ i :: r → ∀ j ∈ (nd ns (i - 1)).inn, j = 0 ∨ j ∈ o1) (hG0 : G 0 fs)
    (hG : ∀ i ∈ os, ∀ u : Int → List (List Int), (∀ j ∈ (nd ns (i - 1)).inn, G j (u j)) → G i (f u i) ∧ Cg Go.Proofs.Tryz.prog T 27 [] [.agg (nd ns (i - 1)).cs, .d (insD ((nd ns (i - 1)).inn.map u)), .d (.i .i64 (rd W (rd (nd ns (i - 1)).inn 0)))] (fun r H => H = [] ∧ r = .d (frD (f u i)))) :
    Cg Go.Proofs.Tryz.prog T 9 [] [.agg (gcs wd lo hi out (.d (rowN ns))), .d (frD fs)] (fun r H => H = [] ∧ r = .agg [.d (insD (ordL [] (fun u _ i => f u i) os (fs :: List.replicate ns.length []))), .d (.i .i64 0)]) := by
  have cL := Look_r Tm wd lo hi out ns (by omega) hin
  rw [← look_same, hok] at cL
  have hl0 := hfs.len
  have w1 : wrap64 ((ns.length : Int) + 1) = ((ns.length + 1 : Nat) : Int) := by rw [w64 (by omega) (by omega)]; omega
  refine Cg_of [] Tm Go.Proofs.Tryz.func9 rfl rfl Go.Proofs.Tryz.ntmps9 (by simp) rfl (rs := [.cell 4 37]) rfl fun E hP hn hT hpn => ?_
  (repeat refine TS.imp ?_)
  refine TR.imp ?_; intro K hK; simp only [go_sem, hP, hn]; (repeat refine vc ?_); refine hK _ ?_; clear K hK
  (repeat refine TS.imp ?_)
  refine TR.imp ?_; intro K hK; simp only [go_sem, hP, hn]
  (repeat refine vc ?_)
  refine CallN_cs (Hi := [] ) (by rw [hP, hT]; exact  cL) rfl rfl rfl trivial (by simp only [go_sem, hP, hn]; try trivial) (by simp only [go_sem, hP, hn]; try rfl) (by simp only [inH, go_sem, hP, hn]; try simp) (by rw [hn]; decide) ?_; simp only [go_sem, hP, hn]; (repeat refine vc ?_)
  refine hK _ ?_; clear K hK
  (repeat refine TS.imp ?_)
  refine TR.imp ?_; intro K hK; simp only [go_sem, hP, hn]; (repeat refine vc ?_); refine hK _ ?_; clear K hK
  (repeat refine TS.imp ?_)
  refine Tr.cond rfl (fun hb => ?_) (fun hb => ?_)
  · cases hb
  clear hb
  (repeat refine TS.imp ?_)
  refine Tr.le (Le.keep [1, 2, 4, 5]) ?_; simp only [List.map_cons, List.map_nil, lk, Nat.reduceEqDiff, reduceIte]
  refine Tr.le (Le.fz 5 5 [.row [.i .i64 0] (os.map intC), .row [.i .i64 0] (W.map intC), .row [.i .i64 0] (R.map intC), .i .i64 0] rfl rfl rfl) ?_
  simp only [go_sem, hP, hn]
  (repeat refine TS.imp ?_)
  refine TR.imp ?_; intro K hK; simp only [go_sem, hP, hn]; (repeat refine vc ?_); refine hK _ ?_; clear K hK
  (repeat refine TS.imp ?_)
  refine Tr.loop (fun q s => ∃ i : Int, s = ⟨[(1, .d (frD fs)), (2, .ptr 2 0), (4, .ptr 4 0), (5, .fptr [.row [.i .i64 0] (os.map intC), .row [.i .i64 0] (W.map intC), .row [.i .i64 0] (R.map intC), .i .i64 0]), (6, .d (.i .i64 i))], [(2, .box 28 (gcs wd lo hi out (.d (rowN ns)))), (4, .box 37 [.d .nil, .d (.i .i64 0)])]⟩ ∧ 0 ≤ i ∧ i + q = fs.length) fs.length ⟨_, ?_, 0, rfl, by omega, by omega⟩ ?_
  · exact (Le.mv (by simp only [go_sem, hP, hn]; first | done | (simp; done) | (simp [intC]; done) | (repeat (first | rfl | constructor))) (by simp only [go_sem, hP, hn]; first | done | (simp; done) | (simp [intC]; done) | (repeat (first | rfl | constructor))))
  rintro q s ⟨i, rfl, i0, iq⟩
  (repeat refine TS.imp ?_)
  refine TR.imp ?_; intro K hK; simp only [go_sem, hP, hn]; (repeat refine vc ?_); refine hK _ ?_; clear K hK
  (repeat refine TS.imp ?_)
  refine Tr.cond rfl (fun hb => ?_) (fun hb => ?_)
  · have hi1 : i < fs.length := by simpa using hb
    clear hb
    have hmem := fr_mem i0 hi1
    have hfw := hfs.wid _ hmem
    have hfn := hfs.num _ hmem
    have hrf := rw_fr fs i i0 hi1
    have w2 : wrap64 (i + 1) = i + 1 := w64 (by omega) (by omega)
    (repeat refine TS.imp ?_)
    refine d5 (.p true 0 (.p true 1 (.p true 2 (.p true 3 (.p true 4 (.p true 5 (.p true 6 (.p true 7 .nil)))))))) [] (by rw [hP]; kernel_rfl) (by kernel_rfl) (by simp only [go_sem, hP, hn]; try simp) (by exact fun _ _ h => h) ?_; intro K hK; simp only [go_sem, hP, hn]
    rw [hrf]
    simp only [go_sem, hP, hn]
    (repeat refine vc ?_)
    refine hK _ ?_; clear K hK
    (repeat refine TS.imp ?_)
    refine Tr.cond rfl (fun hc => ?_) (fun hc => ?_)
    · rw [hfw] at hc; simp at hc
    clear hc
    (repeat refine TS.imp ?_)
    refine TR.imp ?_; intro K hK; simp only [go_sem, hP, hn]; (repeat refine vc ?_); refine hK _ ?_; clear K hK
    (repeat refine TS.imp ?_)
    refine Tr.loop (fun p s => ∃ k : Int, s = ⟨[(1, .d (frD fs)), (2, .ptr 2 0), (4, .ptr 4 0), (5, .fptr [.row [.i .i64 0] (os.map intC), .row [.i .i64 0] (W.map intC), .row [.i .i64 0] (R.map intC), .i .i64 0]), (6, .d (.i .i64 i)), (7, .d (.i .i64 k))], [(2, .box 28 (gcs wd lo hi out (.d (rowN ns)))), (4, .box 37 [.d .nil, .d (.i .i64 0)])]⟩ ∧ 0 ≤ k ∧ k + p = wd) wd.toNat ⟨_, ?_, 0, rfl, by omega, by omega⟩ ?_
    · exact (Le.mv (by simp only [go_sem, hP, hn]; first | done | (simp; done) | (simp [intC]; done) | (repeat (first | rfl | constructor))) (by simp only [go_sem, hP, hn]; first | done | (simp; done) | (simp [intC]; done) | (repeat (first | rfl | constructor))))
    rintro p s ⟨k, rfl, k0, kp⟩
    (repeat refine TS.imp ?_)
    refine TR.imp ?_; intro K hK; simp only [go_sem, hP, hn]; (repeat refine vc ?_); refine hK _ ?_; clear K hK
    (repeat refine TS.imp ?_)
    refine Tr.cond rfl (fun hc => ?_) (fun hc => ?_)
    · have hk : k < wd := of_decide_eq_true hc
      clear hc
      have hx := hfn _ (rd_mem k0 (show k < (fr fs i).length by omega))
      have w3 : wrap64 (k + 1) = k + 1 := w64 (by omega) (by omega)
      (repeat refine TS.imp ?_)
      refine d5 (.p true 0 (.p true 1 (.p true 2 (.p true 3 (.p true 4 (.p true 5 (.p true 6 (.p true 7 (.p true 8 (.p true 9 (.p true 10 (.p true 11 (.p true 12 (.p true 13 (.p true 14 (.p true 15 (.p true 16 (.p true 17 (.p true 18 (.p true 19 (.p true 20 (.p true 21 .nil)))))))))))))))))))))) [] (by rw [hP]; kernel_rfl) (by kernel_rfl) (by simp only [go_sem, hP, hn]; try simp) (by exact fun _ _ h => h) ?_; intro K hK; simp only [go_sem, hP, hn]
      rw [hrf]
      simp only [go_sem, hP, hn]
      (repeat refine vc ?_)
      refine hK _ ?_; clear K hK
      (repeat refine TS.imp ?_)
      refine Tr.cond rfl (fun hd => ?_) (fun hd => ?_)
      · exfalso
        simp at hd
        omega
      (repeat refine TS.imp ?_)
      refine TR.imp ?_; intro K hK; simp only [w3, go_sem, hP, hn]; (repeat refine vc ?_); refine hK _ ?_; clear K hK
      (repeat refine TS.imp ?_)
      exact ⟨p - 1, _, by omega, (Le.mv (by simp only [go_sem, hP, hn]; first | done | (simp; done) | (simp [intC]; done) | (repeat (first | rfl | constructor))) (by simp only [go_sem, hP, hn]; first | done | (simp; done) | (simp [intC]; done) | (repeat (first | rfl | constructor)))), k + 1, rfl, by omega, by omega⟩
    (repeat refine TS.imp ?_)
    refine TR.imp ?_; intro K hK; simp only [w2, go_sem, hP, hn]; (repeat refine vc ?_); refine hK _ ?_; clear K hK
    (repeat refine TS.imp ?_)
    exact ⟨q - 1, _, by omega, (Le.mv (by simp only [go_sem, hP, hn]; first | done | (simp; done) | (simp [intC]; done) | (repeat (first | rfl | constructor))) (by simp only [go_sem, hP, hn]; first | done | (simp; done) | (simp [intC]; done) | (repeat (first | rfl | constructor)))), i + 1, rfl, by omega, by omega⟩
  clear hb
  (repeat refine TS.imp ?_)
  refine TR.imp ?_; intro K hK; simp only [w1, go_sem, hP, hn]; (repeat refine vc ?_); refine hK _ ?_; clear K hK
  (repeat refine TS.imp ?_)
  refine Tr.le (Le.wrow 69 ((List.replicate (ns.length + 1) ([] : List (List Int))).map insE) rfl (wE_rep _)) ?_
  simp only [go_sem, hP, hn]
  (repeat refine TS.imp ?_)
  refine TR.imp ?_; intro K hK; simp only [go_sem, hP, hn]; (repeat refine vc ?_); refine hK _ ?_; clear K hK
  (repeat refine TS.imp ?_)
  refine TR.imp ?_; intro K hK; simp only [go_sem, hP, hn]; (repeat refine vc ?_); refine hK _ ?_; clear K hK
  (repeat refine TS.imp ?_)
  generalize hOUT : ordL [] (fun u _ i => f u i) os (fs :: List.replicate ns.length []) = OUT
  refine Tr.loop (fun q s => ∃ (k : Nat) (o : List (List (List Int))), s = ⟨[(1, .d (frD fs)), (2, .ptr 2 0), (4, .ptr 4 0), (5, .fptr [.row [.i .i64 0] (os.map intC), .row [.i .i64 0] (W.map intC), .row [.i .i64 0] (R.map intC), .i .i64 0]), (8, .own 69), (9, .d (.i .i64 k))], [(2, .box 28 (gcs wd lo hi out (.d (rowN ns)))), (4, .box 37 [.d .nil, .d (.i .i64 0)]), (69, .row 29 [.nil] (o.map insE))]⟩ ∧ k + q = os.length ∧ o.length = ns.length + 1 ∧ ordL [] (fun u _ i => f u i) (os.drop k) o = OUT ∧ ∀ j : Int, (j = 0 ∨ j ∈ os.take k) → G j (ga [] o j)) os.length ⟨_, ?_, 0, fs :: List.replicate ns.length [], rfl, by omega, by simp, hOUT, fun j hj => ?_⟩ ?_
  · exact (Le.mv (by simp only [go_sem, hP, hn]; first | done | (simp; done) | (simp [intC]; done) | (repeat (first | rfl | constructor))) (by simp only [go_sem, hP, hn]; first | done | (simp; done) | (simp [intC]; done) | (repeat (first | rfl | constructor))))
  · obtain rfl : j = 0 := by simpa using hj
    exact hG0
  rintro q s ⟨k, o, rfl, kq, hol, hro, hgo⟩
  (repeat refine TS.imp ?_)
  refine TR.imp ?_; intro K hK; simp only [go_sem, hP, hn]; (repeat refine vc ?_); refine hK _ ?_; clear K hK
  (repeat refine TS.imp ?_)
  refine Tr.cond rfl (fun hb => ?_) (fun hb => ?_)
  · have hk : k < os.length := by simpa using hb
    clear hb
    have hmo := rd_mem (l := os) (j := (k : Int)) (by omega) (by omega)
    obtain ⟨⟨hi1, hi2⟩, hj, hl1⟩ := hO.nd _ hmo
    have hdr := drop_rd (l := os) (j := (k : Int)) (by omega) (by omega)
    rw [show ((k : Int) + 1).toNat = k + 1 by omega, Int.toNat_natCast] at hdr
    have hsp := (List.take_append_drop k os).symm
    rw [hdr] at hsp
    have hjo := hord _ _ _ hsp
    clear hsp
    rw [hdr, ordL] at hro
    clear hdr
    obtain ⟨hGi, cN⟩ := hG _ hmo (ga [] o) fun j hj => hgo j (hjo j hj)
    have hnd := rw_nd ns (rd os k - 1) (by omega) (by omega)
    have hini := hin _ (nd_mem (ns := ns) (i := rd os k - 1) (by omega) (by omega))
    have q1 : (0 : Int) ≤ (k : Int) := by omega
    have q2 : (k : Int) < os.length := by omega
    have q3 : 0 ≤ rd os k - 1 := by omega
    have q4 : rd os k - 1 < ns.length := by omega
    have w3 : Unit → wrap64 ((k : Int) + 1) = ((k + 1 : Nat) : Int) := fun _ => by
      have := hO.le
      rw [w64 (by omega) (by omega)]; omega
    have hil0 : ∀ j ∈ (nd ns (rd os k - 1)).inn, j.toNat < o.length := fun j hjx => by have := hj j hjx; omega
    have w2 : wrap64 (rd os k - 1) = rd os k - 1 := w64 (by omega) (by omega)
    have hk2 : (os.map intC).getD k [.i .i64 0] = [.i .i64 (rd os k)] := by
      have := rw_intC os (k : Int)
      rwa [Int.toNat_natCast] at this
    clear w1
    (repeat refine TS.imp ?_)
    refine d5 (.p true 0 (.p true 1 (.p true 2 (.p true 3 (.p true 4 (.p true 5 (.p true 6 (.p true 7 (.p true 8 (.p true 9 (.alt 10 (.alt 11 .nil .nil) .nil))))))))))) [] (by rw [hP]; kernel_rfl) (by kernel_rfl) (by simp only [go_sem, hP, hn]; try simp) (by exact fun _ _ h => h) ?_; intro K hK; simp only [go_sem, hP, hn]
    rw [hk2]
    simp only [go_sem, hP, hn]
    simp only [w2, hnd]
    simp only [go_sem, hP, hn]
    simp only [q1, q2, q3, q4, and_self, true_and, Nat.reduceLT]
    clear w2
    have htk : os.take (k + 1) = os.take k ++ [rd os k] := by
      have := take_rd (l := os) (j := (k : Int)) (by omega) (by omega)
      rwa [show ((k : Int) + 1).toNat = k + 1 by omega, Int.toNat_natCast] at this
    generalize rd os k = i at *
    generalize nd ns (i - 1) = x at *
    refine hK _ ?_; clear K hK
    (repeat refine TS.imp ?_)
    refine TR.imp ?_; intro K hK; simp only [go_sem, hP, hn]; (repeat refine vc ?_); refine hK _ ?_; clear K hK
    (repeat refine TS.imp ?_)
    refine TR.imp ?_; intro K hK; simp only [go_sem, hP, hn]; (repeat refine vc ?_); refine hK _ ?_; clear K hK
    (repeat refine TS.imp ?_)
    refine Tr.le (Le.nilslot 3011 11 29 [.nil] rfl (by rw [hpn] <;> rfl) rfl rfl) ?_
    simp only [go_sem, hP, hn]
    refine Tr.loop (fun p s => ∃ (j : Int) (F : List (List (List Int))), s = ⟨[(1, .d (frD fs)), (2, .ptr 2 0), (4, .ptr 4 0), (5, .fptr [.row [.i .i64 0] (os.map intC), .row [.i .i64 0] (W.map intC), .row [.i .i64 0] (R.map intC), .i .i64 0]), (8, .own 69), (9, .d (.i .i64 k)), (10, .ptr 10 0), (11, .own 3011), (12, .d (.i .i64 j))], [(2, .box 28 (gcs wd lo hi out (.d (rowN ns)))), (4, .box 37 [.d .nil, .d (.i .i64 0)]), (69, .row 29 [.nil] (o.map insE)), (10, .box 50 x.cs), (3011, .row 29 [.nil] (F.map insE))]⟩ ∧ 0 ≤ j ∧ j + p = x.inn.length ∧ F = (x.inn.take j.toNat).map (ga [] o)) x.inn.length ⟨_, ?_, 0, [], rfl, by omega, by omega, rfl⟩ ?_
    · exact (Le.mv (by simp only [go_sem, hP, hn]; first | done | (simp; done) | (simp [intC]; done) | (repeat (first | rfl | constructor))) (by simp only [go_sem, hP, hn]; first | done | (simp; done) | (simp [intC]; done) | (repeat (first | rfl | constructor))))
    rintro p s ⟨j, F, rfl, j0, jp, hFj⟩
    (repeat refine TS.imp ?_)
    refine TR.imp ?_; intro K hK; simp only [go_sem, hP, hn]; (repeat refine vc ?_); refine hK _ ?_; clear K hK
    (repeat refine TS.imp ?_)
    refine Tr.cond rfl (fun hc => ?_) (fun hc => ?_)
    · have hj1 : j < x.inn.length := by simpa using hc
      clear hc
      have hjr := hj _ (rd_mem j0 hj1)
      have hri := rw_ins o (rd x.inn j) (by omega) (by omega)
      have w4 : Unit → wrap64 (j + 1) = j + 1 := fun _ => w64 (by omega) (by omega)
      have z1 := hjr.1
      have hFl : F.length ≤ 4096 := by
        rw [hFj, List.length_map, List.length_take]; omega
      have z2 : rd x.inn j < o.length := by omega
      have hil := hil0 _ (rd_mem j0 hj1)
      (repeat refine TS.imp ?_)
      refine TR.imp ?_; intro K hK; simp only [hri, go_sem, hP, hn]
      simp only [z1, z2, j0, hj1, hil, insE, and_self, true_and, Nat.reduceLT, Nat.zero_lt_one, List.length_cons, List.length_nil]
      (repeat (refine ⟨by first | trivial | omega, ?_⟩))
      refine hK _ ?_; clear K hK
      (repeat refine TS.imp ?_)
      replace w4 := w4 ()
      refine TR.imp ?_; intro K hK; simp only [w4, go_sem, hP, hn]; (repeat refine vc ?_); refine hK _ ?_; clear K hK
      (repeat refine TS.imp ?_)
      refine ⟨p - 1, _, by omega, ?_, j + 1, F ++ [inF o (rd x.inn j)], rfl, by omega, by omega, ?_⟩
      · refine Le.trans (b := ⟨[(1, .d (frD fs)), (2, .ptr 2 0), (4, .ptr 4 0), (5, .fptr [.row [.i .i64 0] (os.map intC), .row [.i .i64 0] (W.map intC), .row [.i .i64 0] (R.map intC), .i .i64 0]), (8, .own 69), (9, .d (.i .i64 k)), (10, .ptr 10 0), (11, .own 107), (12, .d (.i .i64 (j + 1)))], [(2, .box 28 (gcs wd lo hi out (.d (rowN ns)))), (4, .box 37 [.d .nil, .d (.i .i64 0)]), (69, .row 29 [.nil] (o.map insE)), (10, .box 50 x.cs), (107, .row 29 [.nil] ((F ++ [inF o (rd x.inn j)]).map insE))]⟩) ?_ ?_
        · rw [List.map_append (l₁ := F)]
          exact (Le.mv (by simp only [go_sem, hP, hn]; first | done | (simp; done) | (simp [intC]; done) | (repeat (first | rfl | constructor))) (by simp only [go_sem, hP, hn]; first | done | (simp; done) | (simp [intC]; done) | (repeat (first | rfl | constructor))))
        refine Le.trans (Le.ren 107 3011 (by rw [hpn] <;> rfl) rfl rfl) ?_; simp only [renT, renH, renO, renS, renL, rn, go_sem, hP, hn]
        exact Le.refl _
      · rw [hFj, take_rd j0 hj1, List.map_append, List.map_cons, List.map_nil]
        rfl
    · have hj1 : j = x.inn.length := by have := of_decide_eq_false hc; omega
      subst hj1
      rw [Int.toNat_natCast, List.take_length] at hFj
      subst hFj
      clear hc
      refine Tr.le (Le.freeze 3011) ?_
      simp only [go_sem, hP, hn]
      have hj0 := hj _ (rd_mem (l := x.inn) (j := 0) (by omega) (by omega))
      have q5 : rd x.inn 0 < W.length := by omega
      have q6 : 0 ≤ i := by omega
      have q7 : i < o.length := by omega
      have q8 : (0 : Int) < x.inn.length := by omega
      have q9 := hj0.1
      have q10 : i.toNat < o.length := by omega
      (repeat refine TS.imp ?_)
      refine Tr.le (Le.keep [1, 2, 4, 5, 8, 9, 10, 11]) ?_; simp only [List.map_cons, List.map_nil, lk, Nat.reduceEqDiff, reduceIte]
      (repeat refine TS.imp ?_)
      have hgn : ∀ j : Int, (j = 0 ∨ j ∈ os.take (k + 1)) → G j (ga [] (o.set i.toNat (f (ga [] o) i)) j) := fun j hj => by
        have hj0 : 0 ≤ j := by
          rcases hj with rfl | hj
          · exact Int.le_refl _
          · have := (hO.nd j (List.mem_of_mem_take hj)).1.1; omega
        rw [ga_set q6 q7 hj0]
        split
        · rename_i e; subst e; exact hGi
        · rename_i hne
          refine hgo j ?_
          rcases hj with hj | hj
          · exact .inl hj
          · rw [htk] at hj
            rcases List.mem_append.1 hj with hj | hj
            · exact .inr hj
            · exact absurd (by simpa using hj) hne
      have hset : (o.set i.toNat (f (ga [] o) i)).map insE = (o.map insE).set i.toNat [frD (f (ga [] o) i)] := by rw [List.map_set]; rfl
      refine d5 (.p true 0 (.p true 1 (.p true 2 (.p true 3 (.p true 4 (.p true 5 (.p true 6 (.p true 7 (.p true 8 (.p true 9 (.p true 10 (.p true 11 (.p true 12 (.p true 13 (.p true 14 (.p true 15 (.alt 16 (.p true 17 (.alt 18 .nil .nil)) .nil))))))))))))))))) [69] (by rw [hP]; kernel_rfl) (by kernel_rfl) (by simp only [go_sem, hP, hn]; try simp) (by exact fun _ _ h => h) ?_; intro K hK; simp only [go_sem, hP, hn]
      rw [hk2]
      simp only [go_sem, hP, hn]
      simp only [q1, q2, q5, q6, q7, q8, q9, q10, and_self, true_and, Nat.reduceLT, Nat.zero_lt_one]
      (repeat (refine ⟨by first | trivial | omega, ?_⟩))
      refine CallP_cs (by rw [hP, hT]; exact cN) rfl rfl rfl trivial (by simp only [go_sem, hP, hn]; try trivial) (by simp only [go_sem, hP, hn]; try rfl) (by rw [hn]; decide) ?_
      simp only [go_sem, hP, hn]
      simp only [q1, q2, q5, q6, q7, q8, q9, q10, and_self, true_and, Nat.reduceLT, Nat.zero_lt_one, List.length_map]
      (repeat (refine ⟨by first | trivial | omega, ?_⟩))
      refine hK _ ?_; clear K hK
      (repeat refine TS.imp ?_)
      have z3 : q - 1 < q := by omega
      have z4 : k + 1 + (q - 1) = os.length := by omega
      have z5 : (o.set i.toNat (f (ga [] o) i)).length = ns.length + 1 := by simp [hol]
      replace w3 := w3 ()
      refine TR.imp ?_; intro K hK; simp only [w3, go_sem, hP, hn]
      (repeat (refine ⟨by first | trivial | omega, ?_⟩))
      refine hK _ ?_; clear K hK
      (repeat refine TS.imp ?_)
      clear w3
      refine ⟨q - 1, _, z3, ?_, k + 1, o.set i.toNat (f (ga [] o) i), rfl, z4, z5, hro, hgn⟩
      have hse : setE (o.map insE) i.toNat 0 [D.row [D.nil] (List.map frE (f (ga [] o) i))] = (o.set i.toNat (f (ga [] o) i)).map insE := setE_ins o i.toNat _
      rw [← hse]
      exact (Le.mv (by simp only [go_sem, hP, hn]; first | done | (simp; done) | (simp [intC]; done) | (repeat (first | rfl | constructor))) (by simp only [go_sem, hP, hn]; first | done | (simp; done) | (simp [intC]; done) | (repeat (first | rfl | constructor))))
  have hk : k = os.length := by
    have : ¬ k < os.length := by simpa using hb
    omega
  subst hk
  rw [List.drop_length, ordL] at hro
  subst hro
  clear hb
  (repeat refine TS.imp ?_)
  refine TR.imp ?_; intro K hK; simp only [go_sem, hP, hn]; (repeat refine vc ?_); refine hK _ ?_; clear K hK
  (repeat refine TS.imp ?_)
  simp only [RetG, go_sem]; (repeat with_reducible refine vc ?_)
  all_goals omega
end
/-! the document's sat and round, over words -/
theorem Word_c {T : World → Prop} (Tm : TP T) (x : Int) : Ct Go.Proofs.Tryz.prog T 119 [.d (.i .i64 x)] true (fun r => r = .d (.b (fits32 x))) := by
  refine Ct_of Tm Go.Proofs.Tryz.func119 rfl rfl Go.Proofs.Tryz.ntmps119 (by simp) (rs := [.tmp 2]) rfl fun E hP hn hT => ?_
  (repeat (first | (refine TR.imp ?_; intro K hK; simp only [go_sem, hP, hn]; (repeat refine vc ?_); refine hK _ ?_; clear K hK) | refine TS.imp ?_))
  simp only [RetQ, go_sem]
  unfold fits32
  congr 2
  rw [Bool.eq_iff_iff]; simp; omega
theorem May32_c {T : World → Prop} (Tm : TP T) : Ct Go.Proofs.Tryz.prog T 133 [.d (.i .i64 32)] true (fun r => r = .d (.b true)) := by
  refine Ct_of Tm Go.Proofs.Tryz.func133 rfl rfl Go.Proofs.Tryz.ntmps133 (by simp) (rs := [.tmp 2]) rfl fun E hP hn hT => ?_
  (repeat (first | (refine TR.imp ?_; intro K hK; simp only [go_sem, hP, hn]; (repeat refine vc ?_); refine hK _ ?_; clear K hK) | refine TS.imp ?_))
  simp only [RetQ, go_sem]
  rfl
theorem pw_step : ∀ n : Fin 62, wrap64 (-(2 ^ n.val) * 2) = -(2 ^ (n.val + 1)) ∧ wrap64 (2 ^ n.val * 2) = 2 ^ (n.val + 1) := by decide +kernel
theorem Low32_c {T : World → Prop} (Tm : TP T) : Ct Go.Proofs.Tryz.prog T 134 [.d (.i .i64 32)] true (fun r => r = .d (.i .i64 (-2147483648))) := by
  refine Ct_of Tm Go.Proofs.Tryz.func134 rfl rfl Go.Proofs.Tryz.ntmps134 (by simp) (rs := [.tmp 2]) rfl fun E hP hn hT => ?_
  (repeat (first | (refine TR.imp ?_; intro K hK; simp only [go_sem, hP, hn]; (repeat refine vc ?_); refine hK _ ?_; clear K hK) | refine TS.imp ?_))
  refine Tr.loop (fun m s => ∃ (k : Nat), s = ⟨[(0, .d (.i .i64 32)), (3, .d (.i .i64 (-(2 ^ k)))), (4, .d (.i .i64 (k + 1 : Int)))], []⟩ ∧ k + m = 31) 31 ⟨_, (Le.mv (by simp only [go_sem, hP, hn]; first | done | (simp; done) | (simp [intC]; done) | (repeat (first | rfl | constructor))) (by simp only [go_sem, hP, hn]; first | done | (simp; done) | (simp [intC]; done) | (repeat (first | rfl | constructor)))), 0, rfl, rfl⟩ ?_
  rintro m s ⟨k, rfl, hk⟩
  (repeat (first | (refine TR.imp ?_; intro K hK; simp only [go_sem, hP, hn]; (repeat refine vc ?_); refine hK _ ?_; clear K hK) | refine TS.imp ?_))
  refine Tr.cond rfl (fun hb => ?_) (fun hb => ?_)
  · have hk1 : (k : Int) + 1 < 32 := by simpa using hb
    have hs := (pw_step ⟨k, by omega⟩).1
    simp only at hs
    (repeat (first | (refine TR.imp ?_; intro K hK; simp only [go_sem, hP, hn]; (repeat refine vc ?_); refine hK _ ?_; clear K hK) | refine TS.imp ?_))
    rw [w64 (x := (k : Int) + 1 + 1) (by omega) (by omega)]
    refine ⟨m - 1, _, by omega, ?_, k + 1, rfl, by omega⟩
    rw [← hs]
    exact (Le.mv (by simp only [go_sem, hP, hn]; first | done | (simp; done) | (simp [intC]; done) | (repeat (first | rfl | constructor))) (by simp only [go_sem, hP, hn]; first | done | (simp; done) | (simp [intC]; done) | (repeat (first | rfl | constructor))))
  · have hk1 : k = 31 := by have := of_decide_eq_false hb; omega
    subst hk1
    (repeat (first | (refine TR.imp ?_; intro K hK; simp only [go_sem, hP, hn]; (repeat refine vc ?_); refine hK _ ?_; clear K hK) | refine TS.imp ?_))
    simp only [RetQ, go_sem]
    rfl
theorem rClamp_c {T : World → Prop} (Tm : TP T) (x l h : Int) : Ct Go.Proofs.Tryz.prog T 95 [.d (.i .i64 x), .d (.i .i64 l), .d (.i .i64 h)] true (fun r => r = .d (.i .i64 (clampV x l h))) := by
  refine Ct_of Tm Go.Proofs.Tryz.func95 rfl rfl Go.Proofs.Tryz.ntmps95 (by simp) (rs := [.tmp 6]) rfl fun E hP hn hT => ?_
  (repeat (first | (refine TR.imp ?_; intro K hK; simp only [go_sem, hP, hn]; (repeat refine vc ?_); refine hK _ ?_; clear K hK) | refine TS.imp ?_))
  unfold clampV
  refine Tr.cond rfl (fun hb => ?_) (fun hb => ?_)
  · have h1 : x < l := by simpa using hb
    (repeat (first | (refine TR.imp ?_; intro K hK; simp only [go_sem, hP, hn]; (repeat refine vc ?_); refine hK _ ?_; clear K hK) | refine TS.imp ?_))
    simp only [RetQ, go_sem]
    simp [h1]
  · have h1 : ¬ x < l := by simpa using hb
    (repeat (first | (refine TR.imp ?_; intro K hK; simp only [go_sem, hP, hn]; (repeat refine vc ?_); refine hK _ ?_; clear K hK) | refine TS.imp ?_))
    refine Tr.cond rfl (fun hc => ?_) (fun hc => ?_)
    · have h2 : h < x := by simpa using hc
      (repeat (first | (refine TR.imp ?_; intro K hK; simp only [go_sem, hP, hn]; (repeat refine vc ?_); refine hK _ ?_; clear K hK) | refine TS.imp ?_))
      simp only [RetQ, go_sem]
      simp [h1, h2]
    · have h2 : ¬ h < x := by simpa using hc
      (repeat (first | (refine TR.imp ?_; intro K hK; simp only [go_sem, hP, hn]; (repeat refine vc ?_); refine hK _ ?_; clear K hK) | refine TS.imp ?_))
      simp only [RetQ, go_sem]
      simp [h1, h2]
theorem rSat_c {T : World → Prop} (Tm : TP T) (x : Int) : Ct Go.Proofs.Tryz.prog T 123 [.d (.i .i64 x), .d (.i .i64 32)] true (fun r => r = .d (.i .i64 (clampV x (-2147483648) 2147483647))) := by
  have e1 : wrap64 (-1 - -2147483648) = 2147483647 := w64 (by decide) (by decide)
  refine Ct_of Tm Go.Proofs.Tryz.func123 rfl rfl Go.Proofs.Tryz.ntmps123 (by simp) (rs := [.tmp 4]) rfl fun E hP hn hT => ?_
  (repeat refine TS.imp ?_)
  refine TR.imp ?_; intro K hK; simp only [go_sem, hP, hn]; (repeat refine vc ?_); refine hK _ ?_; clear K hK
  (repeat refine TS.imp ?_)
  refine TR.imp ?_; intro K hK; simp only [go_sem, hP, hn]; (repeat refine vc ?_); refine c1 (by rw [hP, hT]; exact May32_c Tm) rfl rfl rfl trivial (by simp only [go_sem, hP, hn]; try trivial) (by simp only [go_sem, hP, hn]; try rfl) (by rw [hn]; decide) (by rfl) ?_; simp only [go_sem, hP, hn]; (repeat refine vc ?_); refine hK _ ?_; clear K hK
  (repeat refine TS.imp ?_)
  refine TR.imp ?_; intro K hK; simp only [go_sem, hP, hn]; (repeat refine vc ?_); refine hK _ ?_; clear K hK
  (repeat refine TS.imp ?_)
  refine Tr.cond rfl (fun hb => ?_) (fun hb => ?_)
  · exact absurd hb (by decide)
  (repeat refine TS.imp ?_)
  refine TR.imp ?_; intro K hK; simp only [go_sem, hP, hn]; (repeat refine vc ?_); refine c1 (by rw [hP, hT]; exact Low32_c Tm) rfl rfl rfl trivial (by simp only [go_sem, hP, hn]; try trivial) (by simp only [go_sem, hP, hn]; try rfl) (by rw [hn]; decide) (by rfl) ?_; simp only [go_sem, hP, hn]; (repeat refine vc ?_); refine hK _ ?_; clear K hK
  (repeat refine TS.imp ?_)
  refine TR.imp ?_; intro K hK; simp only [e1, go_sem, hP, hn]
  (repeat refine vc ?_)
  refine c1 (by rw [hP, hT]; exact rClamp_c Tm x (-2147483648) 2147483647) rfl rfl rfl trivial (by simp only [go_sem, hP, hn]; try trivial) (by simp only [go_sem, hP, hn]; try rfl) (by rw [hn]; decide) (by rfl) ?_; simp only [go_sem, hP, hn]; (repeat refine vc ?_)
  refine hK _ ?_; clear K hK
  (repeat refine TS.imp ?_)
  simp only [RetQ, go_sem]
theorem plus_c {T : World → Prop} (Tm : TP T) (x n : Int) (hx : in32 x) (hn' : in32 n) : Ct Go.Proofs.Tryz.prog T 124 [.d (.i .i64 n), .d (.i .i64 x)] true (fun r => r = .d (.i .i64 (n + x))) := by
  obtain ⟨hx0, hx1⟩ := hx
  obtain ⟨hn0, hn1⟩ := hn'
  have e1 : wrap64 (9223372036854775807 - x) = if 0 ≤ x then 9223372036854775807 - x else wrap64 (9223372036854775807 - x) := by
    split
    · exact w64 (by omega) (by omega)
    · rfl
  have e2 : wrap64 (-9223372036854775808 - x) = if x ≤ 0 then -9223372036854775808 - x else wrap64 (-9223372036854775808 - x) := by
    split
    · exact w64 (by omega) (by omega)
    · rfl
  refine Ct_of Tm Go.Proofs.Tryz.func124 rfl rfl Go.Proofs.Tryz.ntmps124 (by simp) (rs := [.tmp 4]) rfl fun E hP hn hT => ?_
  (repeat refine TS.imp ?_)
  refine TR.imp ?_; intro K hK; simp only [go_sem, hP, hn]; (repeat refine vc ?_); refine hK _ ?_; clear K hK
  (repeat refine TS.imp ?_)
  refine TR.imp ?_; intro K hK; simp only [go_sem, hP, hn]; (repeat refine vc ?_); refine hK _ ?_; clear K hK
  (repeat refine TS.imp ?_)
  refine Tr.cond rfl (fun hb => ?_) (fun hb => ?_)
  · exfalso
    simp only [Bool.and_eq_true, decide_eq_true_eq] at hb
    rw [e1, if_pos (by omega)] at hb
    omega
  (repeat refine TS.imp ?_)
  refine TR.imp ?_; intro K hK; simp only [go_sem, hP, hn]; (repeat refine vc ?_); refine hK _ ?_; clear K hK
  (repeat refine TS.imp ?_)
  refine Tr.cond rfl (fun hc => ?_) (fun hc => ?_)
  · exfalso
    simp only [Bool.and_eq_true, decide_eq_true_eq] at hc
    rw [e2, if_pos (by omega)] at hc
    omega
  (repeat (first | (refine TR.imp ?_; intro K hK; simp only [go_sem, hP, hn]; (repeat refine vc ?_); refine hK _ ?_; clear K hK) | refine TS.imp ?_))
  simp only [RetQ, go_sem]
  rw [w64 (x := n + x) (by omega) (by omega)]
theorem rAdd_c {T : World → Prop} (Tm : TP T) (xs : List Int) (hl : xs.length ≤ 65536) (hx : ∀ x ∈ xs, in32 x) : Ct Go.Proofs.Tryz.prog T 94 [.d (.i .i64 32), .d (.row [.i .i64 0] (xs.map intC))] true (fun r => r = .d (.i .i64 (addV xs))) := by
  refine Ct_of Tm Go.Proofs.Tryz.func94 rfl rfl Go.Proofs.Tryz.ntmps94 (by simp) (rs := [.tmp 4]) rfl fun E hP hn hT => ?_
  (repeat (first | (refine TR.imp ?_; intro K hK; simp only [go_sem, hP, hn]; (repeat refine vc ?_); refine hK _ ?_; clear K hK) | refine TS.imp ?_))
  refine Tr.loop (fun m s => ∃ (i : Int), s = ⟨[(0, .d (.i .i64 32)), (1, .d (.row [.i .i64 0] (xs.map intC))), (5, .d (.i .i64 (addV (xs.take i.toNat)))), (6, .d (.i .i64 i))], []⟩ ∧ 0 ≤ i ∧ i + m = xs.length) xs.length ⟨_, (Le.mv (by simp only [go_sem, hP, hn]; first | done | (simp; done) | (simp [intC]; done) | (repeat (first | rfl | constructor))) (by simp only [go_sem, hP, hn]; first | done | (simp; done) | (simp [intC]; done) | (repeat (first | rfl | constructor)))), 0, rfl, by omega, by omega⟩ ?_
  rintro m s ⟨i, rfl, hi, him⟩
  (repeat (first | (refine TR.imp ?_; intro K hK; simp only [go_sem, hP, hn]; (repeat refine vc ?_); refine hK _ ?_; clear K hK) | refine TS.imp ?_))
  refine Tr.cond rfl (fun hb => ?_) (fun hb => ?_)
  · have hi1 : i < xs.length := by simpa using hb
    have hk : i.toNat < xs.length := by omega
    have hrd : rd xs i = xs[i.toNat] := by unfold rd; simp [hk]
    have hxi := hx xs[i.toNat] (List.getElem_mem hk)
    clear hb
    (repeat refine TS.imp ?_)
    refine TR.imp ?_; intro K hK; simp only [go_sem, hP, hn]; (repeat refine vc ?_); refine c1 (by rw [hP, hT]; exact plus_c Tm (rd xs i) (addV (xs.take i.toNat)) (hrd ▸ hxi) (add_in _)) rfl rfl rfl trivial (by simp only [go_sem, hP, hn]; try trivial) (by simp only [go_sem, hP, hn]; try rfl) (by rw [hn]; decide) (by rfl) ?_; simp only [go_sem, hP, hn]; (repeat refine vc ?_); refine c1 (by rw [hP, hT]; exact rSat_c Tm (addV (xs.take i.toNat) + rd xs i)) rfl rfl rfl trivial (by simp only [go_sem, hP, hn]; try trivial) (by simp only [go_sem, hP, hn]; try rfl) (by rw [hn]; decide) (by rfl) ?_; simp only [go_sem, hP, hn]; (repeat refine vc ?_); refine hK _ ?_; clear K hK
    (repeat (first | (refine TR.imp ?_; intro K hK; simp only [go_sem, hP, hn]; (repeat refine vc ?_); refine hK _ ?_; clear K hK) | refine TS.imp ?_))
    rw [w64 (x := i + 1) (by omega) (by omega), hrd, ← add_take xs i.toNat hk]
    refine ⟨m - 1, _, by omega, ?_, i + 1, rfl, by omega, by omega⟩
    rw [show (i + 1).toNat = i.toNat + 1 by omega]
    exact (Le.mv (by simp only [go_sem, hP, hn]; first | done | (simp; done) | (simp [intC]; done) | (repeat (first | rfl | constructor))) (by simp only [go_sem, hP, hn]; first | done | (simp; done) | (simp [intC]; done) | (repeat (first | rfl | constructor))))
  · have hie : i = xs.length := by have := of_decide_eq_false hb; omega
    subst hie
    rw [Int.toNat_natCast, List.take_length]
    (repeat (first | (refine TR.imp ?_; intro K hK; simp only [go_sem, hP, hn]; (repeat refine vc ?_); refine hK _ ?_; clear K hK) | refine TS.imp ?_))
    simp only [RetQ, go_sem]
theorem rSum_c {T : World → Prop} (Tm : TP T) (xs : List Int) (hl : xs.length ≤ 65536) (hx : ∀ x ∈ xs, in32 x) : Ct Go.Proofs.Tryz.prog T 121 [.d (.row [.i .i64 0] (xs.map intC))] true (fun r => r = .agg [.d (.i .i64 xs.sum), .d (.b true)]) := by
  refine Ct_of Tm Go.Proofs.Tryz.func121 rfl rfl Go.Proofs.Tryz.ntmps121 (by simp) (rs := [.cell 2 116]) rfl fun E hP hn hT => ?_
  (repeat (first | (refine TR.imp ?_; intro K hK; simp only [go_sem, hP, hn]; (repeat refine vc ?_); refine hK _ ?_; clear K hK) | refine TS.imp ?_))
  refine Tr.loop (fun m s => ∃ (i : Int), s = ⟨[(0, .d (.row [.i .i64 0] (xs.map intC))), (2, .ptr 2 0), (5, .d (.i .i64 i)), (3, .d (.i .i64 (hiS (xs.take i.toNat)))), (4, .d (.i .i64 (loS (xs.take i.toNat))))], [(2, .box 116 [.d (.i .i64 0), .d (.b false)])]⟩ ∧ 0 ≤ i ∧ i + m = xs.length) xs.length ⟨_, (Le.mv (by simp only [go_sem, hP, hn]; first | done | (simp; done) | (simp [intC]; done) | (repeat (first | rfl | constructor))) (by simp only [go_sem, hP, hn]; first | done | (simp; done) | (simp [intC]; done) | (repeat (first | rfl | constructor)))), 0, rfl, by omega, by omega⟩ ?_
  rintro m s ⟨i, rfl, hi, him⟩
  (repeat (first | (refine TR.imp ?_; intro K hK; simp only [go_sem, hP, hn]; (repeat refine vc ?_); refine hK _ ?_; clear K hK) | refine TS.imp ?_))
  refine Tr.cond rfl (fun hb => ?_) (fun hb => ?_)
  · have hi1 : i < xs.length := by simpa using hb
    have hk : i.toNat < xs.length := by omega
    have h1 := hi_take xs i.toNat hk
    have h2 := lo_take xs i.toNat hk
    have h3 := hi32 (xs.take i.toNat) (fun x h => hx x (List.mem_of_mem_take h))
    have h4 := lo_range (xs.take i.toNat)
    have hlt : (xs.take i.toNat).length ≤ 65536 := by rw [List.length_take]; omega
    have hrd : rd xs i = xs[i.toNat] := by unfold rd; simp [hk]
    have hxi := hx xs[i.toNat] (List.getElem_mem hk)
    unfold in32 at hxi
    (repeat (first | (refine TR.imp ?_; intro K hK; simp only [go_sem, hP, hn]; (repeat refine vc ?_); refine hK _ ?_; clear K hK) | refine TS.imp ?_))
    rw [hrd, fd32, am32, w64 (x := i + 1) (by omega) (by omega), w64 (x := hiS (xs.take i.toNat) + xs[i.toNat] / 4294967296) (by omega) (by omega), w64 (x := loS (xs.take i.toNat) + xs[i.toNat] % 4294967296) (by omega) (by omega), ← h1, ← h2]
    refine ⟨m - 1, _, by omega, ?_, i + 1, rfl, by omega, by omega⟩
    rw [show (i + 1).toNat = i.toNat + 1 by omega]
    exact (Le.mv (by simp only [go_sem, hP, hn]; first | done | (simp; done) | (simp [intC]; done) | (repeat (first | rfl | constructor))) (by simp only [go_sem, hP, hn]; first | done | (simp; done) | (simp [intC]; done) | (repeat (first | rfl | constructor))))
  · have hie : i = xs.length := by have := of_decide_eq_false hb; omega
    subst hie
    rw [Int.toNat_natCast, List.take_length]
    have h3 := hi32 xs hx
    have h4 := lo_range xs
    have h5 := hi_lo xs
    have h6 : wrap64 (hiS xs + loS xs / 4294967296) = hiS xs + loS xs / 4294967296 := w64 (by omega) (by omega)
    (repeat refine TS.imp ?_)
    refine TR.imp ?_; intro K hK; simp only [fd32, am32, h6, go_sem, hP, hn]; (repeat refine vc ?_); refine hK _ ?_; clear K hK
    (repeat refine TS.imp ?_)
    refine TR.imp ?_; intro K hK; simp only [fd32, am32, h6, go_sem, hP, hn]; (repeat refine vc ?_); refine hK _ ?_; clear K hK
    (repeat refine TS.imp ?_)
    refine TR.imp ?_; intro K hK; simp only [fd32, am32, h6, go_sem, hP, hn]; (repeat refine vc ?_); refine hK _ ?_; clear K hK
    (repeat refine TS.imp ?_)
    refine Tr.cond rfl (fun hc => ?_) (fun hc => ?_)
    · exfalso
      simp at hc
      omega
    clear hc
    (repeat (first | (refine TR.imp ?_; intro K hK; simp only [go_sem, hP, hn]; (repeat refine vc ?_); refine hK _ ?_; clear K hK) | refine TS.imp ?_))
    simp only [RetQ, go_sem]
    rw [show (hiS xs + loS xs / 4294967296) * 2 ^ min 32 64 = (hiS xs + loS xs / 4294967296) * 4294967296 by rw [show (2 : Int) ^ min 32 64 = 4294967296 by decide], w64 (x := (hiS xs + loS xs / 4294967296) * 4294967296) (by omega) (by omega), show (hiS xs + loS xs / 4294967296) * 4294967296 + loS xs % 4294967296 = xs.sum by omega]
    rw [w64 (x := xs.sum) (by omega) (by omega)]
    exact ⟨by decide, rfl⟩
theorem Quot_c {T : World → Prop} (Tm : TP T) (x n : Int) (h0 : -4611686018427387904 ≤ x) (h1 : x ≤ 4611686018427387904) (n0 : 1 ≤ n) (n1 : n ≤ 4611686018427387904) : Ct Go.Proofs.Tryz.prog T 131 [.d (.i .i64 x), .d (.i .i64 n)] true (fun r => r = .d (.i .i64 (x / n))) := by
  have hb2 := ediv_bounds (x := x) n0
  have hp := parts_t (x := x) n0
  have hq : wrap64 (Int.tdiv x n) = Int.tdiv x n := by
    rcases Decidable.em (Int.tmod x n < 0) with h | h
    · have := hp.1 h; exact w64 (by omega) (by omega)
    · have := hp.2 h; exact w64 (by omega) (by omega)
  refine Ct_of Tm Go.Proofs.Tryz.func131 rfl rfl Go.Proofs.Tryz.ntmps131 (by simp) (rs := [.tmp 4]) rfl fun E hP hn hT => ?_
  (repeat refine TS.imp ?_)
  refine TR.imp ?_; intro K hK; simp only [go_sem, hP, hn]; (repeat refine vc ?_); refine hK _ ?_; clear K hK
  (repeat refine TS.imp ?_)
  refine TR.imp ?_; intro K hK; simp only [hq, go_sem, hP, hn]; (repeat refine vc ?_); refine hK _ ?_; clear K hK
  (repeat refine TS.imp ?_)
  refine TR.imp ?_; intro K hK; simp only [hq, go_sem, hP, hn]; (repeat refine vc ?_); refine hK _ ?_; clear K hK
  (repeat refine TS.imp ?_)
  refine Tr.cond rfl (fun hb => ?_) (fun hb => ?_)
  · have hc : Int.tmod x n < 0 := by simpa using hb
    have := hp.1 hc
    (repeat (first | (refine TR.imp ?_; intro K hK; simp only [go_sem, hP, hn]; (repeat refine vc ?_); refine hK _ ?_; clear K hK) | refine TS.imp ?_))
    simp only [RetQ, go_sem]
    rw [w64 (x := Int.tdiv x n - 1) (by omega) (by omega), this.1]
  · have hc : ¬ Int.tmod x n < 0 := by simpa using hb
    have := hp.2 hc
    (repeat (first | (refine TR.imp ?_; intro K hK; simp only [go_sem, hP, hn]; (repeat refine vc ?_); refine hK _ ?_; clear K hK) | refine TS.imp ?_))
    simp only [RetQ, go_sem]
    rw [this.1]
theorem Rest_c {T : World → Prop} (Tm : TP T) (x n : Int) (h0 : -4611686018427387904 ≤ x) (h1 : x ≤ 4611686018427387904) (n0 : 1 ≤ n) (n1 : n ≤ 4611686018427387904) : Ct Go.Proofs.Tryz.prog T 132 [.d (.i .i64 x), .d (.i .i64 n)] true (fun r => r = .d (.i .i64 (x % n))) := by
  have e := Int.emod_add_mul_ediv x n
  have m1 := Int.emod_nonneg x (show n ≠ 0 by omega)
  have m2 := Int.emod_lt_of_pos x (show 0 < n by omega)
  have e2 : x / n * n = x - x % n := by rw [Int.mul_comm]; omega
  refine Ct_of Tm Go.Proofs.Tryz.func132 rfl rfl Go.Proofs.Tryz.ntmps132 (by simp) (rs := [.tmp 4]) rfl fun E hP hn hT => ?_
  (repeat refine TS.imp ?_)
  refine TR.imp ?_; intro K hK; simp only [go_sem, hP, hn]; (repeat refine vc ?_); refine hK _ ?_; clear K hK
  (repeat refine TS.imp ?_)
  refine TR.imp ?_; intro K hK; simp only [go_sem, hP, hn]; (repeat refine vc ?_); refine c1 (by rw [hP, hT]; exact Quot_c Tm x n h0 h1 n0 n1) rfl rfl rfl trivial (by simp only [go_sem, hP, hn]; try trivial) (by simp only [go_sem, hP, hn]; try rfl) (by rw [hn]; decide) (by rfl) ?_; simp only [go_sem, hP, hn]; (repeat refine vc ?_); refine hK _ ?_; clear K hK
  (repeat (first | (refine TR.imp ?_; intro K hK; simp only [go_sem, hP, hn]; (repeat refine vc ?_); refine hK _ ?_; clear K hK) | refine TS.imp ?_))
  simp only [RetQ, go_sem]
  rw [e2, w64 (x := x - x % n) (by omega) (by omega), w64 (by omega) (by omega)]
  congr 2
  omega
theorem rDiv_c {T : World → Prop} (Tm : TP T) (x n : Int) (h0 : -4611686018427387904 ≤ x) (h1 : x ≤ 4611686018427387904) (n0 : 1 ≤ n) (n1 : n ≤ 4611686018427387904) : Ct Go.Proofs.Tryz.prog T 122 [.d (.i .i64 x), .d (.i .i64 n)] true (fun r => r = .d (.i .i64 (divV x n))) := by
  have hb2 := ediv_bounds (x := x) n0
  have m1 := Int.emod_nonneg x (show n ≠ 0 by omega)
  have m2 := Int.emod_lt_of_pos x (show 0 < n by omega)
  have e1 : wrap64 (n - x % n) = n - x % n := w64 (by omega) (by omega)
  refine Ct_of Tm Go.Proofs.Tryz.func122 rfl rfl Go.Proofs.Tryz.ntmps122 (by simp) (rs := [.tmp 4]) rfl fun E hP hn hT => ?_
  (repeat refine TS.imp ?_)
  refine TR.imp ?_; intro K hK; simp only [go_sem, hP, hn]; (repeat refine vc ?_); refine hK _ ?_; clear K hK
  (repeat refine TS.imp ?_)
  refine TR.imp ?_; intro K hK; simp only [go_sem, hP, hn]; (repeat refine vc ?_); refine hK _ ?_; clear K hK
  (repeat refine TS.imp ?_)
  refine Tr.cond rfl (fun hb => ?_) (fun hb => ?_)
  · have := of_decide_eq_true hb; omega
  clear hb
  (repeat refine TS.imp ?_)
  refine TR.imp ?_; intro K hK; simp only [go_sem, hP, hn]; (repeat refine vc ?_); refine c1 (by rw [hP, hT]; exact Quot_c Tm x n h0 h1 n0 n1) rfl rfl rfl trivial (by simp only [go_sem, hP, hn]; try trivial) (by simp only [go_sem, hP, hn]; try rfl) (by rw [hn]; decide) (by rfl) ?_; simp only [go_sem, hP, hn]; (repeat refine vc ?_); refine hK _ ?_; clear K hK
  (repeat refine TS.imp ?_)
  refine TR.imp ?_; intro K hK; simp only [go_sem, hP, hn]; (repeat refine vc ?_); refine c1 (by rw [hP, hT]; exact Rest_c Tm x n h0 h1 n0 n1) rfl rfl rfl trivial (by simp only [go_sem, hP, hn]; try trivial) (by simp only [go_sem, hP, hn]; try rfl) (by rw [hn]; decide) (by rfl) ?_; simp only [go_sem, hP, hn]; (repeat refine vc ?_); refine hK _ ?_; clear K hK
  (repeat refine TS.imp ?_)
  refine TR.imp ?_; intro K hK; simp only [e1, go_sem, hP, hn]; (repeat refine vc ?_); refine hK _ ?_; clear K hK
  (repeat refine TS.imp ?_)
  unfold divV
  rw [if_neg (show ¬ n < 1 by omega), div_split n0]
  refine Tr.cond rfl (fun hb => ?_) (fun hb => ?_)
  · have hc : n ≤ 2 * (x % n) := by have := of_decide_eq_true hb; omega
    (repeat (first | (refine TR.imp ?_; intro K hK; simp only [go_sem, hP, hn]; (repeat refine vc ?_); refine hK _ ?_; clear K hK) | refine TS.imp ?_))
    simp only [RetQ, go_sem]
    rw [w64 (x := x / n + 1) (by omega) (by omega), if_pos hc]
  · have hc : ¬ n ≤ 2 * (x % n) := by have := of_decide_eq_false hb; omega
    (repeat (first | (refine TR.imp ?_; intro K hK; simp only [go_sem, hP, hn]; (repeat refine vc ?_); refine hK _ ?_; clear K hK) | refine TS.imp ?_))
    simp only [RetQ, go_sem]
    rw [if_neg hc, Int.add_zero]
theorem power_c {T : World → Prop} (Tm : TP T) (n : Int) (h0 : 0 ≤ n) (h1 : n ≤ 30) : Ct Go.Proofs.Tryz.prog T 135 [.d (.i .i64 n)] true (fun r => r = .d (.i .i64 (2 ^ n.toNat))) := by
  refine Ct_of Tm Go.Proofs.Tryz.func135 rfl rfl Go.Proofs.Tryz.ntmps135 (by simp) (rs := [.tmp 2]) rfl fun E hP hn hT => ?_
  (repeat (first | (refine TR.imp ?_; intro K hK; simp only [go_sem, hP, hn]; (repeat refine vc ?_); refine hK _ ?_; clear K hK) | refine TS.imp ?_))
  refine Tr.loop (fun m s => ∃ (k : Nat), s = ⟨[(0, .d (.i .i64 n)), (3, .d (.i .i64 (2 ^ k))), (4, .d (.i .i64 (k : Int)))], []⟩ ∧ (k + m : Int) = n) n.toNat ⟨_, (Le.mv (by simp only [go_sem, hP, hn]; first | done | (simp; done) | (simp [intC]; done) | (repeat (first | rfl | constructor))) (by simp only [go_sem, hP, hn]; first | done | (simp; done) | (simp [intC]; done) | (repeat (first | rfl | constructor)))), 0, rfl, by omega⟩ ?_
  rintro m s ⟨k, rfl, hk⟩
  (repeat (first | (refine TR.imp ?_; intro K hK; simp only [go_sem, hP, hn]; (repeat refine vc ?_); refine hK _ ?_; clear K hK) | refine TS.imp ?_))
  refine Tr.cond rfl (fun hb => ?_) (fun hb => ?_)
  · have hk1 : (k : Int) < n := by simpa using hb
    have hs := (pw_step ⟨k, by omega⟩).2
    simp only at hs
    (repeat (first | (refine TR.imp ?_; intro K hK; simp only [go_sem, hP, hn]; (repeat refine vc ?_); refine hK _ ?_; clear K hK) | refine TS.imp ?_))
    rw [w64 (x := (k : Int) + 1) (by omega) (by omega)]
    refine ⟨m - 1, _, by omega, ?_, k + 1, rfl, by omega⟩
    rw [← hs]
    exact (Le.mv (by simp only [go_sem, hP, hn]; first | done | (simp; done) | (simp [intC]; done) | (repeat (first | rfl | constructor))) (by simp only [go_sem, hP, hn]; first | done | (simp; done) | (simp [intC]; done) | (repeat (first | rfl | constructor))))
  · have hk1 : n = k := by have := of_decide_eq_false hb; omega
    subst hk1
    (repeat (first | (refine TR.imp ?_; intro K hK; simp only [go_sem, hP, hn]; (repeat refine vc ?_); refine hK _ ?_; clear K hK) | refine TS.imp ?_))
    simp only [RetQ, go_sem]
theorem rHalf_c {T : World → Prop} (Tm : TP T) (p k : Int) (h0 : -4611686018427387904 ≤ p) (h1 : p ≤ 4611686018427387904) (k0 : 0 ≤ k) (k1 : k ≤ 30) : Ct Go.Proofs.Tryz.prog T 126 [.d (.i .i64 p), .d (.i .i64 k)] true (fun r => r = .d (.i .i64 (halfV p k))) := by
  have hp := pow_two_le k0 k1
  refine Ct_of Tm Go.Proofs.Tryz.func126 rfl rfl Go.Proofs.Tryz.ntmps126 (by simp) (rs := [.tmp 4]) rfl fun E hP hn hT => ?_
  (repeat (first | (refine TR.imp ?_; intro K hK; simp only [go_sem, hP, hn]; (repeat refine vc ?_); refine hK _ ?_; clear K hK) | refine TS.imp ?_))
  refine Tr.cond rfl (fun hb => ?_) (fun hb => ?_)
  · exfalso; simp at hb; omega
  (repeat refine TS.imp ?_)
  refine TR.imp ?_; intro K hK; simp only [go_sem, hP, hn]; (repeat refine vc ?_); refine c1 (by rw [hP, hT]; exact power_c Tm k k0 k1) rfl rfl rfl trivial (by simp only [go_sem, hP, hn]; try trivial) (by simp only [go_sem, hP, hn]; try rfl) (by rw [hn]; decide) (by rfl) ?_; simp only [go_sem, hP, hn]; (repeat refine vc ?_); refine c1 (by rw [hP, hT]; exact rDiv_c Tm p (2 ^ k.toNat) h0 h1 hp.1 (by omega)) rfl rfl rfl trivial (by simp only [go_sem, hP, hn]; try trivial) (by simp only [go_sem, hP, hn]; try rfl) (by rw [hn]; decide) (by rfl) ?_; simp only [go_sem, hP, hn]; (repeat refine vc ?_); refine hK _ ?_; clear K hK
  (repeat (first | (refine TR.imp ?_; intro K hK; simp only [go_sem, hP, hn]; (repeat refine vc ?_); refine hK _ ?_; clear K hK) | refine TS.imp ?_))
  simp only [RetQ, go_sem]
  unfold halfV
  rw [if_pos (by omega)]
theorem rMul_c {T : World → Prop} (Tm : TP T) (x m : Int) (hx : in32 x) (m0 : 0 ≤ m) (m1 : m ≤ 32767) : Ct Go.Proofs.Tryz.prog T 125 [.d (.i .i64 x), .d (.i .i64 m)] true (fun r => r = .agg [.d (.i .i64 (x * m)), .d (.b true)]) := by
  obtain ⟨hx0, hx1⟩ := hx
  have hm : -2147483648 * 32767 ≤ x * m ∧ x * m ≤ 2147483647 * 32767 := by
    constructor
    · have a1 : -2147483648 * m ≤ x * m := Int.mul_le_mul_of_nonneg_right hx0 m0
      omega
    · have a1 : x * m ≤ 2147483647 * m := Int.mul_le_mul_of_nonneg_right hx1 m0
      omega
  refine Ct_of Tm Go.Proofs.Tryz.func125 rfl rfl Go.Proofs.Tryz.ntmps125 (by simp) (rs := [.cell 4 116]) rfl fun E hP hn hT => ?_
  (repeat (first | (refine TR.imp ?_; intro K hK; simp only [go_sem, hP, hn]; (repeat refine vc ?_); refine hK _ ?_; clear K hK) | refine TS.imp ?_))
  refine Tr.cond rfl (fun hb => ?_) (fun hb => ?_)
  · have hz : x * m = 0 := by
      simp at hb
      rcases hb with h | h <;> simp [h]
    (repeat (first | (refine TR.imp ?_; intro K hK; simp only [go_sem, hP, hn]; (repeat refine vc ?_); refine hK _ ?_; clear K hK) | refine TS.imp ?_))
    simp only [RetQ, go_sem]
    rw [hz]
    exact ⟨by decide, rfl⟩
  · have hz : x ≠ 0 ∧ m ≠ 0 := by
      simp at hb; exact hb
    obtain ⟨hz1, hz2⟩ := hz
    have hw : wrap64 (x * m) = x * m := w64 (by omega) (by omega)
    have hq : Int.tdiv (x * m) m = x := Int.mul_tdiv_cancel x hz2
    clear hb
    (repeat refine TS.imp ?_)
    refine TR.imp ?_; intro K hK; simp only [go_sem, hP, hn]; (repeat refine vc ?_); refine hK _ ?_; clear K hK
    (repeat refine TS.imp ?_)
    refine Tr.cond rfl (fun hc => ?_) (fun hc => ?_)
    · exfalso
      simp only [Bool.or_eq_true, Bool.and_eq_true, beq_iff_eq] at hc
      omega
    clear hc
    (repeat refine TS.imp ?_)
    refine TR.imp ?_; intro K hK; simp only [hw, go_sem, hP, hn]; (repeat refine vc ?_); refine hK _ ?_; clear K hK
    (repeat refine TS.imp ?_)
    refine TR.imp ?_; intro K hK; simp only [hw, hq, go_sem, hP, hn]; (repeat refine vc ?_); refine hK _ ?_; clear K hK
    (repeat refine TS.imp ?_)
    rw [w64 (x := x) (by omega) (by omega)]
    refine Tr.cond rfl (fun hc => ?_) (fun hc => ?_)
    · exfalso; simp at hc
    (repeat (first | (refine TR.imp ?_; intro K hK; simp only [go_sem, hP, hn]; (repeat refine vc ?_); refine hK _ ?_; clear K hK) | refine TS.imp ?_))
    simp only [RetQ, go_sem]
    decide
theorem rScale_c {T : World → Prop} (Tm : TP T) (x m s : Int) (hx : in32 x) : Ct Go.Proofs.Tryz.prog T 96 [.d (.i .i64 x), .d (.i .i64 m), .d (.i .i64 s)] true (fun r => r = .d (.i .i64 (scaleV x m s))) := by
  refine Ct_of Tm Go.Proofs.Tryz.func96 rfl rfl Go.Proofs.Tryz.ntmps96 (by simp) (rs := [.tmp 6]) rfl fun E hP hn hT => ?_
  (repeat (first | (refine TR.imp ?_; intro K hK; simp only [go_sem, hP, hn]; (repeat refine vc ?_); refine hK _ ?_; clear K hK) | refine TS.imp ?_))
  unfold scaleV
  refine Tr.cond rfl (fun hb => ?_) (fun hb => ?_)
  · have h : ¬ (0 ≤ m ∧ m ≤ 32767 ∧ 0 ≤ s ∧ s ≤ 30) := by
      intro h
      simp only [Bool.or_eq_true, decide_eq_true_eq] at hb
      omega
    (repeat (first | (refine TR.imp ?_; intro K hK; simp only [go_sem, hP, hn]; (repeat refine vc ?_); refine hK _ ?_; clear K hK) | refine TS.imp ?_))
    simp only [RetQ, go_sem]
    rw [if_neg h]
  · have h : 0 ≤ m ∧ m ≤ 32767 ∧ 0 ≤ s ∧ s ≤ 30 := by
      simp only [Bool.or_eq_false_iff, decide_eq_false_iff_not] at hb
      omega
    clear hb
    have hm : -2147483648 * 32767 ≤ x * m ∧ x * m ≤ 2147483647 * 32767 := by
      constructor
      · have a1 : -2147483648 * m ≤ x * m := Int.mul_le_mul_of_nonneg_right hx.1 h.1
        omega
      · have a1 : x * m ≤ 2147483647 * m := Int.mul_le_mul_of_nonneg_right hx.2 h.1
        omega
    rw [if_pos h]
    (repeat refine TS.imp ?_)
    refine TR.imp ?_; intro K hK; simp only [go_sem, hP, hn]; (repeat refine vc ?_); refine c1 (by rw [hP, hT]; exact rMul_c Tm x m hx h.1 h.2.1) rfl rfl rfl trivial (by simp only [go_sem, hP, hn]; try trivial) (by simp only [go_sem, hP, hn]; try rfl) (by rw [hn]; decide) (by rfl) ?_; simp only [go_sem, hP, hn]; (repeat refine vc ?_); refine hK _ ?_; clear K hK
    generalize x * m = p at hm ⊢
    (repeat refine TS.imp ?_)
    refine TR.imp ?_; intro K hK; simp only [go_sem, hP, hn]; (repeat refine vc ?_); refine hK _ ?_; clear K hK
    (repeat refine TS.imp ?_)
    refine Tr.cond rfl (fun hb => ?_) (fun hb => ?_)
    · exact absurd hb (by simp)
    (repeat refine TS.imp ?_)
    refine TR.imp ?_; intro K hK; simp only [go_sem, hP, hn]; (repeat refine vc ?_); refine hK _ ?_; clear K hK
    (repeat refine TS.imp ?_)
    refine Tr.cond rfl (fun hc => ?_) (fun hc => ?_)
    · exact absurd hc (by simp)
    (repeat refine TS.imp ?_)
    refine TR.imp ?_; intro K hK; simp only [go_sem, hP, hn]; (repeat refine vc ?_); refine c1 (by rw [hP, hT]; exact rHalf_c Tm p s (by omega) (by omega) h.2.2.1 h.2.2.2) rfl rfl rfl trivial (by simp only [go_sem, hP, hn]; try trivial) (by simp only [go_sem, hP, hn]; try rfl) (by rw [hn]; decide) (by rfl) ?_; simp only [go_sem, hP, hn]; (repeat refine vc ?_); refine c1 (by rw [hP, hT]; exact rSat_c Tm (halfV p s)) rfl rfl rfl trivial (by simp only [go_sem, hP, hn]; try trivial) (by simp only [go_sem, hP, hn]; try rfl) (by rw [hn]; decide) (by rfl) ?_; simp only [go_sem, hP, hn]; (repeat refine vc ?_); refine hK _ ?_; clear K hK
    (repeat (first | (refine TR.imp ?_; intro K hK; simp only [go_sem, hP, hn]; (repeat refine vc ?_); refine hK _ ?_; clear K hK) | refine TS.imp ?_))
    simp only [RetQ, go_sem]
theorem rMean_c {T : World → Prop} (Tm : TP T) (xs : List Int) (l0 : 1 ≤ xs.length) (hl : xs.length ≤ 65536) (hx : ∀ x ∈ xs, in32 x) : Ct Go.Proofs.Tryz.prog T 93 [.d (.row [.i .i64 0] (xs.map intC))] true (fun r => r = .d (.i .i64 (meanV xs))) := by
  have hs := sum32 xs hx
  refine Ct_of Tm Go.Proofs.Tryz.func93 rfl rfl Go.Proofs.Tryz.ntmps93 (by simp) (rs := [.tmp 2]) rfl fun E hP hn hT => ?_
  (repeat refine TS.imp ?_)
  refine TR.imp ?_; intro K hK; simp only [go_sem, hP, hn]; (repeat refine vc ?_); refine hK _ ?_; clear K hK
  (repeat refine TS.imp ?_)
  refine TR.imp ?_; intro K hK; simp only [go_sem, hP, hn]; (repeat refine vc ?_); refine c1 (by rw [hP, hT]; exact rSum_c Tm xs hl hx) rfl rfl rfl trivial (by simp only [go_sem, hP, hn]; try trivial) (by simp only [go_sem, hP, hn]; try rfl) (by rw [hn]; decide) (by rfl) ?_; simp only [go_sem, hP, hn]; (repeat refine vc ?_); refine hK _ ?_; clear K hK
  (repeat refine TS.imp ?_)
  refine TR.imp ?_; intro K hK; simp only [go_sem, hP, hn]; (repeat refine vc ?_); refine hK _ ?_; clear K hK
  (repeat refine TS.imp ?_)
  refine Tr.cond rfl (fun hb => ?_) (fun hb => ?_)
  · exfalso
    simp at hb
    subst hb
    simp at l0
  (repeat refine TS.imp ?_)
  refine TR.imp ?_; intro K hK; simp only [go_sem, hP, hn]; (repeat refine vc ?_); refine c1 (by rw [hP, hT]; exact rDiv_c Tm xs.sum xs.length (by omega) (by omega) (by omega) (by omega)) rfl rfl rfl trivial (by simp only [go_sem, hP, hn]; try trivial) (by simp only [go_sem, hP, hn]; try rfl) (by rw [hn]; decide) (by rfl) ?_; simp only [go_sem, hP, hn]; (repeat refine vc ?_); refine hK _ ?_; clear K hK
  (repeat (first | (refine TR.imp ?_; intro K hK; simp only [go_sem, hP, hn]; (repeat refine vc ?_); refine hK _ ?_; clear K hK) | refine TS.imp ?_))
  simp only [RetQ, go_sem]
  rfl
section
attribute [local go_sem] frD
theorem rmost_c {T : World → Prop} (Tm : TP T) (xs : List Int) (l0 : 1 ≤ xs.length) (hl : xs.length ≤ 65536) : Ct Go.Proofs.Tryz.prog T 91 [.d (.row [.i .i64 0] (xs.map intC))] true (fun r => r = .d (.i .i64 (mostV xs))) := by
  refine Ct_of Tm Go.Proofs.Tryz.func91 rfl rfl Go.Proofs.Tryz.ntmps91 (by simp) (rs := [.tmp 2]) rfl fun E hP hn hT => ?_
  (repeat (first | (refine TR.imp ?_; intro K hK; simp only [go_sem, hP, hn]; (repeat refine vc ?_); refine hK _ ?_; clear K hK) | refine TS.imp ?_))
  refine Tr.loop (fun m s => ∃ (i : Int), s = ⟨[(0, .d (.row [.i .i64 0] (xs.map intC))), (3, .d (.i .i64 (mostN xs i.toNat))), (4, .d (.i .i64 i))], []⟩ ∧ 0 ≤ i ∧ i + m = xs.length) xs.length ⟨_, (Le.mv (by simp only [go_sem, hP, hn]; first | done | (simp; done) | (simp [intC]; done) | (repeat (first | rfl | constructor))) (by simp only [go_sem, hP, hn]; first | done | (simp; done) | (simp [intC]; done) | (repeat (first | rfl | constructor)))), 0, rfl, by omega, by omega⟩ ?_
  rintro m s ⟨i, rfl, hi, him⟩
  have hb2 := mostN_b xs l0 i.toNat (by omega)
  (repeat (first | (refine TR.imp ?_; intro K hK; simp only [go_sem, hP, hn]; (repeat refine vc ?_); refine hK _ ?_; clear K hK) | refine TS.imp ?_))
  refine Tr.cond rfl (fun hb => ?_) (fun hb => ?_)
  · have hi1 : i < xs.length := by simpa using hb
    have hi2 : (i + 1).toNat = i.toNat + 1 := by omega
    have hst : mostN xs (i + 1).toNat = if rd xs (mostN xs i.toNat) < rd xs i then i else mostN xs i.toNat := by
      rw [hi2]; simp only [mostN]; rw [Int.toNat_of_nonneg hi]
    have hw : wrap64 (i + 1) = i + 1 := w64 (by omega) (by omega)
    generalize hat : mostN xs i.toNat = at_ at hb2 hst ⊢
    clear hb
    (repeat (first | (refine TR.imp ?_; intro K hK; simp only [go_sem, hP, hn]; (repeat refine vc ?_); refine hK _ ?_; clear K hK) | refine TS.imp ?_))
    refine d5 (.p true 0 (.p true 1 (.p true 2 (.p true 3 (.p true 4 (.p true 5 (.p true 6 (.p true 7 (.p true 8 .nil))))))))) [] (by rw [hP]; kernel_rfl) (by kernel_rfl) (by simp only [go_sem, hP, hn]; try simp) (by exact fun _ _ h => h) ?_; intro K hK; simp only [go_sem, hP, hn]; (repeat refine vc ?_); refine hK _ ?_; clear K hK
    (repeat refine TS.imp ?_)
    refine Tr.cond rfl (fun hc => ?_) (fun hc => ?_)
    · have hc1 : rd xs at_ < rd xs i := by simpa using hc
      rw [if_pos hc1] at hst
      (repeat (first | (refine TR.imp ?_; intro K hK; simp only [go_sem, hP, hn]; (repeat refine vc ?_); refine hK _ ?_; clear K hK) | refine TS.imp ?_))
      rw [hw]
      refine ⟨m - 1, _, by omega, ?_, i + 1, rfl, by omega, by omega⟩
      rw [hst]
      exact (Le.mv (by simp only [go_sem, hP, hn]; first | done | (simp; done) | (simp [intC]; done) | (repeat (first | rfl | constructor))) (by simp only [go_sem, hP, hn]; first | done | (simp; done) | (simp [intC]; done) | (repeat (first | rfl | constructor))))
    · have hc1 : ¬ rd xs at_ < rd xs i := by simpa using hc
      rw [if_neg hc1] at hst
      (repeat (first | (refine TR.imp ?_; intro K hK; simp only [go_sem, hP, hn]; (repeat refine vc ?_); refine hK _ ?_; clear K hK) | refine TS.imp ?_))
      rw [hw]
      refine ⟨m - 1, _, by omega, ?_, i + 1, rfl, by omega, by omega⟩
      rw [hst]
      exact (Le.mv (by simp only [go_sem, hP, hn]; first | done | (simp; done) | (simp [intC]; done) | (repeat (first | rfl | constructor))) (by simp only [go_sem, hP, hn]; first | done | (simp; done) | (simp [intC]; done) | (repeat (first | rfl | constructor))))
  · have hie : i = xs.length := by have := of_decide_eq_false hb; omega
    subst hie
    rw [Int.toNat_natCast]
    (repeat (first | (refine TR.imp ?_; intro K hK; simp only [go_sem, hP, hn]; (repeat refine vc ?_); refine hK _ ?_; clear K hK) | refine TS.imp ?_))
    simp only [RetQ, go_sem]
    rfl
theorem column_c {T : World → Prop} (Tm : TP T) (fs : List (List Int)) (k : Int) (hm : fs.length ≤ 4096) (k0 : 0 ≤ k) (hk : ∀ f ∈ fs, k < f.length) : Cg Go.Proofs.Tryz.prog T 92 [] [.d (frD fs), .d (.i .i64 k)] (fun r H => H = [] ∧ r = .d (.row [.i .i64 0] ((col fs k).map intC))) := by
  refine Cg_of [] Tm Go.Proofs.Tryz.func92 rfl rfl Go.Proofs.Tryz.ntmps92 (by simp) rfl (rs := [.tmp 4]) rfl fun E hP hn hT hpn => ?_
  (repeat (first | (refine TR.imp ?_; intro K hK; simp only [go_sem, hP, hn]; (repeat refine vc ?_); refine hK _ ?_; clear K hK) | refine TS.imp ?_))
  refine Tr.le (Le.nilslot 3001 5 3 [.i .i64 0] rfl (by rw [hpn] <;> rfl) rfl rfl) ?_
  refine Tr.loop (fun m s => ∃ (i : Int), s = ⟨[(0, .d (frD fs)), (1, .d (.i .i64 k)), (5, .own 3001), (6, .d (.i .i64 i))], [(3001, .row 3 [.i .i64 0] (((col fs k).take i.toNat).map intC))]⟩ ∧ 0 ≤ i ∧ i + m = fs.length) fs.length ⟨_, (Le.mv (by simp only [go_sem, hP, hn]; first | done | (simp; done) | (simp [intC]; done) | (repeat (first | rfl | constructor))) (by simp only [go_sem, hP, hn]; first | done | (simp; done) | (simp [intC]; done) | (repeat (first | rfl | constructor)))), 0, rfl, by omega, by omega⟩ ?_
  rintro m s ⟨i, rfl, i0, him⟩
  (repeat (first | (refine TR.imp ?_; intro K hK; simp only [go_sem, hP, hn]; (repeat refine vc ?_); refine hK _ ?_; clear K hK) | refine TS.imp ?_))
  refine Tr.cond rfl (fun hb => ?_) (fun hb => ?_)
  · have hi : i < fs.length := by simpa using hb
    have hfl := hk _ (fr_mem i0 hi)
    have htl : ((col fs k).take i.toNat).length ≤ 4096 := by rw [List.length_take, col_len]; omega
    clear hb
    (repeat refine TS.imp ?_)
    refine TR.imp ?_; intro K hK; simp only [go_sem, hP, hn]
    rw [rw_fr fs i i0 hi]
    simp only [go_sem, hP, hn]
    (repeat refine vc ?_)
    refine hK _ ?_; clear K hK
    (repeat (first | (refine TR.imp ?_; intro K hK; simp only [go_sem, hP, hn]; (repeat refine vc ?_); refine hK _ ?_; clear K hK) | refine TS.imp ?_))
    rw [w64 (x := i + 1) (by omega) (by omega)]
    refine ⟨m - 1, _, by omega, ?_, i + 1, rfl, by omega, by omega⟩
    rw [take_rd i0 (by rw [col_len]; omega), col_rd fs k i0 hi]
    refine Le.trans (b := ⟨[(0, .d (frD fs)), (1, .d (.i .i64 k)), (5, .own 22), (6, .d (.i .i64 (i + 1)))], [(22, .row 3 [.i .i64 0] (((col fs k).take i.toNat ++ [rd (fr fs i) k]).map intC))]⟩) (Le.mv (by simp only [go_sem, hP, hn]; first | done | (simp; done) | (simp [intC]; done) | (repeat (first | rfl | constructor))) (by simp only [go_sem, hP, hn]; first | done | (simp; done) | (simp [intC]; done) | (repeat (first | rfl | constructor)))) ?_
    refine Le.trans (Le.ren 22 3001 (by rw [hpn] <;> rfl) rfl rfl) ?_; simp only [renT, renH, renO, renS, renL, rn, go_sem, hP, hn]
    exact (Le.mv (by simp only [go_sem, hP, hn]; first | done | (simp; done) | (simp [intC]; done) | (repeat (first | rfl | constructor))) (by simp only [go_sem, hP, hn]; first | done | (simp; done) | (simp [intC]; done) | (repeat (first | rfl | constructor))))
  · have hi : i = fs.length := by have := of_decide_eq_false hb; omega
    subst hi
    rw [Int.toNat_natCast, List.take_of_length_le (by rw [col_len]; omega)]
    refine Tr.le (Le.freeze 3001) ?_
    simp only [go_sem, hP, hn]
    (repeat (first | (refine TR.imp ?_; intro K hK; simp only [go_sem, hP, hn]; (repeat refine vc ?_); refine hK _ ?_; clear K hK) | refine TS.imp ?_))
    simp only [RetG, go_sem]; (repeat with_reducible refine vc ?_)
theorem bit1 (p : Int) : (Go.bits .and .i64 p 1 == 1) = (Go.bits .and .i64 p 1 != 0) := by
  have := and_mask p 1 (by decide)
  rw [show (2 : Int) ^ 1 - 1 = 1 by decide] at this
  rw [this, Bool.eq_iff_iff]; simp; omega
theorem rpost_c {T : World → Prop} (Tm : TP T) (n : Nd) (x : Int) (h2 : (Go.bits .and .i64 n.post 2 == 2) = (Go.bits .and .i64 n.post 2 != 0)) : Ct Go.Proofs.Tryz.prog T 120 [.agg n.cs, .d (.i .i64 x)] true (fun r => r = .d (.i .i64 (n.pst x))) := by
  have h1 := bit1 n.post
  refine Ct_of Tm Go.Proofs.Tryz.func120 rfl rfl Go.Proofs.Tryz.ntmps120 (by simp) (rs := [.tmp 4]) rfl fun E hP hn hT => ?_
  (repeat refine TS.imp ?_)
  refine TR.imp ?_; intro K hK; simp only [go_sem, hP, hn]; (repeat refine vc ?_); refine hK _ ?_; clear K hK
  (repeat refine TS.imp ?_)
  refine TR.imp ?_; intro K hK; simp only [go_sem, hP, hn]; (repeat refine vc ?_); refine c1 (by rw [hP, hT]; exact rSat_c Tm x) rfl rfl rfl trivial (by simp only [go_sem, hP, hn]; try trivial) (by simp only [go_sem, hP, hn]; try rfl) (by rw [hn]; decide) (by rfl) ?_; simp only [go_sem, hP, hn]; (repeat refine vc ?_); refine hK _ ?_; clear K hK
  unfold Nd.pst
  rw [← h1, ← h2]
  refine Tr.seq ?_
  refine Tr.meet (fun s => s = ⟨[(1, .d (.i .i64 (if (Go.bits .and .i64 n.post 1 == 1) = true then scaleV (clampV x (-2147483648) 2147483647) n.mult n.shift else clampV x (-2147483648) 2147483647))), (2, .ptr 2 0)], [(2, .box 50 n.cs)]⟩) ?_ ?_
  rotate_left
  · (repeat refine TS.imp ?_)
    refine TR.imp ?_; intro K hK; simp only [go_sem, hP, hn]; (repeat refine vc ?_); refine hK _ ?_; clear K hK
    (repeat refine TS.imp ?_)
    refine Tr.cond rfl (fun hb => ?_) (fun hb => ?_)
    · (repeat refine TS.imp ?_)
      refine TR.imp ?_; intro K hK; simp only [go_sem, hP, hn]; (repeat refine vc ?_); refine c1 (by rw [hP, hT]; exact rScale_c Tm (clampV x (-2147483648) 2147483647) n.mult n.shift (clamp32 x)) rfl rfl rfl trivial (by simp only [go_sem, hP, hn]; try trivial) (by simp only [go_sem, hP, hn]; try rfl) (by rw [hn]; decide) (by rfl) ?_; simp only [go_sem, hP, hn]; (repeat refine vc ?_); refine hK _ ?_; clear K hK
      rw [if_pos hb]
      (repeat refine TS.imp ?_)
      exact ⟨_, (Le.mv (by simp only [go_sem, hP, hn]; first | done | (simp; done) | (simp [intC]; done) | (repeat (first | rfl | constructor))) (by simp only [go_sem, hP, hn]; first | done | (simp; done) | (simp [intC]; done) | (repeat (first | rfl | constructor)))), rfl⟩
    · rw [if_neg (by rw [hb]; decide)]
      (repeat refine TS.imp ?_)
      exact ⟨_, (Le.mv (by simp only [go_sem, hP, hn]; first | done | (simp; done) | (simp [intC]; done) | (repeat (first | rfl | constructor))) (by simp only [go_sem, hP, hn]; first | done | (simp; done) | (simp [intC]; done) | (repeat (first | rfl | constructor)))), rfl⟩
  rintro s rfl
  generalize (if (Go.bits .and .i64 n.post 1 == 1) = true then scaleV (clampV x (-2147483648) 2147483647) n.mult n.shift else clampV x (-2147483648) 2147483647) = y
  (repeat refine TS.imp ?_)
  refine TR.imp ?_; intro K hK; simp only [go_sem, hP, hn]; (repeat refine vc ?_); refine hK _ ?_; clear K hK
  (repeat refine TS.imp ?_)
  refine Tr.cond rfl (fun hb => ?_) (fun hb => ?_)
  · rw [if_pos hb]
    (repeat refine TS.imp ?_)
    refine TR.imp ?_; intro K hK; simp only [go_sem, hP, hn]; (repeat refine vc ?_); refine c1 (by rw [hP, hT]; exact rClamp_c Tm y n.low n.high) rfl rfl rfl trivial (by simp only [go_sem, hP, hn]; try trivial) (by simp only [go_sem, hP, hn]; try rfl) (by rw [hn]; decide) (by rfl) ?_; simp only [go_sem, hP, hn]; (repeat refine vc ?_); refine hK _ ?_; clear K hK
    (repeat (first | (refine TR.imp ?_; intro K hK; simp only [go_sem, hP, hn]; (repeat refine vc ?_); refine hK _ ?_; clear K hK) | refine TS.imp ?_))
    simp only [RetQ, go_sem]
  · rw [if_neg (by rw [hb]; decide)]
    (repeat (first | (refine TR.imp ?_; intro K hK; simp only [go_sem, hP, hn]; (repeat refine vc ?_); refine hK _ ?_; clear K hK) | refine TS.imp ?_))
    simp only [RetQ, go_sem]
theorem bit2 (p : Int) (h0 : 0 ≤ p) (h1 : p ≤ 3) : (Go.bits .and .i64 p 2 == 2) = (Go.bits .and .i64 p 2 != 0) := by
  have : p = 0 ∨ p = 1 ∨ p = 2 ∨ p = 3 := by omega
  rcases this with rfl | rfl | rfl | rfl <;> decide
end
section
attribute [local go_sem] frD
end
section
attribute [local go_sem] frD
def J3 (n : Nd) (fs : List (List Int)) (w : Nat) (c j k x : Int) (L : List Int) : St := ⟨[(1, .d (frD fs)), (2, .ptr 2 0), (5, .d (.i .i64 w)), (6, .own 3001), (7, .d (.i .i64 c)), (8, .d (.i .i64 x)), (9, .d (.i .i64 j)), (10, .d (.i .i64 k))], [(2, .box 50 n.cs), (3001, .row 3 [.i .i64 0] (L.map intC))]⟩
attribute [local go_sem] J3
theorem rweighed_c {T : World → Prop} (Tm : TP T) (n : Nd) (fs : List (List Int)) (w : Nat) (h : WOk n fs w) (hp : 0 ≤ n.post ∧ n.post ≤ 3) : Cg Go.Proofs.Tryz.prog T 90 [] [.agg n.cs, .d (frD fs)] (fun r H => H = [] ∧ r = .d (.row [.i .i64 0] ((weighedV n fs w).map intC))) := by
  have hm0 := h.m0
  have hb0 := h.b0
  have hw0 := h.w0
  have hst := stW_pos h
  have hwl := h.wlen
  have hf0 : (fr fs 0).length = w := h.len _ (fr_mem (by omega) (by omega))
  have hfr0 : (fs.map frE).getD 0 [.nil] = [.row [.i .i64 0] ((fr fs 0).map intC)] := rw_fr fs 0 (by omega) (by omega)
  refine Cg_of [] Tm Go.Proofs.Tryz.func90 rfl rfl Go.Proofs.Tryz.ntmps90 (by simp) rfl (rs := [.tmp 4]) rfl fun E hP hn hT hpn => ?_
  (repeat refine TS.imp ?_)
  refine TR.imp ?_; intro K hK; simp only [go_sem, hP, hn]; (repeat refine vc ?_); refine hK _ ?_; clear K hK
  (repeat refine TS.imp ?_)
  refine TR.imp ?_; intro K hK; simp only [go_sem, hP, hn]
  rw [hfr0]
  simp only [go_sem, hP, hn]
  rw [hf0]
  (repeat refine vc ?_)
  refine hK _ ?_; clear K hK
  (repeat refine TS.imp ?_)
  refine TR.imp ?_; intro K hK; simp only [go_sem, hP, hn]; (repeat refine vc ?_); refine hK _ ?_; clear K hK
  refine Tr.le (Le.nilslot 3001 6 3 [.i .i64 0] rfl (by rw [hpn] <;> rfl) rfl rfl) ?_
  (repeat refine TS.imp ?_)
  refine TR.imp ?_; intro K hK; simp only [go_sem, hP, hn]; (repeat refine vc ?_); refine hK _ ?_; clear K hK
  (repeat refine TS.imp ?_)
  refine Tr.le (Le.keep [1, 2, 5, 6, 7]) ?_; simp only [List.map_cons, List.map_nil, lk, Nat.reduceEqDiff, reduceIte]
  refine Tr.loop (fun q s => ∃ (c : Int) (L : List Int), s = ⟨[(1, .d (frD fs)), (2, .ptr 2 0), (5, .d (.i .i64 w)), (6, .own 3001), (7, .d (.i .i64 c))], [(2, .box 50 n.cs), (3001, .row 3 [.i .i64 0] (L.map intC))]⟩ ∧ 0 ≤ c ∧ c + q = n.bs.length ∧ L = weighedN n fs w c.toNat) n.bs.length ⟨_, (Le.mv (by simp only [go_sem, hP, hn]; first | done | (simp; done) | (simp [intC]; done) | (repeat (first | rfl | constructor))) (by simp only [go_sem, hP, hn]; first | done | (simp; done) | (simp [intC]; done) | (repeat (first | rfl | constructor)))), 0, [], rfl, by omega, by omega, rfl⟩ ?_
  rintro q s ⟨c, L, rfl, c0, cq, hL⟩
  have hLl : L.length ≤ 16 := by rw [hL, weighedN_len]; omega
  (repeat refine TS.imp ?_)
  refine TR.imp ?_; intro K hK; simp only [go_sem, hP, hn]; (repeat refine vc ?_); refine hK _ ?_; clear K hK
  (repeat refine TS.imp ?_)
  refine Tr.cond rfl (fun hb => ?_) (fun hb => ?_)
  · have hc : c < n.bs.length := by simpa using hb
    clear hb
    (repeat refine TS.imp ?_)
    refine TR.imp ?_; intro K hK; simp only [go_sem, hP, hn]; (repeat refine vc ?_); refine hK _ ?_; clear K hK
    (repeat refine TS.imp ?_)
    refine TR.imp ?_; intro K hK; simp only [go_sem, hP, hn]; (repeat refine vc ?_); refine hK _ ?_; clear K hK
    (repeat refine TS.imp ?_)
    refine Tr.le (Le.keep [1, 2, 5, 6, 7, 8, 9]) ?_; simp only [List.map_cons, List.map_nil, lk, Nat.reduceEqDiff, reduceIte]
    refine Tr.loop (fun p s => ∃ (j : Int), s = ⟨[(1, .d (frD fs)), (2, .ptr 2 0), (5, .d (.i .i64 w)), (6, .own 3001), (7, .d (.i .i64 c)), (8, .d (.i .i64 (accW n fs w c j.toNat))), (9, .d (.i .i64 j))], [(2, .box 50 n.cs), (3001, .row 3 [.i .i64 0] (L.map intC))]⟩ ∧ 0 ≤ j ∧ j + p = fs.length) fs.length ⟨_, (Le.mv (by simp only [go_sem, hP, hn]; first | done | (simp; done) | (simp [intC]; done) | (repeat (first | rfl | constructor))) (by simp only [go_sem, hP, hn]; first | done | (simp; done) | (simp [intC]; done) | (repeat (first | rfl | constructor)))), 0, rfl, by omega, by omega⟩ ?_
    rintro p s ⟨j, rfl, j0, jp⟩
    (repeat refine TS.imp ?_)
    refine TR.imp ?_; intro K hK; simp only [go_sem, hP, hn]; (repeat refine vc ?_); refine hK _ ?_; clear K hK
    (repeat refine TS.imp ?_)
    refine Tr.cond rfl (fun hb => ?_) (fun hb => ?_)
    · have hj : j < fs.length := by simpa using hb
      clear hb
      have hfl := h.flen j0 hj
      have hfr := rw_fr fs j j0 hj
      obtain ⟨o0, o1, o2, o3, o4, o5⟩ := h.off c0 hc j0 hj
      have hacc : accW n fs w c (j + 1).toNat = dotK n.ws ((c * fs.length + j) * stW n w) (rowF n fs c j.toNat) (stW n w) (accW n fs w c j.toNat) := by
        have e : (j + 1).toNat = j.toNat + 1 := by omega
        have e2 : ((j.toNat : Nat) : Int) = j := Int.toNat_of_nonneg j0
        rw [e]; simp only [accW, e2]
      have hrow : rowF n fs c j.toNat = if n.k = 2 then [rd (fr fs j) c] else fr fs j := by
        unfold rowF; rw [Int.toNat_of_nonneg j0]
      rw [hrow] at hacc
      generalize accW n fs w c j.toNat = x at hacc
      have g1 : wrap64 (c * fs.length) = c * fs.length := w64 (by omega) (by omega)
      have g2 : wrap64 (c * fs.length + j) = c * fs.length + j := w64 (by omega) (by omega)
      generalize fr fs j = f at *
      clear hrow
      (repeat refine TS.imp ?_)
      refine TR.imp ?_; intro K hK; simp only [go_sem, hP, hn]; (repeat refine vc ?_); refine hK _ ?_; clear K hK
      (repeat refine TS.imp ?_)
      rcases Decidable.em (n.k = 2) with hk | hk
      · have hs1 : stW n w = 1 := by unfold stW; rw [if_pos hk]
        have hcw := h.dp hk
        rw [hs1] at hacc o1 o2 o3
        rw [if_pos hk] at hacc
        have hv : dotK n.ws ((c * (fs.length : Int) + j) * ((1 : Nat) : Int)) [rd f c] 1 x = wrap64 (x + wrap64 (rd n.ws (c * (fs.length : Int) + j) * rd f c)) := by
          have : rd [rd f c] ((0 : Nat) : Int) = rd f c := rfl
          simp only [dotK, this]
          rw [show (c * (fs.length : Int) + j) * ((1 : Nat) : Int) + ((0 : Nat) : Int) = c * (fs.length : Int) + j by omega]
        rw [hv] at hacc
        refine Tr.loop (fun r s => ∃ (k v : Int), s = J3 n fs w c j k v L ∧ 0 ≤ k ∧ k + r = w ∧ v = (if k ≤ c then x else wrap64 (x + wrap64 (rd n.ws (c * (fs.length : Int) + j) * rd f c)))) w ⟨_, (Le.mv (by simp only [go_sem, hP, hn]; first | done | (simp; done) | (simp [intC]; done) | (repeat (first | rfl | constructor))) (by simp only [go_sem, hP, hn]; first | done | (simp; done) | (simp [intC]; done) | (repeat (first | rfl | constructor)))), 0, x, rfl, by omega, by omega, by rw [if_pos c0]⟩ ?_
        rintro r s ⟨k, v, rfl, k0, kr, hv2⟩
        (repeat refine TS.imp ?_)
        refine TR.imp ?_; intro K hK; simp only [go_sem, hP, hn]; (repeat refine vc ?_); refine hK _ ?_; clear K hK
        (repeat refine TS.imp ?_)
        refine Tr.cond rfl (fun hb => ?_) (fun hb => ?_)
        · have hkw : k < w := by simpa using hb
          clear hb
          (repeat refine TS.imp ?_)
          refine TR.imp ?_; intro K hK; simp only [go_sem, hP, hn]; (repeat refine vc ?_); refine hK _ ?_; clear K hK
          (repeat refine TS.imp ?_)
          refine Tr.cond rfl (fun hd => ?_) (fun hd => ?_)
          · exfalso
            rw [hk] at hd
            simp at hd
          clear hd
          (repeat refine TS.imp ?_)
          refine TR.imp ?_; intro K hK; simp only [go_sem, hP, hn]; (repeat refine vc ?_); refine hK _ ?_; clear K hK
          (repeat refine TS.imp ?_)
          refine Tr.cond rfl (fun hd => ?_) (fun hd => ?_)
          · obtain rfl : k = c := by simpa using hd
            rw [if_pos (Int.le_refl _)] at hv2
            subst hv2
            clear hd
            (repeat refine TS.imp ?_)
            refine d5 (.p true 0 (.p true 1 (.p true 2 (.p true 3 (.p true 4 (.p true 5 (.p true 6 (.p true 7 (.p true 8 (.p true 9 (.p true 10 (.p true 11 (.p true 12 (.p true 13 (.p true 14 (.p true 15 (.p true 16 (.p true 17 (.p true 18 (.p true 19 (.p true 20 .nil))))))))))))))))))))) [] (by rw [hP]; kernel_rfl) (by kernel_rfl) (by simp only [go_sem, hP, hn]; try simp) (by exact fun _ _ h => h) ?_; intro K hK; simp only [go_sem, hP, hn]
            rw [hfr, g1, g2]
            simp only [go_sem, hP, hn]
            (repeat refine vc ?_)
            refine hK _ ?_; clear K hK
            (repeat refine TS.imp ?_)
            refine TR.imp ?_; intro K hK; simp only [go_sem, hP, hn]; (repeat refine vc ?_); refine hK _ ?_; clear K hK
            (repeat refine TS.imp ?_)
            rw [w64 (x := k + 1) (by omega) (by omega)]
            refine ⟨r - 1, _, by omega, ?_, k + 1, wrap64 (v + wrap64 (rd n.ws (k * (fs.length : Int) + j) * rd f k)), rfl, by omega, by omega, by rw [if_neg (by omega)]⟩
            exact (Le.mv (by simp only [go_sem, hP, hn]; first | done | (simp; done) | (simp [intC]; done) | (repeat (first | rfl | constructor))) (by simp only [go_sem, hP, hn]; first | done | (simp; done) | (simp [intC]; done) | (repeat (first | rfl | constructor))))
          · have hne : k ≠ c := by simpa using hd
            (repeat refine TS.imp ?_)
            refine TR.imp ?_; intro K hK; simp only [go_sem, hP, hn]; (repeat refine vc ?_); refine hK _ ?_; clear K hK
            (repeat refine TS.imp ?_)
            rw [w64 (x := k + 1) (by omega) (by omega)]
            refine ⟨r - 1, _, by omega, ?_, k + 1, v, rfl, by omega, by omega, ?_⟩
            · exact (Le.mv (by simp only [go_sem, hP, hn]; first | done | (simp; done) | (simp [intC]; done) | (repeat (first | rfl | constructor))) (by simp only [go_sem, hP, hn]; first | done | (simp; done) | (simp [intC]; done) | (repeat (first | rfl | constructor))))
            · rw [hv2]
              rcases Int.lt_or_le k c with h9 | h9
              · rw [if_pos (by omega), if_pos (by omega)]
              · rw [if_neg (by omega), if_neg (by omega)]
        · have hke : k = w := by have := of_decide_eq_false hb; omega
          rw [if_neg (by omega), ← hacc] at hv2
          subst hv2
          clear hb hacc
          (repeat refine TS.imp ?_)
          refine TR.imp ?_; intro K hK; simp only [go_sem, hP, hn]; (repeat refine vc ?_); refine hK _ ?_; clear K hK
          (repeat refine TS.imp ?_)
          rw [w64 (x := j + 1) (by omega) (by omega)]
          refine ⟨p - 1, _, by omega, ?_, j + 1, rfl, by omega, by omega⟩
          exact (Le.mv (by simp only [go_sem, hP, hn]; first | done | (simp; done) | (simp [intC]; done) | (repeat (first | rfl | constructor))) (by simp only [go_sem, hP, hn]; first | done | (simp; done) | (simp [intC]; done) | (repeat (first | rfl | constructor))))
      · have hs1 : stW n w = w := by unfold stW; rw [if_neg hk]
        rw [hs1] at hacc o1 o2 o3
        rw [if_neg hk] at hacc
        have g3 : wrap64 ((c * (fs.length : Int) + j) * w) = (c * (fs.length : Int) + j) * w := w64 (by omega) (by omega)
        generalize hoo : (c * (fs.length : Int) + j) * (w : Int) = o at hacc o1 o2 o3 g3
        refine Tr.loop (fun r s => ∃ (k : Int), s = J3 n fs w c j k (dotK n.ws o f k.toNat x) L ∧ 0 ≤ k ∧ k + r = w) w ⟨_, (Le.mv (by simp only [go_sem, hP, hn]; first | done | (simp; done) | (simp [intC]; done) | (repeat (first | rfl | constructor))) (by simp only [go_sem, hP, hn]; first | done | (simp; done) | (simp [intC]; done) | (repeat (first | rfl | constructor)))), 0, rfl, by omega, by omega⟩ ?_
        rintro r s ⟨k, rfl, k0, kr⟩
        (repeat refine TS.imp ?_)
        refine TR.imp ?_; intro K hK; simp only [go_sem, hP, hn]; (repeat refine vc ?_); refine hK _ ?_; clear K hK
        (repeat refine TS.imp ?_)
        refine Tr.cond rfl (fun hb => ?_) (fun hb => ?_)
        · have hkw : k < w := by simpa using hb
          clear hb
          have g4 : wrap64 (o + k) = o + k := w64 (by omega) (by omega)
          (repeat refine TS.imp ?_)
          refine TR.imp ?_; intro K hK; simp only [go_sem, hP, hn]; (repeat refine vc ?_); refine hK _ ?_; clear K hK
          (repeat refine TS.imp ?_)
          refine Tr.cond rfl (fun hd => ?_) (fun hd => ?_)
          rotate_left
          · exfalso
            exact hk (by simpa using hd)
          clear hd
          (repeat refine TS.imp ?_)
          refine d5 (.p true 0 (.p true 1 (.p true 2 (.p true 3 (.p true 4 (.p true 5 (.p true 6 (.p true 7 (.p true 8 (.p true 9 (.p true 10 (.p true 11 (.p true 12 (.p true 13 (.p true 14 (.p true 15 (.p true 16 (.p true 17 (.p true 18 (.p true 19 (.p true 20 (.p true 21 (.p true 22 (.p true 23 (.p true 24 .nil))))))))))))))))))))))))) [] (by rw [hP]; kernel_rfl) (by kernel_rfl) (by simp only [go_sem, hP, hn]; try simp) (by exact fun _ _ h => h) ?_; intro K hK; simp only [go_sem, hP, hn]
          rw [hfr, g1, g2, hoo, g3, g4]
          simp only [go_sem, hP, hn]
          (repeat refine vc ?_)
          refine hK _ ?_; clear K hK
          (repeat refine TS.imp ?_)
          refine TR.imp ?_; intro K hK; simp only [go_sem, hP, hn]; (repeat refine vc ?_); refine hK _ ?_; clear K hK
          (repeat refine TS.imp ?_)
          rw [w64 (x := k + 1) (by omega) (by omega)]
          refine ⟨r - 1, _, by omega, ?_, k + 1, rfl, by omega, by omega⟩
          rw [show (k + 1).toNat = k.toNat + 1 by omega]
          simp only [dotK]
          rw [Int.toNat_of_nonneg k0]
          exact (Le.mv (by simp only [go_sem, hP, hn]; first | done | (simp; done) | (simp [intC]; done) | (repeat (first | rfl | constructor))) (by simp only [go_sem, hP, hn]; first | done | (simp; done) | (simp [intC]; done) | (repeat (first | rfl | constructor))))
        · have hke : k = w := by have := of_decide_eq_false hb; omega
          subst hke
          clear hb
          rw [Int.toNat_natCast, ← hacc]
          (repeat refine TS.imp ?_)
          refine TR.imp ?_; intro K hK; simp only [go_sem, hP, hn]; (repeat refine vc ?_); refine hK _ ?_; clear K hK
          (repeat refine TS.imp ?_)
          rw [w64 (x := j + 1) (by omega) (by omega)]
          refine ⟨p - 1, _, by omega, ?_, j + 1, rfl, by omega, by omega⟩
          exact (Le.mv (by simp only [go_sem, hP, hn]; first | done | (simp; done) | (simp [intC]; done) | (repeat (first | rfl | constructor))) (by simp only [go_sem, hP, hn]; first | done | (simp; done) | (simp [intC]; done) | (repeat (first | rfl | constructor))))
    · have hj : j = fs.length := by have := of_decide_eq_false hb; omega
      subst hj
      clear hb
      rw [Int.toNat_natCast]
      (repeat refine TS.imp ?_)
      refine TR.imp ?_; intro K hK; simp only [go_sem, hP, hn]; (repeat refine vc ?_); refine c1 (by rw [hP, hT]; exact rpost_c Tm n (accW n fs w c fs.length) (bit2 _ hp.1 hp.2)) rfl rfl rfl trivial (by simp only [go_sem, hP, hn]; try trivial) (by simp only [go_sem, hP, hn]; try rfl) (by rw [hn]; decide) (by rfl) ?_; simp only [go_sem, hP, hn]; (repeat refine vc ?_); refine hK _ ?_; clear K hK
      (repeat refine TS.imp ?_)
      refine TR.imp ?_; intro K hK; simp only [go_sem, hP, hn]; (repeat refine vc ?_); refine hK _ ?_; clear K hK
      (repeat refine TS.imp ?_)
      rw [w64 (x := c + 1) (by omega) (by omega)]
      refine ⟨q - 1, _, by omega, ?_, c + 1, L ++ [n.pst (accW n fs w c fs.length)], rfl, by omega, by omega, ?_⟩
      · refine Le.trans (b := ⟨[(1, .d (frD fs)), (2, .ptr 2 0), (5, .d (.i .i64 w)), (6, .own 93), (7, .d (.i .i64 (c + 1)))], [(2, .box 50 n.cs), (93, .row 3 [.i .i64 0] ((L ++ [n.pst (accW n fs w c fs.length)]).map intC))]⟩) (Le.mv (by simp only [go_sem, hP, hn]; first | done | (simp; done) | (simp [intC]; done) | (repeat (first | rfl | constructor))) (by simp only [go_sem, hP, hn]; first | done | (simp; done) | (simp [intC]; done) | (repeat (first | rfl | constructor)))) ?_
        refine Le.trans (Le.ren 93 3001 (by rw [hpn] <;> rfl) rfl rfl) ?_; simp only [renT, renH, renO, renS, renL, rn, go_sem, hP, hn]
        exact (Le.mv (by simp only [go_sem, hP, hn]; first | done | (simp; done) | (simp [intC]; done) | (repeat (first | rfl | constructor))) (by simp only [go_sem, hP, hn]; first | done | (simp; done) | (simp [intC]; done) | (repeat (first | rfl | constructor))))
      · rw [hL, show (c + 1).toNat = c.toNat + 1 by omega]
        simp only [weighedN]
        rw [Int.toNat_of_nonneg c0]
  · have hc : c = n.bs.length := by have := of_decide_eq_false hb; omega
    subst hc
    rw [Int.toNat_natCast] at hL
    subst hL
    refine Tr.le (Le.freeze 3001) ?_
    simp only [go_sem, hP, hn]
    (repeat (first | (refine TR.imp ?_; intro K hK; simp only [go_sem, hP, hn]; (repeat refine vc ?_); refine hK _ ?_; clear K hK) | refine TS.imp ?_))
    simp only [RetG, go_sem]; (repeat with_reducible refine vc ?_)
    rfl
end
section
attribute [local go_sem] frD
def gV (n : Nd) (xs : List Int) : Int :=
  if n.k = 3 ∨ n.k = 5 then rd xs (mostV xs)
  else if n.k = 4 ∨ n.k = 12 then meanV xs
  else if n.k = 7 then addV xs
  else if n.k = 9 then clampV (rd xs 0) n.low n.high
  else if n.k = 10 then scaleV (rd xs 0) n.mult n.shift
  else rd xs 0
theorem frame_each {n : Nd} {fs : List (List Int)} {w : Nat} (h : KOk n fs w) (h1 : rWeighs n.k = false) (h8 : n.k ≠ 8) (h11 : n.k ≠ 11) : frameV n fs w = eachL (gV n) fs w := by
  have hk := h.unpack
  have hq : n.k ≠ 1 ∧ n.k ≠ 2 ∧ n.k ≠ 6 := by
    unfold rWeighs at h1
    simp only [Bool.or_eq_false_iff, beq_eq_false_iff_ne, ne_eq] at h1
    omega
  unfold frameV
  rw [if_neg (by rw [h1]; decide)]
  have key : ∀ g : List Int → Int, (∀ xs, gV n xs = g xs) → eachL g fs w = eachL (gV n) fs w := fun g hg => by rw [show gV n = g from funext hg]
  split
  · rename_i h; exact key _ fun xs => by unfold gV; rw [if_pos h]
  rename_i h3
  split
  · rename_i h; exact key _ fun xs => by unfold gV; rw [if_neg h3, if_pos h]
  rename_i h4
  split
  · rename_i h; exact key _ fun xs => by unfold gV; rw [if_neg h3, if_neg h4, if_pos h]
  rename_i h7
  split
  · rename_i h; exact key _ fun xs => by unfold gV; rw [if_neg h3, if_neg h4, if_neg h7, if_pos h]
  rename_i h9
  split
  · rename_i h; exact key _ fun xs => by unfold gV; rw [if_neg h3, if_neg h4, if_neg h7, if_neg h9, if_pos h]
  omega
end
section
attribute [local go_sem] frD
theorem may_g {T : World → Prop} (Tm : TP T) (n : Nd) (fs : List (List Int)) (hm0 : fs.length ≤ 65536) (hwl : n.ws.length ≤ 65536) (hbl : n.bs.length ≤ 65536) (hil : n.inn.length ≤ 65536) (hfl : ∀ f ∈ fs, f.length ≤ 65536) : Cg Go.Proofs.Tryz.prog T 89 [] [.agg n.cs, .d (frD fs)] (fun r H => H = [] ∧ r = .d (.b (mayV n fs))) := by
  have hrl : (wdsV n fs).length ≤ 65536 := by
    unfold wdsV
    split
    · simp; omega
    · simp
  refine Cg_of [] Tm Go.Proofs.Tryz.func89 rfl rfl Go.Proofs.Tryz.ntmps89 (by simp) rfl (rs := [.tmp 4]) rfl fun E hP hn hT hpn => ?_
  (repeat refine TS.imp ?_)
  refine TR.imp ?_; intro K hK; simp only [go_sem, hP, hn]; (repeat refine vc ?_); refine hK _ ?_; clear K hK
  (repeat refine TS.imp ?_)
  refine TR.imp ?_; intro K hK; simp only [go_sem, hP, hn]; (repeat refine vc ?_); refine c1 (by rw [hP, hT]; exact Windows_r Tm n.k) rfl rfl rfl trivial (by simp only [go_sem, hP, hn]; try trivial) (by simp only [go_sem, hP, hn]; try rfl) (by rw [hn]; decide) (by rfl) ?_; simp only [go_sem, hP, hn]; (repeat refine vc ?_); refine hK _ ?_; clear K hK
  (repeat refine TS.imp ?_)
  refine TR.imp ?_; intro K hK; simp only [go_sem, hP, hn]; (repeat refine vc ?_); refine c1 (by rw [hP, hT]; exact Many_r Tm n.k) rfl rfl rfl trivial (by simp only [go_sem, hP, hn]; try trivial) (by simp only [go_sem, hP, hn]; try rfl) (by rw [hn]; decide) (by rfl) ?_; simp only [go_sem, hP, hn]; (repeat refine vc ?_); refine hK _ ?_; clear K hK
  (repeat refine TS.imp ?_)
  refine Tr.le (Le.keep [1, 2, 5, 6]) ?_; simp only [List.map_cons, List.map_nil, lk, Nat.reduceEqDiff, reduceIte]
  refine TR.imp ?_; intro K hK; simp only [go_sem, hP, hn]; (repeat refine vc ?_); refine hK _ ?_; clear K hK
  (repeat refine TS.imp ?_)
  have hmc : (rWin n.k && (fs.length : Int) != n.size || n.k == 5 && decide ((fs.length : Int) < 1) || rMany n.k && (fs.length : Int) != (n.inn.length : Int) || !rWin n.k && !rMany n.k && n.k != 5 && (fs.length : Int) != 1) = mayC n fs.length := rfl
  rw [hmc]
  refine Tr.cond rfl (fun hc => ?_) (fun hc => ?_)
  · (repeat (first | (refine TR.imp ?_; intro K hK; simp only [go_sem, hP, hn]; (repeat refine vc ?_); refine hK _ ?_; clear K hK) | refine TS.imp ?_))
    simp only [RetG, go_sem]; (repeat with_reducible refine vc ?_)
    unfold mayV
    rw [hc]; rfl
  have hV : mayV n fs = (frsOk n ((fr fs 0).length : Int) 0 fs && (!((fs.length : Int) == 0) && n.rchk (wdsV n fs) == 0)) := by
    unfold mayV; rw [hc]; rfl
  rw [hV]
  clear hc hV hmc
  generalize hv0 : (frsOk n ((fr fs 0).length : Int) 0 fs && (!((fs.length : Int) == 0) && n.rchk (wdsV n fs) == 0)) = v
  refine Tr.le (Le.keep [1, 2, 5, 6]) ?_; simp only [List.map_cons, List.map_nil, lk, Nat.reduceEqDiff, reduceIte]
  (repeat refine TS.imp ?_)
  refine TR.imp ?_; intro K hK; simp only [go_sem, hP, hn]; (repeat refine vc ?_); refine hK _ ?_; clear K hK
  refine Tr.le (Le.nilslot 3001 7 3 [.i .i64 0] rfl (by rw [hpn] <;> rfl) rfl rfl) ?_
  (repeat refine TS.imp ?_)
  refine TR.imp ?_; intro K hK; simp only [go_sem, hP, hn]; (repeat refine vc ?_); refine hK _ ?_; clear K hK
  (repeat refine TS.imp ?_)
  refine Tr.le (Le.keep [1, 2, 6, 7, 8]) ?_; simp only [List.map_cons, List.map_nil, lk, Nat.reduceEqDiff, reduceIte]
  refine Tr.loop (fun q s => ∃ (i : Int) (W : List Int), s = ⟨[(1, .d (frD fs)), (2, .ptr 2 0), (6, .d (.b (rMany n.k))), (7, .own 3001), (8, .d (.i .i64 i))], [(2, .box 50 n.cs), (3001, .row 3 [.i .i64 0] (W.map intC))]⟩ ∧ 0 ≤ i ∧ i + q = fs.length ∧ W = (if rMany n.k = true then (fs.map (fun f => (f.length : Int))).take i.toNat else if i = 0 then [] else [((fr fs 0).length : Int)]) ∧ v = (frsOk n ((fr fs 0).length : Int) i (fs.drop i.toNat) && (!((fs.length : Int) == 0) && n.rchk (wdsV n fs) == 0))) fs.length ⟨_, (Le.mv (by simp only [go_sem, hP, hn]; first | done | (simp; done) | (simp [intC]; done) | (repeat (first | rfl | constructor))) (by simp only [go_sem, hP, hn]; first | done | (simp; done) | (simp [intC]; done) | (repeat (first | rfl | constructor)))), 0, [], rfl, by omega, by omega, by simp, hv0.symm⟩ ?_
  clear hv0
  rintro q s ⟨i, W, rfl, i0, iq, hW, hv⟩
  (repeat refine TS.imp ?_)
  refine TR.imp ?_; intro K hK; simp only [go_sem, hP, hn]; (repeat refine vc ?_); refine hK _ ?_; clear K hK
  (repeat refine TS.imp ?_)
  refine Tr.cond rfl (fun hb => ?_) (fun hb => ?_)
  · have hi : i < fs.length := by simpa using hb
    have hfr := rw_fr fs i i0 hi
    have hfr0 : (fs.map frE).getD 0 [.nil] = [.row [.i .i64 0] ((fr fs 0).map intC)] := rw_fr fs 0 (by omega) (by omega)
    have hWl : W.length ≤ 65536 := by
      rw [hW]
      split
      · simp; omega
      · split <;> simp
    have hdr : fs.drop i.toNat = fr fs i :: fs.drop (i + 1).toNat := by
      have hk : i.toNat < fs.length := by omega
      rw [List.drop_eq_getElem_cons hk, show (i + 1).toNat = i.toNat + 1 by omega]
      simp [fr, List.getD, hk]
    have hfl2 := hfl _ (fr_mem i0 hi)
    have htk : (fs.map (fun f => (f.length : Int))).take (i + 1).toNat = (fs.map (fun f => (f.length : Int))).take i.toNat ++ [((fr fs i).length : Int)] := by
      rw [take_rd i0 (by simpa using hi)]
      have hk : i.toNat < fs.length := by omega
      simp [rd, fr, List.getD, hk]
    have hz : i = 0 → fr fs i = fr fs 0 := fun e => by rw [e]
    rw [hdr, frsOk] at hv
    unfold frOk2 at hv
    generalize fr fs i = f at *
    generalize hv2 : frsOk n ((fr fs 0).length : Int) (i + 1) (fs.drop (i + 1).toNat) = v2 at hv
    generalize hv3 : (!((fs.length : Int) == 0) && n.rchk (wdsV n fs) == 0) = v3 at hv
    clear hb
    (repeat refine TS.imp ?_)
    refine TR.imp ?_; intro K hK; simp only [go_sem, hP, hn]; (repeat refine vc ?_); refine hK _ ?_; clear K hK
    (repeat refine TS.imp ?_)
    refine Tr.le (Le.keep [1, 2, 6, 7, 8, 9]) ?_; simp only [List.map_cons, List.map_nil, lk, Nat.reduceEqDiff, reduceIte]
    refine Tr.loop (fun p s => ∃ (k : Int), s = ⟨[(1, .d (frD fs)), (2, .ptr 2 0), (6, .d (.b (rMany n.k))), (7, .own 3001), (8, .d (.i .i64 i)), (9, .d (.i .i64 k))], [(2, .box 50 n.cs), (3001, .row 3 [.i .i64 0] (W.map intC))]⟩ ∧ 0 ≤ k ∧ k + p = f.length ∧ v = (((f.drop k.toNat).all fits32 && (i == 0 || rMany n.k || !((f.length : Int) != ((fr fs 0).length : Int)))) && v2 && v3)) f.length ⟨_, (Le.mv (by simp only [go_sem, hP, hn]; first | done | (simp; done) | (simp [intC]; done) | (repeat (first | rfl | constructor))) (by simp only [go_sem, hP, hn]; first | done | (simp; done) | (simp [intC]; done) | (repeat (first | rfl | constructor)))), 0, rfl, by omega, by omega, hv⟩ ?_
    clear hv
    rintro p s ⟨k, rfl, k0, kp, hv⟩
    (repeat refine TS.imp ?_)
    refine TR.imp ?_; intro K hK; simp only [go_sem, hP, hn]
    rw [hfr]
    simp only [go_sem, hP, hn]
    (repeat refine vc ?_)
    refine hK _ ?_; clear K hK
    (repeat refine TS.imp ?_)
    refine Tr.cond rfl (fun hb => ?_) (fun hb => ?_)
    · have hk : k < f.length := by simpa using hb
      rw [drop_rd k0 hk, List.all_cons] at hv
      clear hb
      (repeat refine TS.imp ?_)
      refine TR.imp ?_; intro K hK; simp only [go_sem, hP, hn]
      rw [hfr]
      simp only [go_sem, hP, hn]
      (repeat refine vc ?_)
      refine c1 (by rw [hP, hT]; exact Word_c Tm (rd f k)) rfl rfl rfl trivial (by simp only [go_sem, hP, hn]; try trivial) (by simp only [go_sem, hP, hn]; try rfl) (by rw [hn]; decide) (by rfl) ?_; simp only [go_sem, hP, hn]; (repeat refine vc ?_)
      refine hK _ ?_; clear K hK
      (repeat refine TS.imp ?_)
      refine TR.imp ?_; intro K hK; simp only [go_sem, hP, hn]; (repeat refine vc ?_); refine hK _ ?_; clear K hK
      (repeat refine TS.imp ?_)
      refine Tr.cond rfl (fun hc => ?_) (fun hc => ?_)
      · have hc : fits32 (rd f k) = false := by simpa using hc
        (repeat (first | (refine TR.imp ?_; intro K hK; simp only [go_sem, hP, hn]; (repeat refine vc ?_); refine hK _ ?_; clear K hK) | refine TS.imp ?_))
        simp only [RetG, go_sem]; (repeat with_reducible refine vc ?_)
        rw [hv, hc]; rfl
      have hc : fits32 (rd f k) = true := by simpa using hc
      (repeat refine TS.imp ?_)
      refine TR.imp ?_; intro K hK; simp only [go_sem, hP, hn]; (repeat refine vc ?_); refine hK _ ?_; clear K hK
      (repeat refine TS.imp ?_)
      rw [w64 (x := k + 1) (by omega) (by omega)]
      refine ⟨p - 1, _, by omega, ?_, k + 1, rfl, by omega, by omega, by rw [hv, hc, Bool.true_and]⟩
      exact (Le.mv (by simp only [go_sem, hP, hn]; first | done | (simp; done) | (simp [intC]; done) | (repeat (first | rfl | constructor))) (by simp only [go_sem, hP, hn]; first | done | (simp; done) | (simp [intC]; done) | (repeat (first | rfl | constructor))))
    rw [drop_end (by simpa using hb), List.all_nil, Bool.true_and] at hv
    clear hb k0 kp
    (repeat refine TS.imp ?_)
    refine Tr.le (Le.keep [1, 2, 6, 7, 8]) ?_; simp only [List.map_cons, List.map_nil, lk, Nat.reduceEqDiff, reduceIte]
    refine TR.imp ?_; intro K hK; simp only [go_sem, hP, hn]; (repeat refine vc ?_); refine hK _ ?_; clear K hK
    (repeat refine TS.imp ?_)
    refine Tr.cond rfl (fun hc => ?_) (fun hc => ?_)
    · rw [hc, Bool.true_or, Bool.true_and] at hv
      (repeat refine TS.imp ?_)
      refine TR.imp ?_; intro K hK; simp only [go_sem, hP, hn]
      rw [hfr]
      simp only [go_sem, hP, hn]
      (repeat refine vc ?_)
      refine hK _ ?_; clear K hK
      (repeat refine TS.imp ?_)
      refine TR.imp ?_; intro K hK; simp only [go_sem, hP, hn]; (repeat refine vc ?_); refine hK _ ?_; clear K hK
      (repeat refine TS.imp ?_)
      rw [w64 (x := i + 1) (by omega) (by omega)]
      refine ⟨q - 1, _, by omega, ?_, i + 1, W ++ [(f.length : Int)], rfl, by omega, by omega, ?_, by rw [hv2]; exact hv⟩
      · refine Le.trans (b := ⟨[(1, .d (frD fs)), (2, .ptr 2 0), (6, .d (.b (rMany n.k))), (7, .own 101), (8, .d (.i .i64 (i + 1)))], [(2, .box 50 n.cs), (101, .row 3 [.i .i64 0] ((W ++ [(f.length : Int)]).map intC))]⟩) (Le.mv (by simp only [go_sem, hP, hn]; first | done | (simp; done) | (simp [intC]; done) | (repeat (first | rfl | constructor))) (by simp only [go_sem, hP, hn]; first | done | (simp; done) | (simp [intC]; done) | (repeat (first | rfl | constructor)))) ?_
        refine Le.trans (Le.ren 101 3001 (by rw [hpn] <;> rfl) rfl rfl) ?_; simp only [renT, renH, renO, renS, renL, rn, go_sem, hP, hn]
        exact (Le.mv (by simp only [go_sem, hP, hn]; first | done | (simp; done) | (simp [intC]; done) | (repeat (first | rfl | constructor))) (by simp only [go_sem, hP, hn]; first | done | (simp; done) | (simp [intC]; done) | (repeat (first | rfl | constructor))))
      · rw [hW, htk]
        cases hm : rMany n.k with
        | true => rw [if_pos rfl, if_pos rfl]
        | false =>
          rw [hm, Bool.or_false] at hc
          have : i = 0 := by simpa using hc
          have h2 : ¬ i + 1 = 0 := by omega
          simp only [this, hz this, h2, if_true, if_false, Bool.false_eq_true, List.nil_append]
          simp
    · have hc2 : (i == 0) = false ∧ rMany n.k = false := by simpa [Bool.or_eq_false_iff] using hc
      have hi0 : i ≠ 0 := by simpa using hc2.1
      rw [hc, Bool.false_or] at hv
      (repeat refine TS.imp ?_)
      refine d5 (.p true 0 (.p true 1 (.p true 2 (.p true 3 (.p true 4 (.p true 5 (.p true 6 (.p true 7 (.p true 8 (.p true 9 .nil)))))))))) [] (by rw [hP]; kernel_rfl) (by kernel_rfl) (by simp only [go_sem, hP, hn]; try simp) (by exact fun _ _ h => h) ?_; intro K hK; simp only [go_sem, hP, hn]
      rw [hfr, hfr0]
      simp only [go_sem, hP, hn]
      (repeat refine vc ?_)
      refine hK _ ?_; clear K hK
      (repeat refine TS.imp ?_)
      refine Tr.cond rfl (fun hd => ?_) (fun hd => ?_)
      · (repeat (first | (refine TR.imp ?_; intro K hK; simp only [go_sem, hP, hn]; (repeat refine vc ?_); refine hK _ ?_; clear K hK) | refine TS.imp ?_))
        simp only [RetG, go_sem]; (repeat with_reducible refine vc ?_)
        rw [hv, hd]; rfl
      rw [hd, Bool.not_false, Bool.true_and] at hv
      (repeat refine TS.imp ?_)
      refine TR.imp ?_; intro K hK; simp only [go_sem, hP, hn]; (repeat refine vc ?_); refine hK _ ?_; clear K hK
      (repeat refine TS.imp ?_)
      rw [w64 (x := i + 1) (by omega) (by omega)]
      refine ⟨q - 1, _, by omega, ?_, i + 1, W, rfl, by omega, by omega, ?_, by rw [hv2]; exact hv⟩
      · exact (Le.mv (by simp only [go_sem, hP, hn]; first | done | (simp; done) | (simp [intC]; done) | (repeat (first | rfl | constructor))) (by simp only [go_sem, hP, hn]; first | done | (simp; done) | (simp [intC]; done) | (repeat (first | rfl | constructor))))
      · have h2 : ¬ i + 1 = 0 := by omega
        rw [hW, hc2.2]
        simp only [hi0, h2, if_false, Bool.false_eq_true]
  · have hi : i = fs.length := by have := of_decide_eq_false hb; omega
    rw [List.drop_of_length_le (by omega), frsOk, Bool.true_and] at hv
    have hW2 : (fs.length : Int) ≠ 0 → W = wdsV n fs := fun e => by
      rw [hW, hi, Int.toNat_natCast]
      unfold wdsV
      split
      · rw [List.take_of_length_le (by simp)]
      · simp only [e, if_false]
    subst hi
    refine Tr.le (Le.freeze 3001) ?_
    simp only [go_sem, hP, hn]
    (repeat refine TS.imp ?_)
    cases hz : ((fs.length : Int) == 0) with
    | true =>
      rw [hz] at hv
      have hl0 : fs.length = 0 := by have : (fs.length : Int) = 0 := by simpa using hz
                                     omega
      have hWl : W.length ≤ 65536 := by
        rw [hW]
        split
        · simp; omega
        · split <;> simp
      refine TR.imp ?_; intro K hK; simp only [go_sem, hP, hn]; (repeat refine vc ?_); refine c2 (fun hg => by rw [hP, hT]; exact Check_r Tm n W hwl hbl hWl hil) rfl rfl rfl (fun hg => trivial) (fun hg => by clear hK; revert hg; simp only [go_sem, hP, hn]; first | trivial | omega | (simp; done) | (simp +contextual; done) | grind) (fun hg => by simp only [go_sem, hP, hn]; try rfl) (by rw [hn]; decide) (by rfl) ?_; simp only [go_sem, hP, hn]; (repeat refine vc ?_); refine hK _ ?_; clear K hK
      (repeat (first | (refine TR.imp ?_; intro K hK; simp only [go_sem, hP, hn]; (repeat refine vc ?_); refine hK _ ?_; clear K hK) | refine TS.imp ?_))
      simp only [RetG, go_sem]; (repeat with_reducible refine vc ?_)
      rw [hv, hl0]; rfl
    | false =>
      rw [hz] at hv
      have hl0 : (fs.length : Int) ≠ 0 := by simpa using hz
      have hd : decide (0 < (fs.length : Int)) = true := decide_eq_true (by omega)
      rw [hW2 hl0]
      refine TR.imp ?_; intro K hK; simp only [go_sem, hP, hn]; (repeat refine vc ?_); refine c2 (fun hg => by rw [hP, hT]; exact Check_r Tm n (wdsV n fs) hwl hbl hrl hil) rfl rfl rfl (fun hg => trivial) (fun hg => by clear hK; revert hg; simp only [go_sem, hP, hn]; first | trivial | omega | (simp; done) | (simp +contextual; done) | grind) (fun hg => by simp only [go_sem, hP, hn]; try rfl) (by rw [hn]; decide) (by rfl) ?_; simp only [go_sem, hP, hn]; (repeat refine vc ?_); refine hK _ ?_; clear K hK
      (repeat (first | (refine TR.imp ?_; intro K hK; simp only [go_sem, hP, hn]; (repeat refine vc ?_); refine hK _ ?_; clear K hK) | refine TS.imp ?_))
      simp only [RetG, go_sem]; (repeat with_reducible refine vc ?_)
      rw [hv, hd]; rfl
end
section
attribute [local go_sem] frD
theorem rFrame_w {T : World → Prop} (Tm : TP T) (n : Nd) (fs : List (List Int)) (w : Nat) (h : FOk n fs w) (hR : mayV n fs = true) : Cg Go.Proofs.Tryz.prog T 47 [] [.agg n.cs, .d (frD fs)] (fun r H => H = [] ∧ r = .d (.row [.i .i64 0] ((frameV n fs w).map intC))) := by
  have hm0 := h.m0
  have hw0 := h.w0
  have hf0 := h.f0
  have hRc := may_g Tm n fs (by omega) (Nat.le_trans h.wl (by decide)) (Nat.le_trans h.bl (by decide)) (Nat.le_trans h.il (by decide)) (fun f hf => Nat.le_trans (h.le f hf) (by decide))
  rw [hR] at hRc
  have hfr0 : (fs.map frE).getD 0 [.nil] = [.row [.i .i64 0] ((fr fs 0).map intC)] := rw_fr fs 0 (by omega) (by omega)
  refine Cg_of [] Tm Go.Proofs.Tryz.func47 rfl rfl Go.Proofs.Tryz.ntmps47 (by simp) rfl (rs := [.tmp 4]) rfl fun E hP hn hT hpn => ?_
  (repeat refine TS.imp ?_)
  refine TR.imp ?_; intro K hK; simp only [go_sem, hP, hn]; (repeat refine vc ?_); refine hK _ ?_; clear K hK
  (repeat refine TS.imp ?_)
  refine TR.imp ?_; intro K hK; simp only [go_sem, hP, hn]
  (repeat refine vc ?_)
  refine CallN_cs (Hi := [] ) (by rw [hP, hT]; exact  hRc) rfl rfl rfl trivial (by simp only [go_sem, hP, hn]; try trivial) (by simp only [go_sem, hP, hn]; try rfl) (by simp only [inH, go_sem, hP, hn]; try simp) (by rw [hn]; decide) ?_; simp only [go_sem, hP, hn]; (repeat refine vc ?_)
  refine hK _ ?_; clear K hK
  (repeat refine TS.imp ?_)
  refine TR.imp ?_; intro K hK; simp only [go_sem, hP, hn]; (repeat refine vc ?_); refine hK _ ?_; clear K hK
  (repeat refine TS.imp ?_)
  refine Tr.cond rfl (fun h0 => ?_) (fun h0 => ?_)
  · cases h0
  clear h0
  (repeat refine TS.imp ?_)
  refine TR.imp ?_; intro K hK; simp only [go_sem, hP, hn]; (repeat refine vc ?_); refine hK _ ?_; clear K hK
  refine Tr.le (Le.keep [1, 2, 6]) ?_; simp only [List.map_cons, List.map_nil, lk, Nat.reduceEqDiff, reduceIte]
  refine Tr.le (Le.nilslot 3001 6 3 [.i .i64 0] rfl (by rw [hpn] <;> rfl) rfl rfl) ?_
  refine Tr.seq ?_
  refine Tr.meet (fun s => (rWeighs n.k = false ∧ n.k ≠ 8 ∧ n.k ≠ 11) ∧ s = ⟨[(1, .d (frD fs)), (2, .ptr 2 0), (6, .own 3001)], [(2, .box 50 n.cs), (3001, .row 3 [.i .i64 0] (([] : List Int).map intC))]⟩) ?_ ?_
  rotate_left
  · (repeat refine TS.imp ?_)
    refine TR.imp ?_; intro K hK; simp only [go_sem, hP, hn]; (repeat refine vc ?_); refine hK _ ?_; clear K hK
    refine Tr.le (Le.keep [1, 2, 6, 17]) ?_; simp only [List.map_cons, List.map_nil, lk, Nat.reduceEqDiff, reduceIte]
    refine Tr.block ?_
    refine Tr.seq ?_
    refine Tr.meet (fun s => s = ⟨[(1, .d (frD fs)), (2, .ptr 2 0), (6, .own 3001), (17, .d (.i .i64 n.k)), (18, .d (.b (rWeighs n.k)))], [(2, .box 50 n.cs), (3001, .row 3 [.i .i64 0] (([] : List Int).map intC))]⟩) ?_ ?_
    rotate_left
    · (repeat refine TS.imp ?_)
      refine TR.imp ?_; intro K hK; simp only [go_sem, hP, hn]; (repeat refine vc ?_); refine hK _ ?_; clear K hK
      (repeat refine TS.imp ?_)
      refine Tr.cond rfl (fun h1 => ?_) (fun h1 => ?_)
      · rw [h1, show rWeighs n.k = true by unfold rWeighs; rw [h1]; rfl]
        (repeat refine TS.imp ?_)
        exact ⟨_, (Le.mv (by simp only [go_sem, hP, hn]; first | done | (simp; done) | (simp [intC]; done) | (repeat (first | rfl | constructor))) (by simp only [go_sem, hP, hn]; first | done | (simp; done) | (simp [intC]; done) | (repeat (first | rfl | constructor)))), rfl⟩
      (repeat refine TS.imp ?_)
      refine TR.imp ?_; intro K hK; simp only [go_sem, hP, hn]; (repeat refine vc ?_); refine hK _ ?_; clear K hK
      (repeat refine TS.imp ?_)
      refine Tr.cond rfl (fun h2 => ?_) (fun h2 => ?_)
      · rw [h2, show rWeighs n.k = true by unfold rWeighs; rw [h2, Bool.or_true]; rfl]
        (repeat refine TS.imp ?_)
        exact ⟨_, (Le.mv (by simp only [go_sem, hP, hn]; first | done | (simp; done) | (simp [intC]; done) | (repeat (first | rfl | constructor))) (by simp only [go_sem, hP, hn]; first | done | (simp; done) | (simp [intC]; done) | (repeat (first | rfl | constructor)))), rfl⟩
      (repeat refine TS.imp ?_)
      refine TR.imp ?_; intro K hK; simp only [go_sem, hP, hn]; (repeat refine vc ?_); refine hK _ ?_; clear K hK
      (repeat refine TS.imp ?_)
      rw [show rWeighs n.k = (n.k == 6) by unfold rWeighs; rw [h1, h2]; rfl]
      exact ⟨_, (Le.mv (by simp only [go_sem, hP, hn]; first | done | (simp; done) | (simp [intC]; done) | (repeat (first | rfl | constructor))) (by simp only [go_sem, hP, hn]; first | done | (simp; done) | (simp [intC]; done) | (repeat (first | rfl | constructor)))), rfl⟩
    rintro s rfl
    (repeat refine TS.imp ?_)
    refine Tr.cond rfl (fun hw => ?_) (fun hw => ?_)
    · (repeat refine TS.imp ?_)
      refine TR.imp ?_; intro K hK; simp only [go_sem, hP, hn]
      (repeat refine vc ?_)
      refine CallN_cs (Hi := [] ) (by rw [hP, hT]; exact  rweighed_c Tm n fs w ((h.kok (by unfold rWeighs at hw; simp only [Bool.or_eq_true, beq_iff_eq] at hw; omega)).wok hw) h.post) rfl rfl rfl trivial (by simp only [go_sem, hP, hn]; try trivial) (by simp only [go_sem, hP, hn]; try rfl) (by simp only [inH, go_sem, hP, hn]; try simp) (by rw [hn]; decide) ?_; simp only [go_sem, hP, hn]; (repeat refine vc ?_)
      refine hK _ ?_; clear K hK
      (repeat (first | (refine TR.imp ?_; intro K hK; simp only [go_sem, hP, hn]; (repeat refine vc ?_); refine hK _ ?_; clear K hK) | refine TS.imp ?_))
      simp only [RetG, go_sem]; (repeat with_reducible refine vc ?_)
      unfold frameV
      rw [if_pos hw]
    (repeat refine TS.imp ?_)
    refine TR.imp ?_; intro K hK; simp only [go_sem, hP, hn]; (repeat refine vc ?_); refine hK _ ?_; clear K hK
    (repeat refine TS.imp ?_)
    refine Tr.cond rfl (fun h8 => ?_) (fun h8 => ?_)
    · have hk8 : n.k = 8 := by simpa using h8
      have hFv : frameV n fs w = fs.flatten := by
        unfold frameV
        rw [if_neg (by rw [hw]; decide), if_neg (by omega), if_neg (by omega), if_neg (by omega), if_neg (by omega), if_neg (by omega), if_neg (by omega)]
      rw [hFv]
      (repeat refine TS.imp ?_)
      refine TR.imp ?_; intro K hK; simp only [go_sem, hP, hn]; (repeat refine vc ?_); refine hK _ ?_; clear K hK
      (repeat refine TS.imp ?_)
      refine Tr.le (Le.keep [1, 6, 7]) ?_; simp only [List.map_cons, List.map_nil, lk, Nat.reduceEqDiff, reduceIte]
      refine Tr.loop (fun q s => ∃ (i : Int) (L : List Int), s = ⟨[(1, .d (frD fs)), (6, .own 3001), (7, .d (.i .i64 i))], [(3001, .row 3 [.i .i64 0] (L.map intC))]⟩ ∧ 0 ≤ i ∧ i + q = fs.length ∧ L = (fs.take i.toNat).flatten ∧ L.length ≤ i.toNat * 16) fs.length ⟨_, (Le.mv (by simp only [go_sem, hP, hn]; first | done | (simp; done) | (simp [intC]; done) | (repeat (first | rfl | constructor))) (by simp only [go_sem, hP, hn]; first | done | (simp; done) | (simp [intC]; done) | (repeat (first | rfl | constructor)))), 0, [], rfl, by omega, by omega, rfl, by simp⟩ ?_
      rintro q s ⟨i, L, rfl, i0, iq, hL, hLl⟩
      (repeat refine TS.imp ?_)
      refine TR.imp ?_; intro K hK; simp only [go_sem, hP, hn]; (repeat refine vc ?_); refine hK _ ?_; clear K hK
      (repeat refine TS.imp ?_)
      refine Tr.cond rfl (fun hb => ?_) (fun hb => ?_)
      · have hi : i < fs.length := by simpa using hb
        have hfl := h.le _ (fr_mem i0 hi)
        clear hb
        (repeat refine TS.imp ?_)
        refine TR.imp ?_; intro K hK; simp only [go_sem, hP, hn]
        rw [rw_fr fs i i0 hi]
        simp only [go_sem, hP, hn]
        (repeat refine vc ?_)
        refine hK _ ?_; clear K hK
        (repeat refine TS.imp ?_)
        refine TR.imp ?_; intro K hK; simp only [go_sem, hP, hn]; (repeat refine vc ?_); refine hK _ ?_; clear K hK
        (repeat refine TS.imp ?_)
        rw [w64 (x := i + 1) (by omega) (by omega)]
        refine ⟨q - 1, _, by omega, ?_, i + 1, L ++ fr fs i, rfl, by omega, by omega, ?_, by rw [List.length_append]; omega⟩
        · refine Le.trans (b := ⟨[(1, .d (frD fs)), (6, .own 38), (7, .d (.i .i64 (i + 1)))], [(38, .row 3 [.i .i64 0] ((L ++ fr fs i).map intC))]⟩) (Le.mv (by simp only [go_sem, hP, hn]; first | done | (simp; done) | (simp [intC]; done) | (repeat (first | rfl | constructor))) (by simp only [go_sem, hP, hn]; first | done | (simp; done) | (simp [intC]; done) | (repeat (first | rfl | constructor)))) ?_
          refine Le.trans (Le.ren 38 3001 (by rw [hpn] <;> rfl) rfl rfl) ?_; simp only [renT, renH, renO, renS, renL, rn, go_sem, hP, hn]
          exact (Le.mv (by simp only [go_sem, hP, hn]; first | done | (simp; done) | (simp [intC]; done) | (repeat (first | rfl | constructor))) (by simp only [go_sem, hP, hn]; first | done | (simp; done) | (simp [intC]; done) | (repeat (first | rfl | constructor))))
        · have hk : i.toNat < fs.length := by omega
          rw [hL, show (i + 1).toNat = i.toNat + 1 by omega, List.take_succ_eq_append_getElem hk, List.flatten_append]
          unfold fr
          rw [List.getD_eq_getElem?_getD, List.getElem?_eq_getElem hk]
          simp
      · have hi : i = fs.length := by have := of_decide_eq_false hb; omega
        subst hi
        rw [Int.toNat_natCast, List.take_of_length_le (Nat.le_refl _)] at hL
        subst hL
        refine Tr.le (Le.freeze 3001) ?_
        simp only [go_sem, hP, hn]
        (repeat (first | (refine TR.imp ?_; intro K hK; simp only [go_sem, hP, hn]; (repeat refine vc ?_); refine hK _ ?_; clear K hK) | refine TS.imp ?_))
        simp only [RetG, go_sem]; (repeat with_reducible refine vc ?_)
    have hk8 : n.k ≠ 8 := by simpa using h8
    (repeat refine TS.imp ?_)
    refine TR.imp ?_; intro K hK; simp only [go_sem, hP, hn]; (repeat refine vc ?_); refine hK _ ?_; clear K hK
    (repeat refine TS.imp ?_)
    refine Tr.cond rfl (fun hb => ?_) (fun hb => ?_)
    · have hk11 : n.k = 11 := by simpa using hb
      (repeat refine TS.imp ?_)
      refine TR.imp ?_; intro K hK; simp only [go_sem, hP, hn]
      rw [hfr0]
      simp only [go_sem, hP, hn]
      (repeat refine vc ?_)
      refine c1 (by rw [hP, hT]; exact rmost_c Tm (fr fs 0) (by omega) (by omega)) rfl rfl rfl trivial (by simp only [go_sem, hP, hn]; try trivial) (by simp only [go_sem, hP, hn]; try rfl) (by rw [hn]; decide) (by rfl) ?_; simp only [go_sem, hP, hn]; (repeat refine vc ?_)
      (repeat refine vc ?_)
      refine hK _ ?_; clear K hK
      refine Tr.le (Le.freeze 46) ?_
      simp only [go_sem, hP, hn]
      (repeat (first | (refine TR.imp ?_; intro K hK; simp only [go_sem, hP, hn]; (repeat refine vc ?_); refine hK _ ?_; clear K hK) | refine TS.imp ?_))
      simp only [RetG, go_sem]; (repeat with_reducible refine vc ?_)
      unfold frameV
      rw [if_neg (by rw [hw]; decide), if_neg (by omega), if_neg (by omega), if_neg (by omega), if_neg (by omega), if_neg (by omega), if_pos hk11]
      rfl
    have hk11 : n.k ≠ 11 := by simpa using hb
    (repeat refine TS.imp ?_)
    exact ⟨_, (Le.mv (by simp only [go_sem, hP, hn]; first | done | (simp; done) | (simp [intC]; done) | (repeat (first | rfl | constructor))) (by simp only [go_sem, hP, hn]; first | done | (simp; done) | (simp [intC]; done) | (repeat (first | rfl | constructor)))), ⟨by simpa using hw, hk8, hk11⟩, rfl⟩
  rintro s ⟨⟨hw, h8, h11⟩, rfl⟩
  have hkk := h.kok h8
  rw [frame_each hkk hw h8 h11]
  (repeat refine TS.imp ?_)
  refine TR.imp ?_; intro K hK; simp only [go_sem, hP, hn]; (repeat refine vc ?_); refine hK _ ?_; clear K hK
  (repeat refine TS.imp ?_)
  refine Tr.le (Le.keep [1, 2, 6, 8]) ?_; simp only [List.map_cons, List.map_nil, lk, Nat.reduceEqDiff, reduceIte]
  refine Tr.loop (fun q s => ∃ (k : Int) (L : List Int), s = ⟨[(1, .d (frD fs)), (2, .ptr 2 0), (6, .own 3001), (8, .d (.i .i64 k))], [(2, .box 50 n.cs), (3001, .row 3 [.i .i64 0] (L.map intC))]⟩ ∧ 0 ≤ k ∧ k + q = w ∧ L = eachL (gV n) fs k.toNat) w ⟨_, (Le.mv (by simp only [go_sem, hP, hn]; first | done | (simp; done) | (simp [intC]; done) | (repeat (first | rfl | constructor))) (by simp only [go_sem, hP, hn]; first | done | (simp; done) | (simp [intC]; done) | (repeat (first | rfl | constructor)))), 0, [], rfl, by omega, by omega, rfl⟩ ?_
  rintro q s ⟨k, L, rfl, k0, kq, hL⟩
  have hLl : L.length ≤ 16 := by rw [hL, eachL_len]; omega
  (repeat refine TS.imp ?_)
  refine TR.imp ?_; intro K hK; simp only [go_sem, hP, hn]
  rw [hfr0]
  simp only [go_sem, hP, hn]
  rw [hf0]
  (repeat refine vc ?_)
  refine hK _ ?_; clear K hK
  (repeat refine TS.imp ?_)
  refine Tr.cond rfl (fun hb => ?_) (fun hb => ?_)
  · have hk : k < w := by simpa using hb
    have hcl := col_len fs k
    have hc32 := hkk.col k0 hk
    have hE : eachL (gV n) fs (k + 1).toNat = L ++ [gV n (col fs k)] := by
      rw [show (k + 1).toNat = k.toNat + 1 by omega, eachL_take, Int.toNat_of_nonneg k0, hL]
    clear hb hL
    (repeat refine TS.imp ?_)
    refine TR.imp ?_; intro K hK; simp only [go_sem, hP, hn]
    (repeat refine vc ?_)
    refine CallN_cs (Hi := [] ) (by rw [hP, hT]; exact  column_c Tm fs k (by omega) k0 (fun f hf => by rw [hkk.len f hf]; exact hk)) rfl rfl rfl trivial (by simp only [go_sem, hP, hn]; try trivial) (by simp only [go_sem, hP, hn]; try rfl) (by simp only [inH, go_sem, hP, hn]; try simp) (by rw [hn]; decide) ?_; simp only [go_sem, hP, hn]; (repeat refine vc ?_)
    refine hK _ ?_; clear K hK
    generalize col fs k = xs at *
    refine Tr.le (Le.keep [1, 2, 6, 8, 9]) ?_; simp only [List.map_cons, List.map_nil, lk, Nat.reduceEqDiff, reduceIte]
    (repeat refine TS.imp ?_)
    refine TR.imp ?_; intro K hK; simp only [go_sem, hP, hn]; (repeat refine vc ?_); refine hK _ ?_; clear K hK
    refine Tr.seq ?_
    refine Tr.meet (fun s => s = ⟨[(1, .d (frD fs)), (2, .ptr 2 0), (6, .own 3001), (8, .d (.i .i64 k)), (10, .d (.i .i64 (gV n xs))), (9, .d (.row [.i .i64 0] (xs.map intC)))], [(2, .box 50 n.cs), (3001, .row 3 [.i .i64 0] (L.map intC))]⟩) ?_ ?_
    rotate_left
    · unfold gV
      (repeat refine TS.imp ?_)
      refine TR.imp ?_; intro K hK; simp only [go_sem, hP, hn]; (repeat refine vc ?_); refine hK _ ?_; clear K hK
      refine Tr.block ?_
      refine Tr.seq ?_
      refine Tr.meet (fun s => s = ⟨[(1, .d (frD fs)), (2, .ptr 2 0), (6, .own 3001), (8, .d (.i .i64 k)), (10, .d (.i .i64 (rd xs 0))), (62, .d (.i .i64 n.k)), (63, .d (.b (n.k == 3 || n.k == 5))), (9, .d (.row [.i .i64 0] (xs.map intC)))], [(2, .box 50 n.cs), (3001, .row 3 [.i .i64 0] (L.map intC))]⟩) ?_ ?_
      rotate_left
      · (repeat refine TS.imp ?_)
        refine TR.imp ?_; intro K hK; simp only [go_sem, hP, hn]; (repeat refine vc ?_); refine hK _ ?_; clear K hK
        (repeat refine TS.imp ?_)
        refine Tr.cond rfl (fun h1 => ?_) (fun h1 => ?_)
        · rw [h1, Bool.true_or]
          (repeat refine TS.imp ?_)
          exact ⟨_, (Le.mv (by simp only [go_sem, hP, hn]; first | done | (simp; done) | (simp [intC]; done) | (repeat (first | rfl | constructor))) (by simp only [go_sem, hP, hn]; first | done | (simp; done) | (simp [intC]; done) | (repeat (first | rfl | constructor)))), rfl⟩
        (repeat refine TS.imp ?_)
        refine TR.imp ?_; intro K hK; simp only [go_sem, hP, hn]; (repeat refine vc ?_); refine hK _ ?_; clear K hK
        (repeat refine TS.imp ?_)
        rw [h1, Bool.false_or]
        exact ⟨_, (Le.mv (by simp only [go_sem, hP, hn]; first | done | (simp; done) | (simp [intC]; done) | (repeat (first | rfl | constructor))) (by simp only [go_sem, hP, hn]; first | done | (simp; done) | (simp [intC]; done) | (repeat (first | rfl | constructor)))), rfl⟩
      rintro s rfl
      (repeat refine TS.imp ?_)
      refine Tr.cond rfl (fun h3 => ?_) (fun h3 => ?_)
      · rw [if_pos (by simpa using h3)]
        have hmb := mostV_b xs (by omega)
        (repeat refine TS.imp ?_)
        refine TR.imp ?_; intro K hK; simp only [go_sem, hP, hn]
        (repeat refine vc ?_)
        refine c1 (by rw [hP, hT]; exact rmost_c Tm xs (by omega) (by omega)) rfl rfl rfl trivial (by simp only [go_sem, hP, hn]; try trivial) (by simp only [go_sem, hP, hn]; try rfl) (by rw [hn]; decide) (by rfl) ?_; simp only [go_sem, hP, hn]; (repeat refine vc ?_)
        (repeat refine vc ?_)
        refine hK _ ?_; clear K hK
        (repeat refine TS.imp ?_)
        exact ⟨_, (Le.mv (by simp only [go_sem, hP, hn]; first | done | (simp; done) | (simp [intC]; done) | (repeat (first | rfl | constructor))) (by simp only [go_sem, hP, hn]; first | done | (simp; done) | (simp [intC]; done) | (repeat (first | rfl | constructor)))), rfl⟩
      rw [if_neg (by simpa using h3)]
      clear h3
      refine Tr.seq ?_
      refine Tr.meet (fun s => s = ⟨[(1, .d (frD fs)), (2, .ptr 2 0), (6, .own 3001), (8, .d (.i .i64 k)), (10, .d (.i .i64 (rd xs 0))), (62, .d (.i .i64 n.k)), (71, .d (.b (n.k == 4 || n.k == 12))), (9, .d (.row [.i .i64 0] (xs.map intC)))], [(2, .box 50 n.cs), (3001, .row 3 [.i .i64 0] (L.map intC))]⟩) ?_ ?_
      rotate_left
      · (repeat refine TS.imp ?_)
        refine TR.imp ?_; intro K hK; simp only [go_sem, hP, hn]; (repeat refine vc ?_); refine hK _ ?_; clear K hK
        (repeat refine TS.imp ?_)
        refine Tr.cond rfl (fun h1 => ?_) (fun h1 => ?_)
        · rw [h1, Bool.true_or]
          (repeat refine TS.imp ?_)
          exact ⟨_, (Le.mv (by simp only [go_sem, hP, hn]; first | done | (simp; done) | (simp [intC]; done) | (repeat (first | rfl | constructor))) (by simp only [go_sem, hP, hn]; first | done | (simp; done) | (simp [intC]; done) | (repeat (first | rfl | constructor)))), rfl⟩
        (repeat refine TS.imp ?_)
        refine TR.imp ?_; intro K hK; simp only [go_sem, hP, hn]; (repeat refine vc ?_); refine hK _ ?_; clear K hK
        (repeat refine TS.imp ?_)
        rw [h1, Bool.false_or]
        exact ⟨_, (Le.mv (by simp only [go_sem, hP, hn]; first | done | (simp; done) | (simp [intC]; done) | (repeat (first | rfl | constructor))) (by simp only [go_sem, hP, hn]; first | done | (simp; done) | (simp [intC]; done) | (repeat (first | rfl | constructor)))), rfl⟩
      rintro s rfl
      (repeat refine TS.imp ?_)
      refine Tr.cond rfl (fun h4 => ?_) (fun h4 => ?_)
      · rw [if_pos (by simpa using h4)]
        (repeat refine TS.imp ?_)
        refine TR.imp ?_; intro K hK; simp only [go_sem, hP, hn]; (repeat refine vc ?_); refine c1 (by rw [hP, hT]; exact rMean_c Tm xs (by omega) (by omega) hc32) rfl rfl rfl trivial (by simp only [go_sem, hP, hn]; try trivial) (by simp only [go_sem, hP, hn]; try rfl) (by rw [hn]; decide) (by rfl) ?_; simp only [go_sem, hP, hn]; (repeat refine vc ?_); refine hK _ ?_; clear K hK
        (repeat refine TS.imp ?_)
        exact ⟨_, (Le.mv (by simp only [go_sem, hP, hn]; first | done | (simp; done) | (simp [intC]; done) | (repeat (first | rfl | constructor))) (by simp only [go_sem, hP, hn]; first | done | (simp; done) | (simp [intC]; done) | (repeat (first | rfl | constructor)))), rfl⟩
      rw [if_neg (by simpa using h4)]
      clear h4
      (repeat refine TS.imp ?_)
      refine TR.imp ?_; intro K hK; simp only [go_sem, hP, hn]; (repeat refine vc ?_); refine hK _ ?_; clear K hK
      (repeat refine TS.imp ?_)
      refine Tr.cond rfl (fun h7 => ?_) (fun h7 => ?_)
      · rw [if_pos (by simpa using h7)]
        (repeat refine TS.imp ?_)
        refine TR.imp ?_; intro K hK; simp only [go_sem, hP, hn]; (repeat refine vc ?_); refine c1 (by rw [hP, hT]; exact rAdd_c Tm xs (by omega) hc32) rfl rfl rfl trivial (by simp only [go_sem, hP, hn]; try trivial) (by simp only [go_sem, hP, hn]; try rfl) (by rw [hn]; decide) (by rfl) ?_; simp only [go_sem, hP, hn]; (repeat refine vc ?_); refine hK _ ?_; clear K hK
        (repeat refine TS.imp ?_)
        exact ⟨_, (Le.mv (by simp only [go_sem, hP, hn]; first | done | (simp; done) | (simp [intC]; done) | (repeat (first | rfl | constructor))) (by simp only [go_sem, hP, hn]; first | done | (simp; done) | (simp [intC]; done) | (repeat (first | rfl | constructor)))), rfl⟩
      rw [if_neg (by simpa using h7)]
      clear h7
      (repeat refine TS.imp ?_)
      refine TR.imp ?_; intro K hK; simp only [go_sem, hP, hn]; (repeat refine vc ?_); refine hK _ ?_; clear K hK
      (repeat refine TS.imp ?_)
      refine Tr.cond rfl (fun h9 => ?_) (fun h9 => ?_)
      · rw [if_pos (by simpa using h9)]
        (repeat refine TS.imp ?_)
        refine TR.imp ?_; intro K hK; simp only [go_sem, hP, hn]; (repeat refine vc ?_); refine c1 (by rw [hP, hT]; exact rClamp_c Tm (rd xs 0) n.low n.high) rfl rfl rfl trivial (by simp only [go_sem, hP, hn]; try trivial) (by simp only [go_sem, hP, hn]; try rfl) (by rw [hn]; decide) (by rfl) ?_; simp only [go_sem, hP, hn]; (repeat refine vc ?_); refine hK _ ?_; clear K hK
        (repeat refine TS.imp ?_)
        exact ⟨_, (Le.mv (by simp only [go_sem, hP, hn]; first | done | (simp; done) | (simp [intC]; done) | (repeat (first | rfl | constructor))) (by simp only [go_sem, hP, hn]; first | done | (simp; done) | (simp [intC]; done) | (repeat (first | rfl | constructor)))), rfl⟩
      rw [if_neg (by simpa using h9)]
      clear h9
      (repeat refine TS.imp ?_)
      refine TR.imp ?_; intro K hK; simp only [go_sem, hP, hn]; (repeat refine vc ?_); refine hK _ ?_; clear K hK
      (repeat refine TS.imp ?_)
      refine Tr.cond rfl (fun hx => ?_) (fun hx => ?_)
      · rw [if_pos (by simpa using hx)]
        (repeat refine TS.imp ?_)
        refine TR.imp ?_; intro K hK; simp only [go_sem, hP, hn]; (repeat refine vc ?_); refine c1 (by rw [hP, hT]; exact rScale_c Tm (rd xs 0) n.mult n.shift (hc32 _ (rd_mem (by decide) (by omega)))) rfl rfl rfl trivial (by simp only [go_sem, hP, hn]; try trivial) (by simp only [go_sem, hP, hn]; try rfl) (by rw [hn]; decide) (by rfl) ?_; simp only [go_sem, hP, hn]; (repeat refine vc ?_); refine hK _ ?_; clear K hK
        (repeat refine TS.imp ?_)
        exact ⟨_, (Le.mv (by simp only [go_sem, hP, hn]; first | done | (simp; done) | (simp [intC]; done) | (repeat (first | rfl | constructor))) (by simp only [go_sem, hP, hn]; first | done | (simp; done) | (simp [intC]; done) | (repeat (first | rfl | constructor)))), rfl⟩
      rw [if_neg (by simpa using hx)]
      (repeat refine TS.imp ?_)
      exact ⟨_, (Le.mv (by simp only [go_sem, hP, hn]; first | done | (simp; done) | (simp [intC]; done) | (repeat (first | rfl | constructor))) (by simp only [go_sem, hP, hn]; first | done | (simp; done) | (simp [intC]; done) | (repeat (first | rfl | constructor)))), rfl⟩
    rintro s rfl
    (repeat refine TS.imp ?_)
    refine TR.imp ?_; intro K hK; simp only [go_sem, hP, hn]; (repeat refine vc ?_); refine hK _ ?_; clear K hK
    (repeat refine TS.imp ?_)
    refine TR.imp ?_; intro K hK; simp only [go_sem, hP, hn]; (repeat refine vc ?_); refine hK _ ?_; clear K hK
    (repeat refine TS.imp ?_)
    rw [w64 (x := k + 1) (by omega) (by omega)]
    refine ⟨q - 1, _, by omega, ?_, k + 1, L ++ [gV n xs], rfl, by omega, by omega, hE.symm⟩
    refine Le.trans (b := ⟨[(1, .d (frD fs)), (2, .ptr 2 0), (6, .own 99), (8, .d (.i .i64 (k + 1)))], [(2, .box 50 n.cs), (99, .row 3 [.i .i64 0] ((L ++ [gV n xs]).map intC))]⟩) (Le.mv (by simp only [go_sem, hP, hn]; first | done | (simp; done) | (simp [intC]; done) | (repeat (first | rfl | constructor))) (by simp only [go_sem, hP, hn]; first | done | (simp; done) | (simp [intC]; done) | (repeat (first | rfl | constructor)))) ?_
    refine Le.trans (Le.ren 99 3001 (by rw [hpn] <;> rfl) rfl rfl) ?_; simp only [renT, renH, renO, renS, renL, rn, go_sem, hP, hn]
    exact (Le.mv (by simp only [go_sem, hP, hn]; first | done | (simp; done) | (simp [intC]; done) | (repeat (first | rfl | constructor))) (by simp only [go_sem, hP, hn]; first | done | (simp; done) | (simp [intC]; done) | (repeat (first | rfl | constructor))))
  · have hk : k = w := by have := of_decide_eq_false hb; omega
    subst hk
    rw [Int.toNat_natCast] at hL
    subst hL
    refine Tr.le (Le.freeze 3001) ?_
    simp only [go_sem, hP, hn]
    (repeat (first | (refine TR.imp ?_; intro K hK; simp only [go_sem, hP, hn]; (repeat refine vc ?_); refine hK _ ?_; clear K hK) | refine TS.imp ?_))
    simp only [RetG, go_sem]; (repeat with_reducible refine vc ?_)
end
set_option maxRecDepth 100000
/-! all frames of a made graph's nodes -/
def strL (ns : List Nd) (W : List Int) (fs : List (List Int)) : List (List (List Int)) := ordL [] (fun u _ i => frF ns W u i) (order ns) (fs :: List.replicate ns.length [])
theorem strL_len (ns : List Nd) (W : List Int) (fs : List (List Int)) : (strL ns W fs).length = ns.length + 1 := by
  unfold strL; rw [ordL_len]; simp
theorem SG.mono {w : Int} {a b : Nat} {s : List (List Int)} (h : SG w a s) (hab : a ≤ b) : SG w b s := ⟨h.wid, h.num, Nat.le_trans h.len hab⟩
theorem may_rng {wd lo hi out : Int} {ns : List Nd} (h : mayG wd lo hi out ns = 0) : (1 ≤ wd ∧ wd ≤ 16) ∧ lo ≤ hi ∧ -32768 ≤ lo ∧ hi ≤ 32767 ∧ 1 ≤ out ∧ out ≤ ns.length := by
  unfold mayG at h
  split at h
  · cases h
  · split at h
    · cases h
    · rename_i hq
      unfold mayQ at hq
      simp at hq
      omega
section
variable {wd lo hi out : Int} {ns : List Nd} {W R : Int → Int} {rk : Int → Nat} {W2 R2 : List Int} (h : GF wd lo hi out ns W R rk W2 R2)
include h
theorem GF.may : mayG wd lo hi out ns = 0 := by
  have h2 := h.look
  unfold lookG at h2
  by_cases hz : mayG wd lo hi out ns = 0
  · exact hz
  · rw [if_pos (by simpa using hz)] at h2
    exact absurd (congrArg Prod.fst h2) hz
theorem GF.sg0 {many : Int} {fs : List (List Int)} (hfs : Fin18 wd lo hi many fs) (hm : 0 ≤ many ∧ many ≤ 1000) : SG (W 0) (1000 + 10 * rk 0) fs := by
  have hr := may_rng h.may
  have := hfs.len
  refine ⟨fun f hf => ?_, fun f hf x hx => ?_, by omega⟩
  · rw [h.gg.W0]; exact hfs.wid f hf
  · have := hfs.num f hf x hx
    exact ⟨by omega, by omega⟩
theorem GF.w2 {i : Int} (i1 : 1 ≤ i) (i2 : i ≤ ns.length) : rd W2 (rd (nd ns (i - 1)).inn 0) = W (rd (nd ns (i - 1)).inn 0) := by
  have hn := (h.gg.node i i1 i2).1
  have := hn.inn _ (rd_mem (l := (nd ns (i - 1)).inn) (j := 0) (by omega) (by have := hn.l1; omega))
  exact (h.eq _ this.1 this.2.1).1
theorem GF.sgs {u : Int → List (List Int)} {i : Int} (i1 : 1 ≤ i) (i2 : i ≤ ns.length) (hu : ∀ j ∈ (nd ns (i - 1)).inn, SG (W j) (1000 + 10 * rk j) (u j)) : ∃ b : Nat, b ≤ 1200 ∧ b + 10 = 1000 + 10 * rk i ∧ ∀ j ∈ (nd ns (i - 1)).inn, SG (W j) b (u j) := by
  have hn := (h.gg.node i i1 i2).1
  have h0 := hn.inn _ (rd_mem (l := (nd ns (i - 1)).inn) (j := 0) (by omega) (by have := hn.l1; omega))
  have hk := h.rank i (by omega) i2
  exact ⟨1000 + 10 * (rk i - 1), by omega, by omega, fun j hj => (hu j hj).mono (by have := (hn.inn j hj).2.2; omega)⟩
theorem GF.sg_step {u : Int → List (List Int)} {i : Int} (i1 : 1 ≤ i) (i2 : i ≤ ns.length) (hu : ∀ j ∈ (nd ns (i - 1)).inn, SG (W j) (1000 + 10 * rk j) (u j)) : SG (W i) (1000 + 10 * rk i) (frF ns W2 u i) := by
  obtain ⟨b, hb, e, hs⟩ := h.sgs i1 i2 hu
  have hn := (h.gg.node i i1 i2).1
  unfold frF
  rw [h.w2 i1 i2, ← e]
  exact hn.sg (by omega) hs
/-- along the order -/
theorem GF.strL_fx (fs : List (List Int)) : ga [] (strL ns W2 fs) 0 = fs ∧ ∀ i : Int, 1 ≤ i → i ≤ ns.length → ga [] (strL ns W2 fs) i = frF ns W2 (ga [] (strL ns W2 fs)) i := by
  obtain ⟨a, b⟩ := h.gg.ordL (d := ([] : List (List Int))) (f := fun u _ i => frF ns W2 u i) (fun u v _ i hj => frF_loc u v i hj) (fs :: List.replicate ns.length []) (by simp)
  exact ⟨a, fun i i1 i2 => b i i1 i2⟩
theorem GF.strL_sg {many : Int} {fs : List (List Int)} (hfs : Fin18 wd lo hi many fs) (hm : 0 ≤ many ∧ many ≤ 1000) : ∀ (r : Nat) (i : Int), 0 ≤ i → i ≤ ns.length → rk i ≤ r → SG (W i) (1000 + 10 * rk i) (ga [] (strL ns W2 fs) i)
  | r, i, i0, i1, hk => by
    obtain ⟨a, b⟩ := h.strL_fx fs
    rcases Int.lt_or_le 0 i with i2 | i2
    · have hn := (h.gg.node i i2 i1).1
      match r, hk with
      | 0, hk =>
        have := hn.inn _ (rd_mem (l := (nd ns (i - 1)).inn) (j := 0) (by omega) (by have := hn.l1; omega))
        omega
      | r + 1, hk =>
        rw [b i i2 i1]
        exact h.sg_step i2 i1 fun j hj => by
          have := hn.inn j hj
          exact GF.strL_sg hfs hm r j this.1 this.2.1 (by omega)
    · obtain rfl : i = 0 := by omega
      rw [a]
      exact h.sg0 hfs hm
end
theorem Node_g {T : World → Prop} (Tm : TP T) {wd lo hi out : Int} {ns : List Nd} {W R : Int → Int} {rk : Int → Nat} {W2 R2 : List Int} (h : GF wd lo hi out ns W R rk W2 R2) {i : Int} (i1 : 1 ≤ i) (i2 : i ≤ ns.length) {u : Int → List (List Int)} (hu : ∀ j ∈ (nd ns (i - 1)).inn, SG (W j) (1000 + 10 * rk j) (u j)) :
    Cg Go.Proofs.Tryz.prog T 27 [] [.agg (nd ns (i - 1)).cs, .d (insD ((nd ns (i - 1)).inn.map u)), .d (.i .i64 (rd W2 (rd (nd ns (i - 1)).inn 0)))] (fun r H => H = [] ∧ r = .d (frD (frF ns W2 u i))) := by
  obtain ⟨b, hb, e, hs⟩ := h.sgs i1 i2 hu
  have hn := (h.gg.node i i1 i2).1
  have hw2 := h.w2 i1 i2
  unfold frF
  rw [hw2]
  clear hw2
  generalize nd ns (i - 1) = n at *
  have hw := hn.w0
  obtain ⟨_, _, _, he, hsz, _⟩ := rchk_unpack hn.chk
  obtain ⟨l1, l2⟩ := hn.lens (u := u) (b := b) fun j hj => (hs j hj).len
  have hc := hn.cnt (by omega) l1 l2
  have key := fun (k : Int) (k0 : 0 ≤ k) (k1 : k < n.rCount ((n.inn.map u).map fun s => (s.length : Int))) => hn.ni (by omega) hs k0 k1
  have hl1 := hn.l1
  have hl2 := hn.l2
  generalize hwn : (W (rd n.inn 0)).toNat = w at *
  rw [show W (rd n.inn 0) = (w : Int) by omega]
  have hk : rWin n.k = false → n.k ≠ 5 → n.rCount ((n.inn.map u).map fun s => (s.length : Int)) = fewestV ((n.inn.map u).map fun s => (s.length : Int)) := fun hwin h5 => by
    unfold Nd.rCount
    rw [hwin, Bool.false_and, if_neg (by decide), show (n.k == 5) = false by simpa using h5, Bool.false_and, if_neg (by decide)]
  unfold nodeF
  generalize hC : n.rCount ((n.inn.map u).map fun s => (s.length : Int)) = C at *
  have hC2 : n.rCount ((n.inn.map u).map fun s => (s.length : Int)) = (C.toNat : Nat) := by rw [hC]; omega
  have a1 : 1 ≤ (n.inn.map u).length ∧ (n.inn.map u).length ≤ 4096 := by rw [List.length_map]; omega
  have a2 : w ≤ 65536 := by omega
  have a3 : C.toNat ≤ 65536 := by omega
  refine Node_c Tm n (n.inn.map u) w C.toNat (fun k => frameV n (inpF n (n.inn.map u) w k) w) a1 (fun s hs' => ?_) a2 hC2 a3 (fun _ => hn.st0) ?_ (fun hwin h5 s hs' => ?_) fun k k0 k1 => ?_
  · obtain ⟨j, hj, rfl⟩ := List.mem_map.1 hs'
    have := (hs j hj).len
    omega
  · by_cases hwin : rWin n.k = true
    · have := win_size hsz hwin; omega
    · have hwin : rWin n.k = false := by simpa using hwin
      have e8 : n.e8 = false := by
        unfold Nd.else0 at he
        cases e : n.e8 with
        | false => rfl
        | true => rw [e] at he; simp at he
      unfold Nd.e8 at e8
      rw [rWin_four] at hwin
      simp only [Bool.or_eq_false_iff] at hwin
      rw [hwin.1, show (n.k != 12) = true by have := hwin.2; simp at this; simpa using this] at e8
      simp at e8
      omega
  · have hk := hk hwin h5
    have hCt : (C.toNat : Int) = C := by omega
    refine Int.ofNat_le.1 ?_
    rw [hCt, hk]
    clear hk hC hC2 key hCt
    obtain ⟨j, hj, rfl⟩ := List.mem_map.1 hs'
    rcases inn12 hn with ⟨a, ha⟩ | ⟨a, c, ha⟩
    · rw [ha] at hj ⊢
      obtain rfl := List.mem_singleton.1 hj
      simp only [List.map_cons, List.map_nil]
      rw [fewest1 (by omega)]; omega
    · rw [ha] at hj ⊢
      simp only [List.map_cons, List.map_nil]
      rw [fewest2 (by omega) (by omega)]
      unfold mn
      split <;> rcases List.mem_cons.1 hj with rfl | hj <;> (try obtain rfl := List.mem_singleton.1 hj) <;> omega
  · have hk := key k k0 (by omega)
    have hf := hk.fok hn
    rw [hwn] at hf
    exact rFrame_w Tm n _ w hf (by rw [may_right]; exact hk.right hn)
theorem Streams_g {T : World → Prop} (Tm : TP T) {wd lo hi out : Int} {ns : List Nd} {W R : Int → Int} {rk : Int → Nat} {W2 R2 : List Int} (h : GF wd lo hi out ns W R rk W2 R2) {many : Int} {fs : List (List Int)} (hfs : Fin18 wd lo hi many fs) (hm : 0 ≤ many ∧ many ≤ 1000) :
    Cg Go.Proofs.Tryz.prog T 9 [] [.agg (gcs wd lo hi out (.d (rowN ns))), .d (frD fs)] (fun r H => H = [] ∧ r = .agg [.d (insD (strL ns W2 fs)), .d (.i .i64 0)]) := by
  have hr := may_rng h.may
  have hn0 := h.n0
  exact Streams_c Tm wd lo hi out many ns (order ns) W2 R2 fs (frF ns W2) (fun i s => SG (W i) (1000 + 10 * rk i) s) hr.1 (by omega) h.inn h.look h.wl h.ro hfs hm
    (fun o1 i r e => (mayO_iff.1 (order_top ns o1 i r e).1).2) (h.sg0 hfs hm) fun i hi u hu => by
      have := h.ord i hi
      exact ⟨h.sg_step this.1 this.2 hu, Node_g Tm h this.1 this.2 hu⟩
set_option maxRecDepth 100000
/-! counts: kind's and the document's are the same; as many are ready as there are, at most -/
theorem fewest_nn (l : List Int) : 0 ≤ fewestV l := by
  cases l with
  | nil => exact Int.le_refl _
  | cons x l =>
    unfold fewestV mx
    split <;> omega
theorem has17 (n : Nd) : n.has 17 = rWin n.k := by rw [(Nd.hasW n).2.2, rWin_four]
theorem count_eqW {n : Nd} (h : WF n) (l : List Int) : n.count l = n.rCount l := by
  have hf := fewest_nn l
  unfold Nd.count Nd.rCount
  rw [has17, padR_eqW, ends_eqW n h]
  by_cases h0 : fewestV l = 0
  · rw [h0]; simp
  · have h1 : (fewestV l == 0) = false := by simpa using h0
    have h2 : decide (0 < fewestV l) = true := decide_eq_true (by omega)
    rw [h1, h2, Bool.and_true, Bool.and_true]
    simp only [Bool.false_eq_true, if_false]
theorem ready_eqW {n : Nd} (h : WF n) (l : List Int) : n.ready l = n.rReady l := by
  unfold Nd.ready Nd.rReady
  rw [has17, ends_eqW n h, Bool.and_comm]
  by_cases h5 : n.k = 5
  · have hw : rWin n.k = false := by rw [h5]; rfl
    rw [hw, h5]; rfl
  · have : (n.k == 5) = false := by simpa using h5
    rw [this]
    simp only [Bool.false_eq_true, if_false]
theorem ordL_congr {α : Type} {d : α} {f g : (Int → α) → α → Int → α} : ∀ (r : List Int) (out : List α), (∀ i ∈ r, ∀ u s, f u s i = g u s i) → ordL d f r out = ordL d g r out
  | [], _, _ => rfl
  | i :: r, out, h => by
    rw [ordL, ordL, h i (by simp), ordL_congr r _ fun j hj => h j (by simp [hj])]
section
variable {N : Int} {n : Nd} {W R : Int → Int} {rk : Int → Nat} {i : Int} (hn : NodeG N n W R rk i)
include hn
theorem NodeG.few {u v : Int → Int} {b : Int} (h : ∀ j ∈ n.inn, 0 ≤ u j ∧ u j ≤ v j ∧ v j ≤ b) : 0 ≤ fewestV (n.inn.map u) ∧ fewestV (n.inn.map u) ≤ fewestV (n.inn.map v) ∧ fewestV (n.inn.map v) ≤ b := by
  rcases inn12 hn with ⟨a, ha⟩ | ⟨a, c, ha⟩
  · rw [ha] at h ⊢
    have := h a (by simp)
    simp only [List.map_cons, List.map_nil]
    rw [fewest1 this.1, fewest1 (by omega)]; exact this
  · rw [ha] at h ⊢
    have h1 := h a (by simp)
    have h2 := h c (by simp)
    simp only [List.map_cons, List.map_nil]
    rw [fewest2 h1.1 h2.1, fewest2 (by omega) (by omega)]
    unfold mn
    split <;> split <;> omega
theorem NodeG.rdy {u v : Int → Int} {b : Nat} (hb : b ≤ 4000) (h : ∀ j ∈ n.inn, 0 ≤ u j ∧ u j ≤ v j ∧ v j ≤ b) : 0 ≤ n.rReady (n.inn.map u) ∧ n.rReady (n.inn.map u) ≤ n.rCount (n.inn.map v) := by
  have hw := hn.wf
  obtain ⟨f0, f1, f2⟩ := hn.few h
  have hc := hn.cnt (l := n.inn.map v) hb (by simp) (fun x hx => by obtain ⟨j, hj, rfl⟩ := List.mem_map.1 hx; have := h j hj; omega)
  have hr := hw.rt
  have hsp := hw.sp
  have hst := hw.st
  have hlf := hw.lf
  revert hc
  unfold Nd.rReady Nd.rCount
  generalize fewestV (n.inn.map u) = p at *
  generalize fewestV (n.inn.map v) = q at *
  intro hc
  by_cases hwin : rWin n.k = true
  · have h5 : (n.k == 5) = false := by
      unfold rWin at hwin
      simp only [Bool.or_eq_true, beq_iff_eq] at hwin
      simp only [beq_eq_false_iff_ne]; omega
    rw [hwin, h5] at hc ⊢
    simp only [Bool.true_and, Bool.false_and, Bool.false_eq_true, if_false] at hc ⊢
    by_cases hp : 0 < p
    · rw [if_pos (decide_eq_true hp), if_pos (decide_eq_true (show 0 < q by omega)), w64 (x := q + n.rRight) (by omega) (by omega), hw.ends (by omega) (by omega), hw.ends (by omega) (by omega)]
      split
      · refine ⟨Int.le_refl _, ?_⟩
        split
        · exact Int.le_refl _
        · have := Int.ediv_nonneg (a := q + n.rRight - 1 - (n.rSpan - 1 - n.rLeft)) (b := n.rStp) (by omega) (by omega)
          omega
      · rw [if_neg (by omega)]
        have h1 := Int.ediv_nonneg (a := p - 1 - (n.rSpan - 1 - n.rLeft)) (b := n.rStp) (by omega) (by omega)
        have h2 := Int.ediv_le_ediv (a := p - 1 - (n.rSpan - 1 - n.rLeft)) (b := q + n.rRight - 1 - (n.rSpan - 1 - n.rLeft)) (c := n.rStp) (by omega) (by omega)
        omega
    · have hp0 : p = 0 := by omega
      rw [if_neg (by simp; omega)]
      exact ⟨by omega, by rw [hp0]; exact hc.1⟩
  · have hwin : rWin n.k = false := by simpa using hwin
    rw [hwin] at hc ⊢
    simp only [Bool.false_and, Bool.false_eq_true, if_false] at hc ⊢
    by_cases h5 : (n.k == 5) = true
    · rw [if_pos h5]
      exact ⟨Int.le_refl _, hc.1⟩
    · rw [if_neg h5, if_neg (by simp at h5 ⊢; intro e; exact absurd e h5)]
      exact ⟨f0, f1⟩
end
section
variable {wd lo hi out : Int} {ns : List Nd} {W R : Int → Int} {rk : Int → Nat} {W2 R2 : List Int} (h : GF wd lo hi out ns W R rk W2 R2)
include h
theorem GF.cntL_ready (N : Int) : cntL ns Nd.ready N = cntL ns Nd.rReady N := ordL_congr _ _ fun i hi u s => by
  have := h.ord i hi
  exact ready_eqW (h.gg.node i this.1 this.2).1.wf _
/-- how many frames there are, and how many of them are ready -/
theorem GF.lens {many : Int} {fs : List (List Int)} (hfs : Fin18 wd lo hi many fs) (hm : 0 ≤ many ∧ many ≤ 1000) : ∀ (r : Nat) (i : Int), 0 ≤ i → i ≤ ns.length → rk i ≤ r → ((ga [] (strL ns W2 fs) i).length : Int) = rd (cntL ns Nd.rCount many) i ∧ 0 ≤ rd (cntL ns Nd.rReady many) i ∧ rd (cntL ns Nd.rReady many) i ≤ rd (cntL ns Nd.rCount many) i
  | r, i, i0, i1, hk => by
    obtain ⟨a, b⟩ := h.strL_fx fs
    obtain ⟨c0, c⟩ := h.gg.cnt_eq (N := many) Nd.rCount
    obtain ⟨d0, d⟩ := h.gg.cnt_eq (N := many) Nd.rReady
    rcases Int.lt_or_le 0 i with i2 | i2
    · have hn := (h.gg.node i i2 i1).1
      match r, hk with
      | 0, hk =>
        have := hn.inn _ (rd_mem (l := (nd ns (i - 1)).inn) (j := 0) (by omega) (by have := hn.l1; omega))
        omega
      | r + 1, hk =>
        have ih : ∀ j ∈ (nd ns (i - 1)).inn, ((ga [] (strL ns W2 fs) j).length : Int) = rd (cntL ns Nd.rCount many) j ∧ 0 ≤ rd (cntL ns Nd.rReady many) j ∧ rd (cntL ns Nd.rReady many) j ≤ rd (cntL ns Nd.rCount many) j := fun j hj => by
          have := hn.inn j hj
          exact GF.lens hfs hm r j this.1 this.2.1 (by omega)
        have hb : ∀ j ∈ (nd ns (i - 1)).inn, rd (cntL ns Nd.rCount many) j ≤ (1200 : Nat) := fun j hj => by
          have h1 := hn.inn j hj
          have h2 := (h.strL_sg hfs hm 12 j h1.1 h1.2.1 (h.rank j h1.1 h1.2.1)).len
          have h3 := h.rank j h1.1 h1.2.1
          have := (ih j hj).1
          omega
        have hlen : ((nd ns (i - 1)).inn.map (ga [] (strL ns W2 fs))).map (fun s => (s.length : Int)) = (nd ns (i - 1)).inn.map (rd (cntL ns Nd.rCount many)) := by
          rw [List.map_map]
          exact List.map_congr_left fun j hj => (ih j hj).1
        have hr := hn.rdy (b := 1200) (by omega) (u := rd (cntL ns Nd.rReady many)) (v := rd (cntL ns Nd.rCount many)) fun j hj => ⟨(ih j hj).2.1, (ih j hj).2.2, hb j hj⟩
        rw [b i i2 i1, c i i2 i1, d i i2 i1]
        refine ⟨?_, hr⟩
        unfold frF nodeF
        rw [List.length_map, List.length_range, hlen]
        omega
    · obtain rfl : i = 0 := by omega
      rw [a, c0, d0]
      exact ⟨hfs.len, hm.1, Int.le_refl _⟩
end
section
attribute [local go_sem] frD insD rwS_len killC_rwS killC_set frzL_rwS frzL_set renL_rwS renL_set hasL_rwS hasL_set rwS_set List.set_set Bool.and_false Bool.not_false rcs OBR OBS
theorem gap_made {n : Nd} {v : Int} (hs : n.sized v = true) (he : n.else0 = true) (hwin : rWin n.k = true) : mx n.gap 1 = gapV n := by
  have e6 : n.e6 = false := by
    unfold Nd.else0 at he
    cases e : n.e6 with
    | false => rfl
    | true => rw [e] at he; simp at he
  unfold gapV mx
  by_cases h12 : n.k = 12
  · unfold Nd.e6 at e6
    have h4 : rFour n.k = false := by rw [h12]; rfl
    rw [h4] at e6
    simp at e6
    rw [h12, e6.1.1.2]; rfl
  · have hb12 : (n.k == 12) = false := by simpa using h12
    have h4 : rFour n.k = true := by
      rw [rWin_four, hb12, Bool.or_false] at hwin; exact hwin
    have h8 : n.s8 = false := by
      unfold Nd.sized at hs
      cases e : n.s8 with
      | false => rfl
      | true => rw [e] at hs; simp at hs
    unfold Nd.s8 at h8
    rw [h4] at h8
    simp only [Bool.true_and, Bool.or_eq_false_iff, Bool.not_eq_false', inB_iff] at h8
    rw [hb12]
    simp only [Bool.false_eq_true, if_false]
    split <;> omega
theorem mayE_fin {wd lo hi many : Int} {fs : List (List Int)} (h : Fin18 wd lo hi many fs) : mayE wd lo hi fs = 0 := by
  have key : ∀ l : List (List Int), (∀ f ∈ l, f ∈ fs) → mayE wd lo hi l = 0 := by
    intro l
    induction l with
    | nil => intro _; rfl
    | cons f l ih =>
      intro hl
      have h1 := h.wid f (hl f (by simp))
      have h2 := h.num f (hl f (by simp))
      have e : frE18 wd lo hi f = 0 := by
        unfold frE18
        rw [h1, if_neg (by simp), if_pos]
        refine List.all_eq_true.2 fun x hx => ?_
        have := h2 x hx
        unfold inW
        simp; omega
      rw [mayE, e, if_neg (by decide)]
      exact ih fun g hg => hl g (by simp [hg])
  exact key fs fun _ h => h
theorem node_g {T : World → Prop} (Tk : KT T) {wd lo hi out : Int} {ns : List Nd} {W R : Int → Int} {rk : Int → Nat} {W2 R2 : List Int} (h : GF wd lo hi out ns W R rk W2 R2) {i : Int} (i1 : 1 ≤ i) (i2 : i ≤ ns.length) {u : Int → List (List Int)} (hu : ∀ j ∈ (nd ns (i - 1)).inn, SG (W j) (1000 + 10 * rk j) (u j))
    (ds : List D) (hdl : ds.length = ns.length + 1) (hnil : ds.getD i.toNat .nil = .nil) (hds : ∀ j ∈ (nd ns (i - 1)).inn, j ≠ i ∧ ds.getD j.toNat .nil = frD (u j)) :
    Cg Go.Proofs.Tryz.prog T 24 (OBS wd lo hi out ns W2 ds) [.fps (rcs wd lo hi out ns W2 1001), .d (.i .i64 i)] (fun r H => H = OBS wd lo hi out ns W2 (ds.set i.toNat (frD (frF ns W2 u i))) ∧ r = .tup []) := by
  obtain ⟨b, hb, e, hs⟩ := h.sgs i1 i2 hu
  have hn := (h.gg.node i i1 i2).1
  have hw2 := h.w2 i1 i2
  have hn0 := h.n0
  have hwl := h.wl
  have hinn := hn.inn
  unfold frF
  generalize hnd : nd ns (i - 1) = n at *
  have hw := hn.w0
  obtain ⟨_, _, _, he, hsz, _⟩ := rchk_unpack hn.chk
  obtain ⟨l1, l2⟩ := hn.lens (u := u) (b := b) fun j hj => (hs j hj).len
  have hc := hn.cnt (by omega) l1 l2
  have key := fun (k : Int) (k0 : 0 ≤ k) (k1 : k < n.rCount ((n.inn.map u).map fun s => (s.length : Int))) => hn.ni (by omega) hs k0 k1
  have hl1 := hn.l1
  have hl2 := hn.l2
  have h0i := hinn _ (rd_mem (l := n.inn) (j := 0) (by omega) (by omega))
  have hw3 : (rd W2 (rd n.inn 0)).toNat = (W (rd n.inn 0)).toNat := by rw [hw2]
  rw [hw3]
  generalize hwn : (W (rd n.inn 0)).toNat = w at *
  have hw4 : rd W2 (rd n.inn 0) = (w : Int) := by omega
  have hk : rWin n.k = false → n.k ≠ 5 → n.rCount ((n.inn.map u).map fun s => (s.length : Int)) = fewestV ((n.inn.map u).map fun s => (s.length : Int)) := fun hwin h5 => by
    unfold Nd.rCount
    rw [hwin, Bool.false_and, if_neg (by decide), show (n.k == 5) = false by simpa using h5, Bool.false_and, if_neg (by decide)]
  have hce := count_eqW hn.wf ((n.inn.map u).map fun s => (s.length : Int))
  unfold nodeF
  generalize hC : n.rCount ((n.inn.map u).map fun s => (s.length : Int)) = C at *
  have hC2 : n.count ((n.inn.map u).map fun s => (s.length : Int)) = (C.toNat : Nat) := by rw [hce]; omega
  have a2 : w ≤ 65536 := by omega
  have a3 : C.toNat ≤ 65536 := by omega
  have a4 : ds[i.toNat]? = some .nil := by
    have : i.toNat < ds.length := by omega
    rw [List.getD_eq_getElem?_getD, List.getElem?_eq_getElem this] at hnil
    rw [List.getElem?_eq_getElem this]
    exact congrArg some hnil
  refine node_c Tk wd lo hi out ns W2 ds i n u w C.toNat (fun k => frameV n (inpF n (n.inn.map u) w k) w) (by omega) ⟨i1, i2, by omega⟩ hnd a4 (by omega) ⟨by omega, by omega⟩ (fun j hj => ?_) (by omega) hw4 a2 (fun hwin => gap_made hsz he hwin) (fun hwin => ?_) hC2 a3 (fun _ => by rw [stp_eqW]; exact hn.st0) (fun hwin h5 j hj => ?_) fun k k0 k1 => ?_
  · have h1 := hinn j hj
    have h2 := hds j hj
    have h3 := (hs j hj).len
    exact ⟨h1.1, by omega, fun e => h2.1 (by omega), h2.2, by omega⟩
  · have := win_size hsz hwin; omega
  · have hk := hk hwin h5
    have hCt : (C.toNat : Int) = C := by omega
    refine Int.ofNat_le.1 ?_
    rw [hCt, hk]
    clear hk hC hC2 key hCt hce
    rcases inn12 hn with ⟨a, ha⟩ | ⟨a, c, ha⟩
    · rw [ha] at hj ⊢
      obtain rfl := List.mem_singleton.1 hj
      simp only [List.map_cons, List.map_nil]
      rw [fewest1 (by omega)]; omega
    · rw [ha] at hj ⊢
      simp only [List.map_cons, List.map_nil]
      rw [fewest2 (by omega) (by omega)]
      unfold mn
      split <;> rcases List.mem_cons.1 hj with rfl | hj <;> (try obtain rfl := List.mem_singleton.1 hj) <;> omega
  · have hk := key k k0 (by omega)
    have hf := hk.fok hn
    rw [hwn] at hf
    exact (Frame_w Tk n _ w hf (hk.right hn)).data
end
section
attribute [local go_sem] frD insD rwS_len killC_rwS killC_set frzL_rwS frzL_set renL_rwS renL_set hasL_rwS hasL_set rwS_set List.set_set Bool.and_false Bool.not_false rcs OBR OBS
theorem ds_ins {ds : List D} {o : List (List (List Int))} (hl : ds.length = o.length) (h : ∀ x : Nat, x < o.length → ds.getD x .nil = frD (o.getD x [])) : (ds.map fun d => [d]) = o.map insE := by
  apply List.ext_getElem?
  intro x
  rw [List.getElem?_map, List.getElem?_map]
  by_cases hx : x < o.length
  · have := h x hx
    rw [List.getD_eq_getElem?_getD, List.getD_eq_getElem?_getD, List.getElem?_eq_getElem (by omega), List.getElem?_eq_getElem hx] at this
    rw [List.getElem?_eq_getElem (by omega), List.getElem?_eq_getElem hx]
    unfold insE
    exact congrArg some (congrArg (fun d => [d]) this)
  · rw [List.getElem?_eq_none (by omega), List.getElem?_eq_none (by omega)]; rfl
theorem Streams_w {T : World → Prop} (Tk : KT T) {wd lo hi out : Int} {ns : List Nd} {W R : Int → Int} {rk : Int → Nat} {W2 R2 : List Int} (h : GF wd lo hi out ns W R rk W2 R2) {many : Int} {fs : List (List Int)} (hfs : Fin18 wd lo hi many fs) (hm : 0 ≤ many ∧ many ≤ 1000) :
    Cg Go.Proofs.Tryz.prog T 8 [] [.agg (gcs wd lo hi out (.d (rowN ns))), .d (frD fs)] (fun r H => H = [] ∧ r = .tup [.d (insD (strL ns W2 fs)), .d (.i .i64 0)]) := by
  have hn0 := h.n0
  have hrg := may_rng h.may
  have hl0 := hfs.len
  have cM := wmay_c Tk wd lo hi out ns fs (by omega) h.inn (by omega) (fun f hf => by have := hfs.wid f hf; omega)
  have cW := Widths_c Tk wd lo hi out ns (by omega) h.inn
  have cO := Order_c Tk wd lo hi out ns (by omega) h.inn
  rw [h.look] at cM cW cO
  rw [mayE_fin hfs] at cM
  simp only [bne_self_eq_false, Bool.false_eq_true, if_false] at cM
  have w1 : wrap64 ((ns.length : Int) + 1) = ((ns.length + 1 : Nat) : Int) := by rw [w64 (by omega) (by omega)]; omega
  refine Cg_of [] Tk.m Go.Proofs.Tryz.func8 rfl rfl Go.Proofs.Tryz.ntmps8 (by simp) rfl (rs := [.tmp 4, .tmp 5]) rfl fun E hP hn hT hpn => ?_
  (repeat refine TS.imp ?_)
  refine TR.imp ?_; intro K hK; simp only [go_sem, hP, hn]; (repeat refine vc ?_); refine hK _ ?_; clear K hK
  (repeat refine TS.imp ?_)
  refine TR.imp ?_; intro K hK; simp only [go_sem, hP, hn]
  (repeat refine vc ?_)
  refine CallN_cs (Hi := [] ) (by rw [hP, hT]; exact  cM) rfl rfl rfl trivial (by simp only [go_sem, hP, hn]; try trivial) (by simp only [go_sem, hP, hn]; try rfl) (by simp only [inH, go_sem, hP, hn]; try simp) (by rw [hn]; decide) ?_; simp only [go_sem, hP, hn]; (repeat refine vc ?_)
  refine hK _ ?_; clear K hK
  (repeat refine TS.imp ?_)
  refine TR.imp ?_; intro K hK; simp only [go_sem, hP, hn]; (repeat refine vc ?_); refine hK _ ?_; clear K hK
  (repeat refine TS.imp ?_)
  refine Tr.cond rfl (fun hb => ?_) (fun hb => ?_)
  · cases hb
  clear hb
  refine Tr.le (Le.keep [1, 2]) ?_; simp only [List.map_cons, List.map_nil, lk, Nat.reduceEqDiff, reduceIte]
  (repeat refine TS.imp ?_)
  refine Tr.mono (Q := thenS (fun s' => Le E s' ⟨[(1, .d (frD fs)), (2, .ptr 2 0), (7, .ptr 28 0)], [(2, .box 28 (gcs wd lo hi out (.d (rowN ns)))), (28, .box 56 (rcs wd lo hi out ns W2 26)), (26, .row 29 [.nil] (List.replicate (ns.length + 1) [.nil]))]⟩) fun _ _ => False) ?_ ?_
  · refine d5 (.p true 0 (.p true 1 (.p true 3 (.p true 4 (.p true 5 (.p true 6 (.alt 2 (.alt 7 (.p false 8 (.alt 9 (.p false 10 .nil) .nil)) .nil) (.alt 7 (.alt 2 (.p false 8 (.alt 9 (.p false 10 .nil) .nil)) .nil) .nil)))))))) [] (by rw [hP]; kernel_rfl) (by kernel_rfl) (by simp only [go_sem, hP, hn]; try simp) (by exact fun _ _ h => h) ?_; intro K hK; simp only [go_sem, hP, hn]
    rw [w1]
    simp only [go_sem, hP, hn]
    repeat' (first
      | refine And.intro ?_ ?_
      | trivial
      | omega
      | (refine CallP_cs (by rw [hP, hT]; exact cW) rfl rfl rfl trivial (by simp only [go_sem, hP, hn]; try trivial) (by simp only [go_sem, hP, hn]; try rfl) (by rw [hn]; decide) ?_; simp only [go_sem, hP, hn])
      | (rw [w1]; simp only [go_sem, hP, hn]))
    all_goals
      refine hK _ ?_
      show Le E _ _
      exact (Le.mv (by simp only [go_sem, hP, hn]; first | done | (simp; done) | (simp [intC]; done) | (repeat (first | rfl | constructor))) (by simp only [go_sem, hP, hn]; first | done | (simp; done) | (simp [intC]; done) | (repeat (first | rfl | constructor))))
  · intro e s' hl
    cases e <;> simp only [thenS] at hl
    simp only [thenS]
    refine Tr.le hl ?_
    simp only [go_sem, hP, hn]
    refine Tr.le (Le.fzs 7 28 rfl rfl) ?_
    simp only [go_sem, hP, hn]
    refine Tr.le (Le.ren 26 1001 (by rw [hpn] <;> rfl) rfl (by simp [freeH, closedO, hasL_set, hasL_rwS, k1, S.hasL, S.has, go_sem])) ?_; simp only [renT, renH, renO, renS, renL, rn, go_sem, hP, hn]
    rw [show List.replicate (ns.length + 1) [D.nil] = (List.replicate (ns.length + 1) D.nil).map (fun d => [d]) by simp]
    refine Tr.le (Le.rows 1001 (List.replicate (ns.length + 1) .nil) rfl rfl) ?_
    simp only [go_sem, hP, hn]
    refine Tr.le (Le.nilrows 1002 1001 0 22 [.nil] rfl (by unfold rwS; simp) (by rw [hpn] <;> rfl) rfl (by simp [freeH, closedO, hasL_set, hasL_rwS, k1, S.hasL, S.has, go_sem])) ?_
    simp only [go_sem, hP, hn]
    have hd0 : (List.replicate (ns.length + 1) D.nil).length = ns.length + 1 := by simp
    have hdn : ∀ x : Nat, (List.replicate (ns.length + 1) D.nil).getD x .nil = .nil := fun x => by
      rw [List.getD_eq_getElem?_getD, List.getElem?_replicate]
      split <;> rfl
    generalize List.replicate (ns.length + 1) D.nil = ds0 at *
    (repeat refine TS.imp ?_)
    refine TR.imp ?_; intro K hK; simp only [go_sem, hP, hn]; (repeat refine vc ?_); refine hK _ ?_; clear K hK
    (repeat refine TS.imp ?_)
    refine Tr.loop (fun q s => ∃ i : Int, s = ⟨[(2, .ptr 2 0), (7, .fps (rcs wd lo hi out ns W2 1001)), (29, .d (frD fs)), (30, .d (.i .i64 fs.length)), (31, .d (.i .i64 i))], [(2, .box 28 (gcs wd lo hi out (.d (rowN ns)))), (1001, .rows 29 ((rwS ds0).set 0 (.own 1002))), (1002, .row 22 [.nil] ((fs.take i.toNat).map frE))]⟩ ∧ 0 ≤ i ∧ i + q = fs.length) fs.length ⟨_, ?_, 0, rfl, by omega, by omega⟩ ?_
    · exact (Le.mv (by simp only [go_sem, hP, hn]; first | done | (simp; done) | (simp [intC]; done) | (repeat (first | rfl | constructor))) (by simp only [go_sem, hP, hn]; first | done | (simp; done) | (simp [intC]; done) | (repeat (first | rfl | constructor))))
    rintro q s ⟨i, rfl, i0, iq⟩
    (repeat refine TS.imp ?_)
    refine TR.imp ?_; intro K hK; simp only [go_sem, hP, hn]; (repeat refine vc ?_); refine hK _ ?_; clear K hK
    (repeat refine TS.imp ?_)
    refine Tr.cond rfl (fun hb => ?_) (fun hb => ?_)
    · have hi1 : i < fs.length := of_decide_eq_true hb
      clear hb
      have hrf := rw_fr fs i i0 hi1
      have hfl := hfs.wid _ (fr_mem i0 hi1)
      have w2 : wrap64 (i + 1) = i + 1 := w64 (by omega) (by omega)
      have hk1 : 0 < ds0.length := by omega
      have hgk : ((rwS ds0).set 0 (.own 1002)).getD 0 .any = .own 1002 := by rw [set_getD (by rw [rwS_len]; exact hk1), if_pos rfl]
      have htk : fs.take (i + 1).toNat = fs.take i.toNat ++ [fr fs i] := by
        rw [show (i + 1).toNat = i.toNat + 1 by omega, List.take_succ_eq_append_getElem (by omega)]
        unfold fr
        simp [List.getD, show i.toNat < fs.length by omega]
      have hTl : (fs.take i.toNat).length ≤ 1000 := by rw [List.length_take]; omega
      (repeat refine TS.imp ?_)
      refine TR.imp ?_; intro K hK; simp only [hrf, go_sem, hP, hn]; (repeat refine vc ?_); refine hK _ ?_; clear K hK
      (repeat refine TS.imp ?_)
      generalize fs.take i.toNat = F at *
      generalize fr fs i = f at *
      refine Tr.mono (Q := thenS (fun s' => Le E s' ⟨[(2, .ptr 2 0), (7, .fps (rcs wd lo hi out ns W2 1001)), (29, .d (frD fs)), (30, .d (.i .i64 fs.length)), (31, .d (.i .i64 i))], [(2, .box 28 (gcs wd lo hi out (.d (rowN ns)))), (1001, .rows 29 ((rwS ds0).set 0 (.own 1002))), (1002, .row 22 [.nil] ((F ++ [f]).map frE))]⟩) fun _ _ => False) ?_ ?_
      · refine d5 (.p true 0 (.p true 1 (.p true 2 (.p true 3 (.p true 4 (.p true 5 (.p true 6 (.p true 7 (.p true 8 (.p true 11 (.alt 9 (.alt 10 (.alt 12 (.alt 13 (.alt 14 (.p true 15 (.alt 16 .nil .nil)) .nil) .nil) .nil) .nil) (.alt 10 (.alt 9 (.alt 12 (.alt 13 (.alt 14 (.p true 15 (.alt 16 .nil .nil)) .nil) .nil) .nil) (.alt 12 (.alt 9 (.alt 13 (.alt 14 (.p true 15 (.alt 16 .nil .nil)) .nil) .nil) (.alt 13 (.alt 9 (.alt 14 (.p true 15 (.alt 16 .nil .nil)) .nil) .nil) .nil)) .nil)) .nil)))))))))))) [1001, 1002] (by rw [hP]; kernel_rfl) (by kernel_rfl) (by simp only [go_sem, hP, hn]; try simp) (by exact fun _ _ h => h) ?_; intro K hK; simp only [go_sem, hP, hn]
        repeat' (first
          | refine And.intro ?_ ?_
          | trivial
          | omega
          | (rw [hgk]; simp only [go_sem, hP, hn])
          | (simp only [List.length_set, rwS_len]; first | exact hk1 | omega))
        all_goals
          refine hK _ ?_
          show Le E _ _
          refine Le.trans (b := ⟨[(2, .ptr 2 0), (7, .fps (rcs wd lo hi out ns W2 1001)), (29, .d (frD fs)), (30, .d (.i .i64 fs.length)), (31, .d (.i .i64 i))], [(2, .box 28 (gcs wd lo hi out (.d (rowN ns)))), (1001, .rows 29 ((rwS ds0).set 0 (.own 49))), (49, .row 22 [.nil] ((F ++ [f]).map frE))]⟩) ?_ ?_
          · rw [List.map_append (l₁ := F)]
            exact (Le.mv (by simp only [go_sem, hP, hn]; first | done | (simp; done) | (simp [intC]; done) | (repeat (first | rfl | constructor))) (by simp only [go_sem, hP, hn]; first | done | (simp; done) | (simp [intC]; done) | (repeat (first | rfl | constructor))))
          refine Le.trans (Le.ren 49 1002 (by rw [hpn] <;> rfl) rfl (by simp [freeH, closedO, hasL_set, hasL_rwS, k1, S.hasL, S.has, go_sem])) ?_; simp only [renT, renH, renO, renS, renL, rn, go_sem, hP, hn]
          exact Le.refl _
      · intro e s' hl
        cases e <;> simp only [thenS] at hl
        simp only [inBlk, thenS]
        refine Tr.le hl ?_
        (repeat refine TS.imp ?_)
        refine TR.imp ?_; intro K hK; simp only [w2, go_sem, hP, hn]; (repeat refine vc ?_); refine hK _ ?_; clear K hK
        (repeat refine TS.imp ?_)
        exact ⟨q - 1, _, by omega, by rw [htk]; exact (Le.mv (by simp only [go_sem, hP, hn]; first | done | (simp; done) | (simp [intC]; done) | (repeat (first | rfl | constructor))) (by simp only [go_sem, hP, hn]; first | done | (simp; done) | (simp [intC]; done) | (repeat (first | rfl | constructor)))), i + 1, rfl, by omega, by omega⟩
    obtain rfl : i = fs.length := by have := of_decide_eq_false hb; omega
    rw [Int.toNat_natCast, List.take_length]
    clear hb
    refine Tr.le (Le.freeze 1002) ?_
    simp only [go_sem, hP, hn]
    refine Tr.le (Le.keep [2, 7]) ?_; simp only [List.map_cons, List.map_nil, lk, Nat.reduceEqDiff, reduceIte]
    (repeat refine TS.imp ?_)
    refine TR.imp ?_; intro K hK; simp only [go_sem, hP, hn]; (repeat refine vc ?_); refine hK _ ?_; clear K hK
    (repeat refine TS.imp ?_)
    refine TR.imp ?_; intro K hK; simp only [go_sem, hP, hn]
    (repeat refine vc ?_)
    refine CallN_cs (Hi := [] ) (by rw [hP, hT]; exact  cO) rfl rfl rfl trivial (by simp only [go_sem, hP, hn]; try trivial) (by simp only [go_sem, hP, hn]; try rfl) (by simp only [inH, go_sem, hP, hn]; try simp) (by rw [hn]; decide) ?_; simp only [go_sem, hP, hn]; (repeat refine vc ?_)
    refine hK _ ?_; clear K hK
    refine Tr.le (Le.keep [7, 10, 55, 56, 57]) ?_; simp only [List.map_cons, List.map_nil, lk, Nat.reduceEqDiff, reduceIte]
    (repeat refine TS.imp ?_)
    have hord := h.ord
    have htop : ∀ (o1 : List Int) (i : Int) (r : List Int), order ns = o1 ++ i :: r → i ∉ o1 ∧ ∀ j ∈ (nd ns (i - 1)).inn, j = 0 ∨ j ∈ o1 := fun o1 i r e => mayO_iff.1 (order_top ns o1 i r e).1
    have hmem := h.gg.mem_order
    have hol := h.gg.order_len
    unfold strL
    generalize order ns = os at *
    generalize hOUT : ordL [] (fun u _ i => frF ns W2 u i) os (fs :: List.replicate ns.length []) = OUT
    refine Tr.loop (fun q s => ∃ (k : Nat) (o : List (List (List Int))) (ds : List D), s = ⟨[(7, .fps (rcs wd lo hi out ns W2 1001)), (10, .mth 24 [.fps (rcs wd lo hi out ns W2 1001)]), (55, .d (.row [.i .i64 0] (os.map intC))), (56, .d (.i .i64 os.length)), (57, .d (.i .i64 k))], [(1001, .rows 29 (rwS ds))]⟩ ∧ k + q = os.length ∧ o.length = ns.length + 1 ∧ ordL [] (fun u _ i => frF ns W2 u i) (os.drop k) o = OUT ∧ ds.length = ns.length + 1 ∧ (∀ x : Int, 0 ≤ x → x ≤ ns.length → ds.getD x.toNat .nil = if x = 0 ∨ x ∈ os.take k then frD (ga [] o x) else .nil) ∧ ∀ j : Int, (j = 0 ∨ j ∈ os.take k) → SG (W j) (1000 + 10 * rk j) (ga [] o j)) os.length ⟨_, ?_, 0, fs :: List.replicate ns.length [], ds0.set 0 (frD fs), rfl, by omega, by simp, hOUT, by simp [hd0], fun x x0 x1 => ?_, fun j hj => ?_⟩ ?_
    · exact (Le.mv (by simp only [go_sem, hP, hn]; first | done | (simp; done) | (simp [intC]; done) | (repeat (first | rfl | constructor))) (by simp only [go_sem, hP, hn]; first | done | (simp; done) | (simp [intC]; done) | (repeat (first | rfl | constructor))))
    · rw [set_getD (by omega)]
      by_cases hx : x = 0
      · subst hx; rfl
      · rw [if_neg (by omega), if_neg (by simpa using hx), hdn]
    · obtain rfl : j = 0 := by simpa using hj
      exact h.sg0 hfs hm
    rintro q s ⟨k, o, ds, rfl, kq, hl, hro, hdl, hds, hsg⟩
    (repeat refine TS.imp ?_)
    refine TR.imp ?_; intro K hK; simp only [go_sem, hP, hn]; (repeat refine vc ?_); refine hK _ ?_; clear K hK
    (repeat refine TS.imp ?_)
    refine Tr.cond rfl (fun hb => ?_) (fun hb => ?_)
    · have hk : k < os.length := by have := of_decide_eq_true hb; omega
      clear hb
      have hmo := rd_mem (l := os) (j := (k : Int)) (by omega) (by omega)
      obtain ⟨hi1, hi2⟩ := hord _ hmo
      have hdr := drop_rd (l := os) (j := (k : Int)) (by omega) (by omega)
      rw [show ((k : Int) + 1).toNat = k + 1 by omega, Int.toNat_natCast] at hdr
      have hsp := (List.take_append_drop k os).symm
      rw [hdr] at hsp
      obtain ⟨hni, hjo⟩ := htop _ _ _ hsp
      clear hsp
      rw [hdr, ordL] at hro
      clear hdr
      have htk : os.take (k + 1) = os.take k ++ [rd os k] := by
        have := take_rd (l := os) (j := (k : Int)) (by omega) (by omega)
        rwa [show ((k : Int) + 1).toNat = k + 1 by omega, Int.toNat_natCast] at this
      have w3 : Unit → wrap64 ((k : Int) + 1) = ((k + 1 : Nat) : Int) := fun _ => by
        rw [w64 (by omega) (by omega)]; omega
      have q1 : (0 : Int) ≤ (k : Int) := by omega
      have q2 : (k : Int) < os.length := by omega
      have hk2 : (os.map intC).getD k [.i .i64 0] = [.i .i64 (rd os k)] := by
        have := rw_intC os (k : Int)
        rwa [Int.toNat_natCast] at this
      (repeat refine TS.imp ?_)
      refine TR.imp ?_; intro K hK; simp only [go_sem, hP, hn]
      rw [hk2]
      simp only [go_sem, hP, hn]
      (repeat (refine ⟨by first | trivial | omega, ?_⟩))
      refine hK _ ?_; clear K hK
      (repeat refine TS.imp ?_)
      generalize rd os k = i at *
      have hu := fun j hj => hsg j (hjo j hj)
      have hGi := h.sg_step hi1 hi2 hu
      have cN := node_g Tk h hi1 hi2 hu ds hdl (by rw [hds i (by omega) hi2, if_neg]; intro e; rcases e with e | e; (· omega); (· exact hni e)) (fun j hj => by
        have hjr := ((h.gg.node i hi1 hi2).1.inn j hj)
        refine ⟨fun e => ?_, by rw [hds j hjr.1 hjr.2.1, if_pos (hjo j hj)]⟩
        subst e
        rcases hjo j hj with e | e
        · omega
        · exact hni e)
      generalize hv : frF ns W2 (ga [] o) i = v at *
      refine TR.imp ?_; intro K hK; simp only [go_sem, hP, hn]
      (repeat refine vc ?_)
      refine CallN_mx (Hi := OBS wd lo hi out ns W2 ds) (by rw [hP, hT]; exact cN) rfl rfl rfl trivial (by simp only [go_sem, hP, hn]; try trivial) (by simp only [go_sem, hP, hn]; try rfl) (by simp [inH, lh, OBS]) (by rw [hn]; decide) (fun r Ho hr => ?_)
      obtain ⟨rfl, rfl⟩ := hr
      refine ⟨fun k hk => ?_, ?_⟩
      · exfalso
        revert hk
        simp only [newK, lh, OBS]
        by_cases e : 1001 = k <;> simp [e]
      simp only [cgS, newK, touK, go_sem, hP, hn]
      (repeat refine vc ?_)
      refine hK _ ?_; clear K hK
      (repeat refine TS.imp ?_)
      replace w3 := w3 ()
      refine TR.imp ?_; intro K hK; simp only [w3, go_sem, hP, hn]; (repeat refine vc ?_); refine hK _ ?_; clear K hK
      (repeat refine TS.imp ?_)
      clear w3
      have hga : ∀ x : Int, 0 ≤ x → ga [] (o.set i.toNat v) x = if x = i then v else ga [] o x := fun x x0 => ga_set (by omega) (by omega) x0
      refine ⟨q - 1, _, by omega, ?_, k + 1, o.set i.toNat v, ds.set i.toNat (frD v), rfl, by omega, by simp [hl], hro, by simp [hdl], fun x x0 x1 => ?_, fun j hj => ?_⟩
      · exact (Le.mv (by simp only [go_sem, hP, hn]; first | done | (simp; done) | (simp [intC]; done) | (repeat (first | rfl | constructor))) (by simp only [go_sem, hP, hn]; first | done | (simp; done) | (simp [intC]; done) | (repeat (first | rfl | constructor))))
      · rw [set_getD (by omega), hga x x0, htk]
        by_cases hx : x = i
        · subst hx
          rw [if_pos rfl, if_pos rfl, if_pos (.inr (by simp))]
        · rw [if_neg (by omega), if_neg hx, hds x x0 x1]
          have : (x = 0 ∨ x ∈ os.take k) ↔ (x = 0 ∨ x ∈ os.take k ++ [i]) := by simp [hx]
          simp only [this]
      · have hj0 : 0 ≤ j := by
          rcases hj with rfl | hj
          · exact Int.le_refl _
          · have := (hord j (List.mem_of_mem_take hj)).1; omega
        rw [hga j hj0]
        by_cases hx : j = i
        · subst hx
          rw [if_pos rfl]; exact hGi
        · rw [if_neg hx]
          refine hsg j ?_
          rcases hj with hj | hj
          · exact .inl hj
          · rw [htk] at hj
            rcases List.mem_append.1 hj with hj | hj
            · exact .inr hj
            · exact absurd (by simpa using hj) hx
    have hk : k = os.length := by
      have : ¬ k < os.length := by simpa using hb
      omega
    subst hk
    rw [List.drop_length, ordL] at hro
    subst hro
    clear hb
    have hdi := ds_ins (ds := ds) (o := o) (by omega) fun x hx => by
      have := hds (x : Int) (by omega) (by omega)
      rw [Int.toNat_natCast, List.take_length, if_pos] at this
      · rw [this]; unfold ga; rw [Int.toNat_natCast]
      · rcases Nat.eq_zero_or_pos x with e | e
        · exact .inl (by omega)
        · exact .inr (hmem _ (by omega) (by omega))
    refine Tr.le (Le.unrows 1001 [.nil] ds rfl rfl) ?_
    simp only [go_sem, hP, hn]
    rw [hdi]
    refine Tr.le (Le.freeze 1001) ?_
    simp only [go_sem, hP, hn]
    (repeat refine TS.imp ?_)
    refine TR.imp ?_; intro K hK; simp only [go_sem, hP, hn]; (repeat refine vc ?_); refine hK _ ?_; clear K hK
    (repeat refine TS.imp ?_)
    simp only [RetG, go_sem]; (repeat with_reducible refine vc ?_)
end
theorem counted_c {T : World → Prop} (Tk : KT T) (wd lo hi out N : Int) (fk : Nat) (g : Nd → List Int → Int) (ns : List Nd) (os W R : List Int) (hns : ns.length ≤ 65536) (hin : ∀ n ∈ ns, n.inn.length ≤ 4096 ∧ n.ws.length ≤ 65536 ∧ n.bs.length ≤ 65536) (hok : lookG wd lo hi out ns = (0, os, W, R)) (hC : CO ns os)
    (hg : ∀ (n : Nd) (l : List Int), l.length ≤ 65536 → 1 ≤ n.rStp → Ct Go.Proofs.Tryz.prog T fk [.agg n.cs, .d (.row [.i .i64 0] (l.map intC))] true (fun r => r = .d (.i .i64 (g n l)))) :
    Cg Go.Proofs.Tryz.prog T 29 [] [.agg (gcs wd lo hi out (.d (rowN ns))), .d (.i .i64 N), .fn fk []] (fun r H => H = [] ∧ r = .d (.row [.i .i64 0] ((cntO ns os g N).map intC))) := by
  have cC := Check_c Tk wd lo hi out ns hns hin
  have cO := Order_c Tk wd lo hi out ns hns hin
  rw [hok] at cC cO
  have hol := hC.le
  refine Cg_of [] Tk.m Go.Proofs.Tryz.func29 rfl rfl Go.Proofs.Tryz.ntmps29 (by simp) rfl (rs := [.tmp 6]) rfl fun E hP hn hT hpn => ?_
  (repeat refine TS.imp ?_)
  refine TR.imp ?_; intro K hK; simp only [go_sem, hP, hn]; (repeat refine vc ?_); refine hK _ ?_; clear K hK
  (repeat refine TS.imp ?_)
  refine TR.imp ?_; intro K hK; simp only [go_sem, hP, hn]
  (repeat refine vc ?_)
  refine CallN_cs (Hi := [] ) (by rw [hP, hT]; exact  cC) rfl rfl rfl trivial (by simp only [go_sem, hP, hn]; try trivial) (by simp only [go_sem, hP, hn]; try rfl) (by simp only [inH, go_sem, hP, hn]; try simp) (by rw [hn]; decide) ?_; simp only [go_sem, hP, hn]; (repeat refine vc ?_)
  refine hK _ ?_; clear K hK
  (repeat refine TS.imp ?_)
  unfold cntO
  refine Tr.cond rfl (fun hb => ?_) (fun hb => ?_)
  · rw [if_pos (show many62 N = true by unfold many62; simpa using hb)]
    (repeat refine TS.imp ?_)
    refine TR.imp ?_; intro K hK; simp only [go_sem, hP, hn]; (repeat refine vc ?_); refine hK _ ?_; clear K hK
    refine Tr.le (Le.nilrow 6 [.i .i64 0] rfl) ?_
    (repeat (first | (refine TR.imp ?_; intro K hK; simp only [go_sem, hP, hn]; (repeat refine vc ?_); refine hK _ ?_; clear K hK) | refine TS.imp ?_))
    simp only [RetG, go_sem]; (repeat with_reducible refine vc ?_)
  rw [if_neg (show ¬ many62 N = true by unfold many62; simpa using hb)]
  clear hb
  have g1 : wrap64 ((ns.length : Int) + 1) = ((ns.length + 1 : Nat) : Int) := by rw [w64 (by omega) (by omega)]; omega
  refine Tr.le (Le.keep [1, 2, 3]) ?_; simp only [List.map_cons, List.map_nil, lk, Nat.reduceEqDiff, reduceIte]
  (repeat refine TS.imp ?_)
  refine TR.imp ?_; intro K hK; simp only [g1, go_sem, hP, hn]; (repeat refine vc ?_); refine hK _ ?_; clear K hK
  (repeat refine TS.imp ?_)
  refine TR.imp ?_; intro K hK; simp only [go_sem, hP, hn]; (repeat refine vc ?_); refine hK _ ?_; clear K hK
  (repeat refine TS.imp ?_)
  refine TR.imp ?_; intro K hK; simp only [go_sem, hP, hn]
  (repeat refine vc ?_)
  refine CallN_cs (Hi := [] ) (by rw [hP, hT]; exact  cO) rfl rfl rfl trivial (by simp only [go_sem, hP, hn]; try trivial) (by simp only [go_sem, hP, hn]; try rfl) (by simp only [inH, go_sem, hP, hn]; try simp) (by rw [hn]; decide) ?_; simp only [go_sem, hP, hn]; (repeat refine vc ?_)
  refine hK _ ?_; clear K hK
  (repeat refine TS.imp ?_)
  refine Tr.le (Le.keep [2, 3, 7, 34, 35, 36]) ?_; simp only [List.map_cons, List.map_nil, lk, Nat.reduceEqDiff, reduceIte]
  rw [show (List.replicate (ns.length + 1) (0 : Int)).set 0 N = N :: List.replicate ns.length 0 by rw [List.replicate_succ]; rfl]
  generalize hf : cntF ns g = f
  generalize hV : ordL 0 f os (N :: List.replicate ns.length 0) = V
  refine Tr.loop (fun q s => ∃ (k : Int) (o : List Int), s = ⟨[(2, .fn fk []), (3, .ptr 3 0), (7, .own 29), (34, .d (.row [.i .i64 0] (os.map intC))), (35, .d (.i .i64 os.length)), (36, .d (.i .i64 k))], [(29, .row 3 [.i .i64 0] (o.map intC)), (3, .box 28 (gcs wd lo hi out (.d (rowN ns))))]⟩ ∧ 0 ≤ k ∧ k + q = os.length ∧ o.length = ns.length + 1 ∧ V = ordL 0 f (os.drop k.toNat) o) os.length ⟨_, (Le.mv (by simp only [go_sem, hP, hn]; first | done | (simp; done) | (simp [intC]; done) | (repeat (first | rfl | constructor))) (by simp only [go_sem, hP, hn]; first | done | (simp; done) | (simp [intC]; done) | (repeat (first | rfl | constructor)))), 0, N :: List.replicate ns.length 0, rfl, by omega, by omega, by simp, hV.symm⟩ ?_
  rintro q s ⟨k, o, rfl, k0, kq, hol2, hst⟩
  (repeat refine TS.imp ?_)
  refine TR.imp ?_; intro K hK; simp only [go_sem, hP, hn]; (repeat refine vc ?_); refine hK _ ?_; clear K hK
  (repeat refine TS.imp ?_)
  refine Tr.cond rfl (fun hb => ?_) (fun hb => ?_)
  · have hk : k < os.length := by simpa using hb
    clear hb
    obtain ⟨⟨hi1, hi2⟩, hj, hst1⟩ := hC.nd _ (rd_mem k0 hk)
    rw [drop_rd k0 hk, ordL] at hst
    generalize hii : rd os k = i at *
    have hnd := rw_nd ns (i - 1) (by omega) (by omega)
    have g2 : wrap64 (i - 1) = i - 1 := w64 (by omega) (by omega)
    have hini := hin _ (nd_mem (ns := ns) (i := i - 1) (by omega) (by omega))
    have hfi : f (ga 0 o) (ga 0 o i) i = g (nd ns (i - 1)) ((nd ns (i - 1)).inn.map (rd o)) := by rw [← hf]; rfl
    rw [hfi] at hst
    clear hfi
    have hgc := hg (nd ns (i - 1)) ((nd ns (i - 1)).inn.map (rd o)) (by rw [List.length_map]; omega) hst1
    generalize nd ns (i - 1) = n at *
    (repeat refine TS.imp ?_)
    refine TR.imp ?_; intro K hK; simp only [go_sem, hP, hn]
    rw [hii]
    (repeat refine vc ?_)
    refine hK _ ?_; clear K hK
    (repeat refine TS.imp ?_)
    refine TR.imp ?_; intro K hK; simp only [g2, go_sem, hP, hn]
    rw [hnd]
    simp only [go_sem, hP, hn]
    (repeat refine vc ?_)
    refine hK _ ?_; clear K hK
    refine Tr.le (Le.keep [2, 3, 7, 9, 10, 34, 35, 36]) ?_; simp only [List.map_cons, List.map_nil, lk, Nat.reduceEqDiff, reduceIte]
    (repeat refine TS.imp ?_)
    refine TR.imp ?_; intro K hK; simp only [go_sem, hP, hn]; (repeat refine vc ?_); refine hK _ ?_; clear K hK
    (repeat refine TS.imp ?_)
    refine TR.imp ?_; intro K hK; simp only [go_sem, hP, hn]; (repeat refine vc ?_); refine hK _ ?_; clear K hK
    (repeat refine TS.imp ?_)
    refine Tr.le (Le.keep [2, 3, 7, 9, 10, 11, 34, 35, 36, 51, 52, 53]) ?_; simp only [List.map_cons, List.map_nil, lk, Nat.reduceEqDiff, reduceIte]
    refine Tr.loop (fun p s => ∃ (j : Int) (I : List Int), s = ⟨[(2, .fn fk []), (3, .ptr 3 0), (7, .own 29), (9, .d (.i .i64 i)), (10, .ptr 10 0), (11, .own 49), (34, .d (.row [.i .i64 0] (os.map intC))), (35, .d (.i .i64 os.length)), (36, .d (.i .i64 k)), (51, .d (.row [.i .i64 0] (n.inn.map intC))), (52, .d (.i .i64 n.inn.length)), (53, .d (.i .i64 j))], [(49, .row 3 [.i .i64 0] (I.map intC)), (10, .box 50 n.cs), (29, .row 3 [.i .i64 0] (o.map intC)), (3, .box 28 (gcs wd lo hi out (.d (rowN ns))))]⟩ ∧ 0 ≤ j ∧ j + p = n.inn.length ∧ I.length = n.inn.length ∧ I.take j.toNat = (n.inn.map (rd o)).take j.toNat) n.inn.length ⟨_, (Le.mv (by simp only [go_sem, hP, hn]; first | done | (simp; done) | (simp [intC]; done) | (repeat (first | rfl | constructor))) (by simp only [go_sem, hP, hn]; first | done | (simp; done) | (simp [intC]; done) | (repeat (first | rfl | constructor)))), 0, List.replicate n.inn.length 0, rfl, by omega, by omega, by simp, by simp⟩ ?_
    rintro p s ⟨j, I, rfl, j0, jp, hI, hIt⟩
    (repeat refine TS.imp ?_)
    refine TR.imp ?_; intro K hK; simp only [go_sem, hP, hn]; (repeat refine vc ?_); refine hK _ ?_; clear K hK
    (repeat refine TS.imp ?_)
    refine Tr.cond rfl (fun hb => ?_) (fun hb => ?_)
    · have hjl : j < n.inn.length := by simpa using hb
      clear hb
      have hjo := hj _ (rd_mem j0 hjl)
      (repeat refine TS.imp ?_)
      refine TR.imp ?_; intro K hK; simp only [go_sem, hP, hn]; (repeat refine vc ?_); refine hK _ ?_; clear K hK
      (repeat refine TS.imp ?_)
      refine TR.imp ?_; intro K hK; simp only [go_sem, hP, hn]; (repeat refine vc ?_); refine hK _ ?_; clear K hK
      (repeat refine TS.imp ?_)
      refine TR.imp ?_; intro K hK; simp only [go_sem, hP, hn]; (repeat refine vc ?_); refine hK _ ?_; clear K hK
      (repeat refine TS.imp ?_)
      rw [w64 (x := j + 1) (by omega) (by omega)]
      refine ⟨p - 1, _, by omega, ?_, j + 1, I.set j.toNat (rd o (rd n.inn j)), rfl, by omega, by omega, by simpa using hI, ?_⟩
      · exact (Le.mv (by simp only [go_sem, hP, hn]; first | done | (simp; done) | (simp [intC]; done) | (repeat (first | rfl | constructor))) (by simp only [go_sem, hP, hn]; first | done | (simp; done) | (simp [intC]; done) | (repeat (first | rfl | constructor))))
      · have hk1 : j.toNat < I.length := by omega
        have hk2 : j.toNat < n.inn.length := by omega
        rw [show (j + 1).toNat = j.toNat + 1 by omega, List.take_succ_eq_append_getElem (by simpa using hk1), List.take_succ_eq_append_getElem (by simpa using hk2), List.take_set_of_le (Nat.le_refl _), hIt]
        simp [rd, List.getD, hk2]
    · have hjl : j = n.inn.length := by have := of_decide_eq_false hb; omega
      clear hb
      have hII : I = n.inn.map (rd o) := by
        rw [hjl, Int.toNat_natCast, List.take_of_length_le (by omega), List.take_of_length_le (by simp)] at hIt
        exact hIt
      subst hII
      clear hI hIt j0 jp hjl
      refine Tr.le (Le.freeze 49) ?_
      simp only [go_sem, hP, hn]
      refine Tr.le (Le.keep [2, 3, 7, 9, 10, 11, 34, 35, 36]) ?_; simp only [List.map_cons, List.map_nil, lk, Nat.reduceEqDiff, reduceIte]
      (repeat refine TS.imp ?_)
      refine TR.imp ?_; intro K hK; simp only [go_sem, hP, hn]
      (repeat refine vc ?_)
      refine c1 (by rw [hP, hT]; exact hgc) rfl rfl rfl trivial (by simp only [go_sem, hP, hn]; try trivial) (by simp only [go_sem, hP, hn]; try rfl) (by rw [hn]; decide) (by rfl) ?_; simp only [go_sem, hP, hn]; (repeat refine vc ?_)
      refine hK _ ?_; clear K hK
      (repeat refine TS.imp ?_)
      refine TR.imp ?_; intro K hK; simp only [go_sem, hP, hn]; (repeat refine vc ?_); refine hK _ ?_; clear K hK
      (repeat refine TS.imp ?_)
      rw [w64 (x := k + 1) (by omega) (by omega)]
      refine ⟨q - 1, _, by omega, ?_, k + 1, _, rfl, by omega, by omega, by simpa using hol2, hst⟩
      exact (Le.mv (by simp only [go_sem, hP, hn]; first | done | (simp; done) | (simp [intC]; done) | (repeat (first | rfl | constructor))) (by simp only [go_sem, hP, hn]; first | done | (simp; done) | (simp [intC]; done) | (repeat (first | rfl | constructor))))
  · rw [drop_end (by simpa using hb)] at hst
    simp only [ordL] at hst
    subst hst
    refine Tr.le (Le.keep [7]) ?_; simp only [List.map_cons, List.map_nil, lk, Nat.reduceEqDiff, reduceIte]
    refine Tr.le (Le.freeze 29) ?_
    simp only [go_sem, hP, hn]
    (repeat (first | (refine TR.imp ?_; intro K hK; simp only [go_sem, hP, hn]; (repeat refine vc ?_); refine hK _ ?_; clear K hK) | refine TS.imp ?_))
    simp only [RetG, go_sem]; (repeat with_reducible refine vc ?_)
section
attribute [local go_sem] frD insD rtup
section
variable {T : World → Prop} {wd lo hi out : Int} {ns : List Nd} {W R : Int → Int} {rk : Int → Nat} {W2 R2 : List Int} (h : GF wd lo hi out ns W R rk W2 R2)
include h
theorem GF.cntO_ready (N : Int) : cntO ns (order ns) Nd.ready N = cntO ns (order ns) Nd.rReady N := by
  have e : cntL ns Nd.ready N = cntL ns Nd.rReady N := h.cntL_ready N
  unfold cntL at e
  unfold cntO
  rw [e]
end
theorem Readies_w {T : World → Prop} (Tk : KT T) {wd lo hi out : Int} {ns : List Nd} {W R : Int → Int} {rk : Int → Nat} {W2 R2 : List Int} (h : GF wd lo hi out ns W R rk W2 R2) (N : Int) :
    Cg Go.Proofs.Tryz.prog T 19 [] [.agg (gcs wd lo hi out (.d (rowN ns))), .d (.i .i64 N)] (fun r H => H = [] ∧ r = .d (.row [.i .i64 0] ((cntO ns (order ns) Nd.rReady N).map intC))) := by
  have hn0 := h.n0
  have cC := counted_c Tk wd lo hi out N 32 Nd.ready ns _ _ _ (by omega) h.inn h.look h.co (fun n l hl hst => kReady_k Tk n l hl (fun _ => by rw [stp_eqW]; exact hst))
  rw [h.cntO_ready] at cC
  refine Cg_of [] Tk.m Go.Proofs.Tryz.func19 rfl rfl Go.Proofs.Tryz.ntmps19 (by simp) rfl (rs := [.tmp 4]) rfl fun E hP hn hT hpn => ?_
  (repeat refine TS.imp ?_)
  refine TR.imp ?_; intro K hK; simp only [go_sem, hP, hn]; (repeat refine vc ?_); refine hK _ ?_; clear K hK
  (repeat refine TS.imp ?_)
  refine TR.imp ?_; intro K hK; simp only [go_sem, hP, hn]
  (repeat refine vc ?_)
  refine CallN_cs (Hi := [] ) (by rw [hP, hT]; exact  cC) rfl rfl rfl trivial (by simp only [go_sem, hP, hn]; try trivial) (by simp only [go_sem, hP, hn]; try rfl) (by simp only [inH, go_sem, hP, hn]; try simp) (by rw [hn]; decide) ?_; simp only [go_sem, hP, hn]; (repeat refine vc ?_)
  refine hK _ ?_; clear K hK
  (repeat refine TS.imp ?_)
  simp only [RetG, go_sem]; (repeat with_reducible refine vc ?_)
theorem inF_g7 (o : List (List (List Int))) (i : Int) : inF o i = ga [] o i := rfl
/-- a made graph's frames: all of a node, and those that are ready -/
def outL (ns : List Nd) (W : List Int) (out : Int) (fs : List (List Int)) : List (List Int) := inF (strL ns W fs) out
def rdyN (ns : List Nd) (out many : Int) : Int := rd (cntL ns Nd.rReady many) out
theorem Eval_w {T : World → Prop} (Tk : KT T) {wd lo hi out : Int} {ns : List Nd} {W R : Int → Int} {rk : Int → Nat} {W2 R2 : List Int} (h : GF wd lo hi out ns W R rk W2 R2) {many : Int} {fs : List (List Int)} (hfs : Fin18 wd lo hi many fs) (hm : 0 ≤ many ∧ many ≤ 1000) :
    Cg Go.Proofs.Tryz.prog T 11 [] [.agg (gcs wd lo hi out (.d (rowN ns))), .d (frD fs)] (fun r H => H = [] ∧ r = .tup [.d (frD (outL ns W2 out fs)), .d (.i .i64 0)]) := by
  have cS := Streams_w Tk h hfs hm
  have hrg := may_rng h.may
  have hsl := strL_len ns W2 fs
  have hri := rw_ins (strL ns W2 fs) out (by omega) (by omega)
  have o1 : 0 ≤ out ∧ out < (strL ns W2 fs).length := by omega
  have o2 : out.toNat < (strL ns W2 fs).length := by omega
  unfold outL
  refine Cg_of [] Tk.m Go.Proofs.Tryz.func11 rfl rfl Go.Proofs.Tryz.ntmps11 (by simp) rfl (rs := [.tmp 4, .tmp 5]) rfl fun E hP hn hT hpn => ?_
  (repeat refine TS.imp ?_)
  refine TR.imp ?_; intro K hK; simp only [go_sem, hP, hn]; (repeat refine vc ?_); refine hK _ ?_; clear K hK
  (repeat refine TS.imp ?_)
  refine TR.imp ?_; intro K hK; simp only [go_sem, hP, hn]
  (repeat refine vc ?_)
  refine CallN_cs (Hi := [] ) (by rw [hP, hT]; exact  cS) rfl rfl rfl trivial (by simp only [go_sem, hP, hn]; try trivial) (by simp only [go_sem, hP, hn]; try rfl) (by simp only [inH, go_sem, hP, hn]; try simp) (by rw [hn]; decide) ?_; simp only [go_sem, hP, hn]; (repeat refine vc ?_)
  refine hK _ ?_; clear K hK
  (repeat refine TS.imp ?_)
  refine TR.imp ?_; intro K hK; simp only [go_sem, hP, hn]; (repeat refine vc ?_); refine hK _ ?_; clear K hK
  (repeat refine TS.imp ?_)
  refine Tr.cond rfl (fun hb => ?_) (fun hb => ?_)
  · cases hb
  clear hb
  (repeat refine TS.imp ?_)
  refine TR.imp ?_; intro K hK; simp only [hri, go_sem, hP, hn]
  (repeat refine vc ?_)
  refine hK _ ?_; clear K hK
  (repeat refine TS.imp ?_)
  simp only [RetG, go_sem]; (repeat with_reducible refine vc ?_)
theorem Ready_w {T : World → Prop} (Tk : KT T) {wd lo hi out : Int} {ns : List Nd} {W R : Int → Int} {rk : Int → Nat} {W2 R2 : List Int} (h : GF wd lo hi out ns W R rk W2 R2) {many : Int} {fs : List (List Int)} (hfs : Fin18 wd lo hi many fs) (hm : 0 ≤ many ∧ many ≤ 1000) :
    Cg Go.Proofs.Tryz.prog T 12 [] [.agg (gcs wd lo hi out (.d (rowN ns))), .d (frD fs)] (fun r H => H = [] ∧ r = .tup [.d (frD ((outL ns W2 out fs).take (rdyN ns out many).toNat)), .d (.i .i64 0)]) := by
  have cE := Eval_w Tk h hfs hm
  have hrg := may_rng h.may
  have cR := Readies_w Tk h many
  have hl0 := hfs.len
  rw [show cntO ns (order ns) Nd.rReady many = cntL ns Nd.rReady many from if_neg (by unfold many62; simp; omega)] at cR
  have hl := h.lens hfs hm 12 out (by omega) (by omega) (h.rank out (by omega) (by omega))
  have hcl : (cntL ns Nd.rReady many).length = ns.length + 1 := by unfold cntL; rw [ordL_len]; simp
  have o1 : 0 ≤ out ∧ out < (cntL ns Nd.rReady many).length := by omega
  have hr1 : 0 ≤ rdyN ns out many ∧ rdyN ns out many ≤ (outL ns W2 out fs).length := by
    unfold rdyN outL
    rw [inF_g7]
    omega
  have hrd : rd (cntL ns Nd.rReady many) out = rdyN ns out many := rfl
  generalize outL ns W2 out fs = L at *
  generalize rdyN ns out many = c at *
  generalize cntL ns Nd.rReady many = CL at *
  refine Cg_of [] Tk.m Go.Proofs.Tryz.func12 rfl rfl Go.Proofs.Tryz.ntmps12 (by simp) rfl (rs := [.tmp 4, .tmp 5]) rfl fun E hP hn hT hpn => ?_
  (repeat refine TS.imp ?_)
  refine TR.imp ?_; intro K hK; simp only [go_sem, hP, hn]; (repeat refine vc ?_); refine hK _ ?_; clear K hK
  (repeat refine TS.imp ?_)
  refine TR.imp ?_; intro K hK; simp only [go_sem, hP, hn]
  (repeat refine vc ?_)
  refine CallN_cs (Hi := [] ) (by rw [hP, hT]; exact  cE) rfl rfl rfl trivial (by simp only [go_sem, hP, hn]; try trivial) (by simp only [go_sem, hP, hn]; try rfl) (by simp only [inH, go_sem, hP, hn]; try simp) (by rw [hn]; decide) ?_; simp only [go_sem, hP, hn]; (repeat refine vc ?_)
  refine hK _ ?_; clear K hK
  (repeat refine TS.imp ?_)
  refine TR.imp ?_; intro K hK; simp only [go_sem, hP, hn]; (repeat refine vc ?_); refine hK _ ?_; clear K hK
  (repeat refine TS.imp ?_)
  refine Tr.cond rfl (fun hb => ?_) (fun hb => ?_)
  · cases hb
  clear hb
  refine Tr.le (Le.keep [1, 2, 6]) ?_; simp only [List.map_cons, List.map_nil, lk, Nat.reduceEqDiff, reduceIte]
  (repeat refine TS.imp ?_)
  refine d5 (.p true 0 (.p true 1 (.p true 2 (.p true 3 (.p true 5 (.p true 6 (.alt 4 (.p false 7 (.alt 8 (.p false 9 (.p false 10 (.p true 11 .nil))) .nil)) .nil))))))) [] (by rw [hP]; kernel_rfl) (by kernel_rfl) (by simp only [go_sem, hP, hn]; try simp) (by exact fun _ _ h => h) ?_; intro K hK; simp only [go_sem, hP, hn]
  have hr2 : 0 ≤ rd CL out ∧ rd CL out ≤ L.length := by rw [hrd]; exact hr1
  have hr3 : (rd CL out).toNat ≤ L.length := by omega
  rw [← hl0] at cR
  (repeat refine vc ?_)
  refine CallP_cs (by rw [hP, hT]; exact cR) rfl rfl rfl trivial (by simp only [go_sem, hP, hn]; try trivial) (by simp only [go_sem, hP, hn]; try rfl) (by rw [hn]; decide) ?_; simp only [go_sem, hP, hn]; (repeat refine vc ?_)
  refine hK _ ?_; clear K hK
  (repeat refine TS.imp ?_)
  simp only [RetG, go_sem]; (repeat with_reducible refine vc ?_)
  rw [hrd, List.map_take]
end
end Go.Proofs.YtgomeljgbjgbkaaGreatDoor.Aw
