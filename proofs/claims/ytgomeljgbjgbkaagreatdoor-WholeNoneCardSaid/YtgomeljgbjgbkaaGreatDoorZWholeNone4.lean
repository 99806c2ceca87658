/- The abstract walk, and contracts of Go functions: each call returns what the Lean function named tells. Conditions: those that each theorem names, none else. -/
import Derived.Test.YtgomeljgbjgbkaaGreatDoorZWholeNone3
set_option linter.unusedVariables false
set_option linter.unusedSimpArgs false
set_option maxRecDepth 100000
set_option linter.unusedSectionVars false
set_option maxHeartbeats 4000000
namespace Go.Proofs.YtgomeljgbjgbkaaGreatDoor.Aw
open Go.RowKit
attribute [local go_sem_proc] Nat.reduceAdd Nat.reduceMul Nat.reduceSub Nat.reduceEqDiff Nat.reduceLeDiff Nat.reduceBEq Nat.reduceBNe Int.reduceToNat reduceIte reduceCtorEq
attribute [local go_sem] initT SQ so pe he ev lk constS stp stc gdS nth pickS pickD loadS cellsAt okAt fieldAddrS fieldS partS indexAddrS indexS extractS binS binD binI isShift unS convS lenS sliceS bndI bndC mmS mm2 mmD builtS fillS okCells cellsS splS solid aliveL alive okS boxS allocS makeS bsliceS elemsOf dcells stF frzW storeS frzA frzK oneS1 srcR rwsOf hdO appR frz frzT frzS frzL frzO frzH appS srcS appVC killS killT killC killH killO k1 k2 S.has S.hasL St.add St.upd dropH lh cond_or cond_and rw_intC rw_intC0 rw_set rw_app rw_apps rw_rep rw_slice wr64 cond_true cond_false true_and and_true List.map_cons List.map_nil List.length_cons List.length_nil List.drop_succ_cons List.drop_zero List.take_succ_cons List.take_zero List.nil_append List.cons_append List.getD_cons_zero List.getD_cons_succ List.headD_cons List.length_map ite_true ite_false if_true if_false Bool.false_eq_true and_self forall_const List.drop_nil List.take_nil List.append_nil Option.map_some Option.map_none List.mapM_cons List.mapM_nil Option.bind_eq_bind Option.bind_some Option.pure_def knows resL resV oneS freshS freshL cv cvL stpL stcL or_true true_or or_false false_or List.all_cons List.all_nil Bool.and_self Bool.or_self Bool.true_and Bool.and_true Bool.or_false Bool.false_or implies_true flatD allm_nil allm_cons List.getElem?_cons_zero List.getElem?_cons_succ Nd.cs Nd.ds ml mln Option.isSome_some Option.isSome_none eq_self Int.toNat_natCast AP ldOk isLd inL subL crt chg chgS chgP idxs aliveW Option.toList_some Option.toList_none Option.toList RetG Nd.win frzA offK keepH aliveK nkH closedH closedO keysK inH St.upd rowO List.contains_cons List.contains_nil Bool.or_self Option.isNone_none Option.isNone_some Bool.not_true Bool.not_false gcs rowN e0N frzC
attribute [local go_sem] sz2 ag2 ok2 kk2 iu2 zc2 zd2 by2 sz3 ag3 ok3 kk3 iu3 zc3 zd3 by3 sz4 ag4 ok4 bo4 zc4 zd4 by4 sz5 ag5 ok5 kk5 iu5 zc5 zd5 by5 sz9 ag9 ok9 st9 zc9 zd9 by9 sz12 ag12 ok12 kk12 iu12 zc12 zd12 by12 sz15 ag15 ok15 zc15 by15 sz16 ag16 ok16 zc16 by16 sz21 ag21 ok21 kk21 iu21 zc21 zd21 by21 sz22 ag22 ok22 sl22 zc22 zd22 by22 sz23 ag23 ok23 zc23 zd23 pl23 by23 fl23_0 fl23_1 fl23_2 sz24 ag24 ok24 zc24 zd24 pl24 by24 fl24_0 fl24_1 fl24_2 sz26 ag26 ok26 sl26 zc26 zd26 by26 sz27 ag27 ok27 zc27 zd27 pl27 by27 fl27_0 fl27_1 fl27_2 fl27_3 fl27_4 sz28 ag28 ok28 zc28 zd28 pl28 by28 fl28_0 fl28_1 fl28_2 fl28_3 fl28_4 sz29 ag29 ok29 sl29 zc29 zd29 by29 sz32 ag32 ok32 sl32 zc32 zd32 by32 sz33 ag33 ok33 kk33 iu33 zc33 zd33 by33 sz36 ag36 ok36 zc36 zd36 pl36 by36 fl36_0 fl36_1 sz37 ag37 ok37 zc37 zd37 pl37 by37 fl37_0 fl37_1 sz49 ag49 ok49 zc49 zd49 pl49 by49 fl49_0 fl49_1 fl49_2 fl49_3 fl49_4 fl49_5 fl49_6 fl49_7 fl49_8 fl49_9 fl49_10 fl49_11 fl49_12 fl49_13 fl49_14 sz50 ag50 ok50 zc50 zd50 pl50 by50 fl50_0 fl50_1 fl50_2 fl50_3 fl50_4 fl50_5 fl50_6 fl50_7 fl50_8 fl50_9 fl50_10 fl50_11 fl50_12 fl50_13 fl50_14 sz53 ag53 ok53 zc53 by53 sz55 ag55 ok55 zc55 zd55 pl55 by55 fl55_0 fl55_1 fl55_2 sz56 ag56 ok56 zc56 zd56 pl56 by56 fl56_0 fl56_1 fl56_2 sz58 ag58 ok58 zc58 zd58 pl58 by58 fl58_0 fl58_1 fl58_2 fl58_3 sz59 ag59 ok59 zc59 zd59 pl59 by59 fl59_0 fl59_1 fl59_2 fl59_3 sz66 ag66 ok66 zc66 zd66 pl66 by66 fl66_0 fl66_1 fl66_2 sz67 ag67 ok67 zc67 zd67 pl67 by67 fl67_0 fl67_1 fl67_2 sz79 ag79 ok79 zc79 by79 sz80 ag80 ok80 zc80 zd80 pl80 by80 fl80_0 fl80_1 sz81 ag81 ok81 zc81 zd81 pl81 by81 fl81_0 fl81_1 sz105 ag105 ok105 sl105 ar105 zc105 zd105 pl105 by105 sz108 ag108 ok108 sl108 ar108 zc108 zd108 pl108 by108 sz109 ag109 ok109 zc109 by109 sz115 ag115 ok115 zc115 zd115 pl115 by115 fl115_0 fl115_1 sz116 ag116 ok116 zc116 zd116 pl116 by116 fl116_0 fl116_1 sz120 ag120 ok120 zc120 zd120 pl120 by120 fl120_0 fl120_1 sz121 ag121 ok121 sl121 ar121 zc121 zd121 pl121 by121 sz124 ag124 ok124 kk124 iu124 zc124 zd124 by124 sz133 ag133 ok133 kk133 iu133 zc133 zd133 by133 sz137 ag137 ok137 zc137 by137
section
def turnN (N : Int) (n : Nd) : Nd := { n with inn := n.inn.map fun x => if 0 < x then N + 1 - x else x }
attribute [local go_sem] turnN
theorem turned_c {T : World → Prop} (Tm : TP T) (wd lo hi out : Int) (ns : List Nd) (hn0 : 1 ≤ ns.length) (hn : ns.length ≤ 12) (ho : 0 ≤ out ∧ out ≤ ns.length) (hin : ∀ n ∈ ns, n.inn.length ≤ 4096 ∧ ∀ j ∈ n.inn, 0 ≤ j ∧ j ≤ ns.length) :
    Cg Go.Proofs.Tryz.prog T 51 [] [.agg (gcs wd lo hi out (.d (rowN ns)))] (fun r H => r = .agg (gcs wd lo hi (ns.length + 1 - out) (.own 2000)) ∧ H = [(2000, .row 50 e0N ((ns.map (turnN ns.length)).reverse.map Nd.ds))]) := by
  refine Cg_of [2000] Tm Go.Proofs.Tryz.func51 rfl rfl Go.Proofs.Tryz.ntmps51 (by simp) rfl (rs := [.cell 2 28]) rfl fun E hP hn hT hpn => ?_
  (repeat (first | (refine TR.imp ?_; intro K hK; simp only [go_sem, hP, hn]; (repeat refine vc ?_); refine hK _ ?_; clear K hK) | refine TS.imp ?_))
  rw [w64 (x := (ns.length : Int) + 1) (by omega) (by omega), w64 (x := (ns.length : Int) + 1 - out) (by omega) (by omega)]
  refine Tr.le (Le.keep [1, 2, 3, 4, 5]) ?_; simp only [List.map_cons, List.map_nil, lk, Nat.reduceEqDiff, reduceIte]
  refine Tr.loop (fun m s => ∃ (i : Int) (x : S) (X : Hp), s = ⟨[(1, .ptr 1 0), (2, .ptr 2 0), (3, .d (.i .i64 ns.length)), (4, .ptr 4 0), (5, .d (.i .i64 i))], [(4, .box 28 (gcs wd lo hi (ns.length + 1 - out) x)), (2, .box 28 (gcs 0 0 0 0 (.d .nil))), (1, .box 28 (gcs wd lo hi out (.d (rowN ns))))] ++ X⟩ ∧ i = m ∧ i ≤ ns.length ∧ ((i = ns.length ∧ x = .d .nil ∧ X = []) ∨ (i < ns.length ∧ x = .own 66 ∧ X = [(66, .row 50 e0N (((ns.drop i.toNat).map (turnN ns.length)).reverse.map Nd.ds))]))) ns.length ⟨_, (Le.mv (by simp only [go_sem, hP, hn]; first | done | (simp; done) | (simp [intC]; done) | (repeat (first | rfl | constructor))) (by simp only [go_sem, hP, hn]; first | done | (simp; done) | (simp [intC]; done) | (repeat (first | rfl | constructor)))), ns.length, .d .nil, [], rfl, rfl, by omega, .inl ⟨rfl, rfl, rfl⟩⟩ ?_
  rintro m s ⟨i, x, X, rfl, him, hiN, hx⟩
  have hdr : 1 ≤ i → (ns.drop (i - 1).toNat).map (turnN ns.length) = turnN ns.length (nd ns (i - 1)) :: (ns.drop i.toNat).map (turnN ns.length) := fun h1 => by
    rw [drop_nd (show 0 ≤ i - 1 by omega) (by omega), List.map_cons, show i - 1 + 1 = i by omega]
  rcases hx with ⟨hN, rfl, rfl⟩ | ⟨hlt, rfl, rfl⟩
  · (repeat (first | (refine TR.imp ?_; intro K hK; simp only [go_sem, hP, hn]; (repeat refine vc ?_); refine hK _ ?_; clear K hK) | refine TS.imp ?_))
    refine Tr.cond rfl (fun hb => ?_) (fun hb => ?_)
    · have h1 : 1 ≤ i := by simpa using hb
      have hi1 : wrap64 (i - 1) = i - 1 := w64 (by omega) (by omega)
      have hnd := rw_nd ns (i - 1) (by omega) (by omega)
      have hq := hin _ (nd_mem (ns := ns) (i := i - 1) (by omega) (by omega))
      replace hdr := hdr h1
      (repeat refine TS.imp ?_)
      refine TR.imp ?_; intro K hK; simp only [hi1, hnd, go_sem, hP, hn]
      (repeat refine vc ?_)
      generalize nd ns (i - 1) = q at hq hdr ⊢
      refine hK _ ?_; clear K hK
      (repeat (first | (refine TR.imp ?_; intro K hK; simp only [go_sem, hP, hn]; (repeat refine vc ?_); refine hK _ ?_; clear K hK) | refine TS.imp ?_))
      refine Tr.le (Le.keep [1, 2, 3, 4, 5, 6, 7, 8]) ?_; simp only [List.map_cons, List.map_nil, lk, Nat.reduceEqDiff, reduceIte]
      refine Tr.loop (fun m2 s => ∃ (j : Int) (l : List Int), s = ⟨[(1, .ptr 1 0), (2, .ptr 2 0), (3, .d (.i .i64 ns.length)), (4, .ptr 4 0), (5, .d (.i .i64 i)), (6, .ptr 6 0), (7, .own 38), (8, .d (.i .i64 j))], [(38, .row 3 [.i .i64 0] (l.map intC)), (6, .box 50 q.cs), (4, .box 28 (gcs wd lo hi (ns.length + 1 - out) (.d .nil))), (2, .box 28 (gcs 0 0 0 0 (.d .nil))), (1, .box 28 (gcs wd lo hi out (.d (rowN ns))))]⟩ ∧ 0 ≤ j ∧ j + m2 = q.inn.length ∧ l.length = q.inn.length ∧ l.take j.toNat = (q.inn.take j.toNat).map (fun x => if 0 < x then (ns.length : Int) + 1 - x else x) ∧ l.drop j.toNat = q.inn.drop j.toNat) q.inn.length ⟨_, (Le.mv (by simp only [go_sem, hP, hn]; first | done | (simp; done) | (simp [intC]; done) | (repeat (first | rfl | constructor))) (by simp only [go_sem, hP, hn]; first | done | (simp; done) | (simp [intC]; done) | (repeat (first | rfl | constructor)))), 0, q.inn, rfl, by omega, by omega, rfl, by simp, by simp⟩ ?_
      rintro m2 s ⟨j, l, rfl, hj0, hj1, hl, hta, hdo⟩
      (repeat (first | (refine TR.imp ?_; intro K hK; simp only [go_sem, hP, hn]; (repeat refine vc ?_); refine hK _ ?_; clear K hK) | refine TS.imp ?_))
      refine Tr.cond rfl (fun hc => ?_) (fun hc => ?_)
      · have hjl : j < l.length := by simpa using hc
        have hrd : rd l j = rd q.inn j := by
          have e1 := drop_rd hj0 hjl
          have e2 := drop_rd (l := q.inn) hj0 (by omega)
          rw [hdo, e2] at e1
          exact (List.cons.inj e1).1.symm
        have hd1 : l.drop (j + 1).toNat = q.inn.drop (j + 1).toNat := by
          have e1 := drop_rd hj0 hjl
          have e2 := drop_rd (l := q.inn) hj0 (by omega)
          rw [hdo, e2] at e1
          exact (List.cons.inj e1).2.symm
        have hbd := hq.2 _ (rd_mem (l := q.inn) hj0 (by omega))
        (repeat (first | (refine TR.imp ?_; intro K hK; simp only [go_sem, hP, hn]; (repeat refine vc ?_); refine hK _ ?_; clear K hK) | refine TS.imp ?_))
        refine Tr.cond rfl (fun hg => ?_) (fun hg => ?_)
        · have hg1 : 0 < rd l j := by simpa using hg
          (repeat refine TS.imp ?_)
          refine TR.imp ?_; intro K hK; simp only [go_sem, hP, hn]; (repeat refine vc ?_); refine hK _ ?_; clear K hK
          (repeat (first | (refine TR.imp ?_; intro K hK; simp only [go_sem, hP, hn]; (repeat refine vc ?_); refine hK _ ?_; clear K hK) | refine TS.imp ?_))
          rw [w64 (x := j + 1) (by omega) (by omega), w64 (x := (ns.length : Int) + 1) (by omega) (by omega), w64 (x := (ns.length : Int) + 1 - rd l j) (by omega) (by omega)]
          refine ⟨m2 - 1, _, by omega, ?_, j + 1, l.set j.toNat ((ns.length : Int) + 1 - rd l j), rfl, by omega, by omega, by simpa using hl, ?_, ?_⟩
          · exact (Le.mv (by simp only [go_sem, hP, hn]; first | done | (simp; done) | (simp [intC]; done) | (repeat (first | rfl | constructor))) (by simp only [go_sem, hP, hn]; first | done | (simp; done) | (simp [intC]; done) | (repeat (first | rfl | constructor))))
          · rw [take_set hj0 hjl, take_rd hj0 (show j < q.inn.length by omega), hta, List.map_append, List.map_cons, List.map_nil, hrd, if_pos (by omega)]
          · rw [List.drop_set_of_lt (by omega), hd1]
        · have hg1 : ¬ 0 < rd l j := by simpa using hg
          (repeat (first | (refine TR.imp ?_; intro K hK; simp only [go_sem, hP, hn]; (repeat refine vc ?_); refine hK _ ?_; clear K hK) | refine TS.imp ?_))
          rw [w64 (x := j + 1) (by omega) (by omega)]
          refine ⟨m2 - 1, _, by omega, ?_, j + 1, l, rfl, by omega, by omega, hl, ?_, hd1⟩
          · exact (Le.mv (by simp only [go_sem, hP, hn]; first | done | (simp; done) | (simp [intC]; done) | (repeat (first | rfl | constructor))) (by simp only [go_sem, hP, hn]; first | done | (simp; done) | (simp [intC]; done) | (repeat (first | rfl | constructor))))
          · rw [take_rd hj0 hjl, take_rd hj0 (show j < q.inn.length by omega), hta, List.map_append, List.map_cons, List.map_nil, hrd, if_neg (by omega)]
      · have hj : j = q.inn.length := by have := of_decide_eq_false hc; omega
        obtain rfl : l = q.inn.map (fun x => if 0 < x then (ns.length : Int) + 1 - x else x) := by
          rw [List.take_of_length_le (by omega), List.take_of_length_le (by omega)] at hta
          exact hta
        refine Tr.le (Le.freeze 38) ?_
        simp only [go_sem, hP, hn]
        (repeat refine TS.imp ?_)
        refine TR.imp ?_; intro K hK; simp only [go_sem, hP, hn]; (repeat refine vc ?_); refine hK _ ?_; clear K hK
        (repeat refine TS.imp ?_)
        refine TR.imp ?_; intro K hK; simp only [go_sem, hP, hn]; (repeat refine vc ?_); refine hK _ ?_; clear K hK
        (repeat (first | (refine TR.imp ?_; intro K hK; simp only [go_sem, hP, hn]; (repeat refine vc ?_); refine hK _ ?_; clear K hK) | refine TS.imp ?_))
        rw [hi1]
        refine ⟨m - 1, _, by omega, ?_, i - 1, .own 66, [(66, .row 50 e0N ([] ++ [(turnN ns.length q).ds]))], rfl, by omega, by omega, .inr ⟨by omega, rfl, by rw [hdr, List.reverse_cons, List.map_append]; rw [List.drop_eq_nil_of_le (by omega)]; rfl⟩⟩
        exact (Le.mv (by simp only [go_sem, hP, hn]; first | done | (simp; done) | (simp [intC]; done) | (repeat (first | rfl | constructor))) (by simp only [go_sem, hP, hn]; first | done | (simp; done) | (simp [intC]; done) | (repeat (first | rfl | constructor))))
    · exact absurd (of_decide_eq_false hb) (by omega)
  · (repeat (first | (refine TR.imp ?_; intro K hK; simp only [go_sem, hP, hn]; (repeat refine vc ?_); refine hK _ ?_; clear K hK) | refine TS.imp ?_))
    refine Tr.cond rfl (fun hb => ?_) (fun hb => ?_)
    · have h1 : 1 ≤ i := by simpa using hb
      have hi1 : wrap64 (i - 1) = i - 1 := w64 (by omega) (by omega)
      have hnd := rw_nd ns (i - 1) (by omega) (by omega)
      have hq := hin _ (nd_mem (ns := ns) (i := i - 1) (by omega) (by omega))
      replace hdr := hdr h1
      (repeat refine TS.imp ?_)
      refine TR.imp ?_; intro K hK; simp only [hi1, hnd, go_sem, hP, hn]
      (repeat refine vc ?_)
      generalize nd ns (i - 1) = q at hq hdr ⊢
      refine hK _ ?_; clear K hK
      (repeat (first | (refine TR.imp ?_; intro K hK; simp only [go_sem, hP, hn]; (repeat refine vc ?_); refine hK _ ?_; clear K hK) | refine TS.imp ?_))
      refine Tr.le (Le.keep [1, 2, 3, 4, 5, 6, 7, 8]) ?_; simp only [List.map_cons, List.map_nil, lk, Nat.reduceEqDiff, reduceIte]
      refine Tr.loop (fun m2 s => ∃ (j : Int) (l : List Int), s = ⟨[(1, .ptr 1 0), (2, .ptr 2 0), (3, .d (.i .i64 ns.length)), (4, .ptr 4 0), (5, .d (.i .i64 i)), (6, .ptr 6 0), (7, .own 38), (8, .d (.i .i64 j))], [(38, .row 3 [.i .i64 0] (l.map intC)), (6, .box 50 q.cs), (4, .box 28 (gcs wd lo hi (ns.length + 1 - out) (.own 66))), (2, .box 28 (gcs 0 0 0 0 (.d .nil))), (1, .box 28 (gcs wd lo hi out (.d (rowN ns)))), (66, .row 50 e0N (((ns.drop i.toNat).map (turnN ns.length)).reverse.map Nd.ds))]⟩ ∧ 0 ≤ j ∧ j + m2 = q.inn.length ∧ l.length = q.inn.length ∧ l.take j.toNat = (q.inn.take j.toNat).map (fun x => if 0 < x then (ns.length : Int) + 1 - x else x) ∧ l.drop j.toNat = q.inn.drop j.toNat) q.inn.length ⟨_, (Le.mv (by simp only [go_sem, hP, hn]; first | done | (simp; done) | (simp [intC]; done) | (repeat (first | rfl | constructor))) (by simp only [go_sem, hP, hn]; first | done | (simp; done) | (simp [intC]; done) | (repeat (first | rfl | constructor)))), 0, q.inn, rfl, by omega, by omega, rfl, by simp, by simp⟩ ?_
      rintro m2 s ⟨j, l, rfl, hj0, hj1, hl, hta, hdo⟩
      (repeat (first | (refine TR.imp ?_; intro K hK; simp only [go_sem, hP, hn]; (repeat refine vc ?_); refine hK _ ?_; clear K hK) | refine TS.imp ?_))
      refine Tr.cond rfl (fun hc => ?_) (fun hc => ?_)
      · have hjl : j < l.length := by simpa using hc
        have hrd : rd l j = rd q.inn j := by
          have e1 := drop_rd hj0 hjl
          have e2 := drop_rd (l := q.inn) hj0 (by omega)
          rw [hdo, e2] at e1
          exact (List.cons.inj e1).1.symm
        have hd1 : l.drop (j + 1).toNat = q.inn.drop (j + 1).toNat := by
          have e1 := drop_rd hj0 hjl
          have e2 := drop_rd (l := q.inn) hj0 (by omega)
          rw [hdo, e2] at e1
          exact (List.cons.inj e1).2.symm
        have hbd := hq.2 _ (rd_mem (l := q.inn) hj0 (by omega))
        (repeat (first | (refine TR.imp ?_; intro K hK; simp only [go_sem, hP, hn]; (repeat refine vc ?_); refine hK _ ?_; clear K hK) | refine TS.imp ?_))
        refine Tr.cond rfl (fun hg => ?_) (fun hg => ?_)
        · have hg1 : 0 < rd l j := by simpa using hg
          (repeat refine TS.imp ?_)
          refine TR.imp ?_; intro K hK; simp only [go_sem, hP, hn]; (repeat refine vc ?_); refine hK _ ?_; clear K hK
          (repeat (first | (refine TR.imp ?_; intro K hK; simp only [go_sem, hP, hn]; (repeat refine vc ?_); refine hK _ ?_; clear K hK) | refine TS.imp ?_))
          rw [w64 (x := j + 1) (by omega) (by omega), w64 (x := (ns.length : Int) + 1) (by omega) (by omega), w64 (x := (ns.length : Int) + 1 - rd l j) (by omega) (by omega)]
          refine ⟨m2 - 1, _, by omega, ?_, j + 1, l.set j.toNat ((ns.length : Int) + 1 - rd l j), rfl, by omega, by omega, by simpa using hl, ?_, ?_⟩
          · exact (Le.mv (by simp only [go_sem, hP, hn]; first | done | (simp; done) | (simp [intC]; done) | (repeat (first | rfl | constructor))) (by simp only [go_sem, hP, hn]; first | done | (simp; done) | (simp [intC]; done) | (repeat (first | rfl | constructor))))
          · rw [take_set hj0 hjl, take_rd hj0 (show j < q.inn.length by omega), hta, List.map_append, List.map_cons, List.map_nil, hrd, if_pos (by omega)]
          · rw [List.drop_set_of_lt (by omega), hd1]
        · have hg1 : ¬ 0 < rd l j := by simpa using hg
          (repeat (first | (refine TR.imp ?_; intro K hK; simp only [go_sem, hP, hn]; (repeat refine vc ?_); refine hK _ ?_; clear K hK) | refine TS.imp ?_))
          rw [w64 (x := j + 1) (by omega) (by omega)]
          refine ⟨m2 - 1, _, by omega, ?_, j + 1, l, rfl, by omega, by omega, hl, ?_, hd1⟩
          · exact (Le.mv (by simp only [go_sem, hP, hn]; first | done | (simp; done) | (simp [intC]; done) | (repeat (first | rfl | constructor))) (by simp only [go_sem, hP, hn]; first | done | (simp; done) | (simp [intC]; done) | (repeat (first | rfl | constructor))))
          · rw [take_rd hj0 hjl, take_rd hj0 (show j < q.inn.length by omega), hta, List.map_append, List.map_cons, List.map_nil, hrd, if_neg (by omega)]
      · have hj : j = q.inn.length := by have := of_decide_eq_false hc; omega
        obtain rfl : l = q.inn.map (fun x => if 0 < x then (ns.length : Int) + 1 - x else x) := by
          rw [List.take_of_length_le (by omega), List.take_of_length_le (by omega)] at hta
          exact hta
        refine Tr.le (Le.freeze 38) ?_
        simp only [go_sem, hP, hn]
        (repeat refine TS.imp ?_)
        refine TR.imp ?_; intro K hK; simp only [go_sem, hP, hn]; (repeat refine vc ?_); refine hK _ ?_; clear K hK
        (repeat refine TS.imp ?_)
        refine TR.imp ?_; intro K hK; simp only [go_sem, hP, hn]; (repeat refine vc ?_); refine hK _ ?_; clear K hK
        (repeat (first | (refine TR.imp ?_; intro K hK; simp only [go_sem, hP, hn]; (repeat refine vc ?_); refine hK _ ?_; clear K hK) | refine TS.imp ?_))
        rw [hi1]
        refine ⟨m - 1, _, by omega, ?_, i - 1, .own 66, [(66, .row 50 e0N ((((ns.drop i.toNat).map (turnN ns.length)).reverse.map Nd.ds) ++ [(turnN ns.length q).ds]))], rfl, by omega, by omega, .inr ⟨by omega, rfl, by rw [hdr, List.reverse_cons, List.map_append]; rfl⟩⟩
        exact (Le.mv (by simp only [go_sem, hP, hn]; first | done | (simp; done) | (simp [intC]; done) | (repeat (first | rfl | constructor))) (by simp only [go_sem, hP, hn]; first | done | (simp; done) | (simp [intC]; done) | (repeat (first | rfl | constructor))))
    · have h0 : i = 0 := by {have := of_decide_eq_false hb; omega}
      subst h0
      refine Tr.le (Le.ren 66 2000 (by rw [hpn]; rfl) rfl rfl) ?_
      simp only [renT, renH, renO, renS, renL, rn, go_sem, hP, hn]
      (repeat (first | (refine TR.imp ?_; intro K hK; simp only [go_sem, hP, hn]; (repeat refine vc ?_); refine hK _ ?_; clear K hK) | refine TS.imp ?_))

      simp only [RetG, go_sem]; (repeat with_reducible refine vc ?_)
      decide
end
/-- what ref15.Made makes -/
structure GM (wd lo hi out : Int) (ns : List Nd) : Prop where
  wd0 : 1 ≤ wd ∧ wd ≤ 3
  lo0 : -199 ≤ lo ∧ lo ≤ 0
  hi0 : 0 ≤ hi ∧ hi ≤ 199
  n0 : 1 ≤ ns.length ∧ ns.length ≤ 6
  out0 : 1 ≤ out ∧ out ≤ ns.length
  made : ∃ ns0 W R, MadeL wd ns0 W R ∧ (ns = ns0 ∨ ns = (ns0.map (turnN ns0.length)).reverse)
def PMade (r : S) (H : Hp) : Prop := ∃ wd lo hi out ns, r = .agg (gcs wd lo hi out (.own 2000)) ∧ H = [(2000, .row 50 e0N (ns.map Nd.ds))] ∧ GM wd lo hi out ns
theorem Made15_c {T : World → Prop} (Tm : TP T) (l0 : List Int) : Cg Go.Proofs.Tryz.prog T 28 [] [.d (.row [.i .i64 0] (l0.map intC))] PMade := by
  refine Cg_of [2000] Tm Go.Proofs.Tryz.func28 rfl rfl Go.Proofs.Tryz.ntmps28 (by simp) rfl (rs := [.cell 2 28]) rfl fun E hP hn hT hpn => ?_
  (repeat (first | (refine TR.imp ?_; intro K hK; simp only [go_sem, hP, hn]; (repeat refine vc ?_); refine hK _ ?_; clear K hK) | refine TS.imp ?_))
  refine Tr.meet (fun s => ∃ l : List Int, s = ⟨[(0, .d (.row [.i .i64 0] (l.map intC))), (2, .ptr 2 0)], [(2, .box 28 (gcs 0 0 0 0 (.d .nil)))]⟩ ∧ l.length ≤ 240) ?_ ?_
  rotate_left
  · refine Tr.cond rfl (fun h1 => ?_) (fun h1 => ?_)
    · have h2 : 240 < l0.length := by
        have : (240 : Int) < l0.length := by simpa using h1
        omega
      (repeat (first | (refine TR.imp ?_; intro K hK; simp only [go_sem, hP, hn]; (repeat refine vc ?_); refine hK _ ?_; clear K hK) | refine TS.imp ?_))
      exact ⟨_, (Le.mv (by simp only [go_sem, hP, hn]; first | done | (simp; done) | (simp [intC]; done) | (repeat (first | rfl | constructor))) (by simp only [go_sem, hP, hn]; first | done | (simp; done) | (simp [intC]; done) | (repeat (first | rfl | constructor)))), l0.take 240, rfl, by simp; omega⟩
    · have h2 : l0.length ≤ 240 := by
        have : (l0.length : Int) ≤ 240 := by simpa using h1
        omega
      (repeat (first | (refine TR.imp ?_; intro K hK; simp only [go_sem, hP, hn]; (repeat refine vc ?_); refine hK _ ?_; clear K hK) | refine TS.imp ?_))
      exact ⟨_, (Le.mv (by simp only [go_sem, hP, hn]; first | done | (simp; done) | (simp [intC]; done) | (repeat (first | rfl | constructor))) (by simp only [go_sem, hP, hn]; first | done | (simp; done) | (simp [intC]; done) | (repeat (first | rfl | constructor)))), l0, rfl, h2⟩
  rintro s ⟨l, rfl, hl⟩
  (repeat (first | (refine TR.imp ?_; intro K hK; simp only [go_sem, hP, hn]; (repeat refine vc ?_); refine hK _ ?_; clear K hK) | refine TS.imp ?_))
  refine Tr.le (Le.keep [2, 3]) ?_; simp only [List.map_cons, List.map_nil, lk, Nat.reduceEqDiff, reduceIte]
  refine Tr.le (Le.ren 22 1000 (by rw [hpn] <;> rfl) rfl rfl) ?_; simp only [renT, renH, renO, renS, renL, rn, go_sem, hP, hn]
  have h00 : (0 : Int) ≤ 0 := by decide
  have h01 : (0 : Int) ≤ l.length := by omega
  refine TR.imp ?_; intro K hK; simp only [go_sem, hP, hn]
  (repeat refine vc ?_)
  refine CallN_c1 (by rw [hP, hT]; exact Next_c Tm l 0 3 (by omega) h00 h01 (by decide) (by decide) ) rfl rfl rfl trivial (by simp only [go_sem, hP, hn]; try trivial) (by simp only [go_sem, hP, hn]; try rfl) (by simp only [go_sem, hP, hn]; try rfl) (by rw [hn]; decide) (fun r ob' hr => ?_); obtain  ⟨v0, j1, rfl, rfl, v00, v01, j10, j11⟩ := hr; simp only [go_sem, hP, hn]; (repeat refine vc ?_)
  rw [w64 (x := 1 + v0) (by omega) (by omega)]
  refine hK _ ?_; clear K hK
  (repeat refine TS.imp ?_)
  refine TR.imp ?_; intro K hK; simp only [go_sem, hP, hn]
  (repeat refine vc ?_)
  refine CallN_c1 (by rw [hP, hT]; exact Next_c Tm l j1 200 (by omega) j10 j11 (by decide) (by decide) ) rfl rfl rfl trivial (by simp only [go_sem, hP, hn]; try trivial) (by simp only [go_sem, hP, hn]; try rfl) (by simp only [go_sem, hP, hn]; try rfl) (by rw [hn]; decide) (fun r ob' hr => ?_); obtain  ⟨v1, j2, rfl, rfl, v10, v11, j20, j21⟩ := hr; simp only [go_sem, hP, hn]; (repeat refine vc ?_)
  rw [w64 (x := 0 - v1) (by omega) (by omega)]
  refine hK _ ?_; clear K hK
  (repeat refine TS.imp ?_)
  refine TR.imp ?_; intro K hK; simp only [go_sem, hP, hn]
  (repeat refine vc ?_)
  refine CallN_c1 (by rw [hP, hT]; exact Next_c Tm l j2 200 (by omega) j20 j21 (by decide) (by decide) ) rfl rfl rfl trivial (by simp only [go_sem, hP, hn]; try trivial) (by simp only [go_sem, hP, hn]; try rfl) (by simp only [go_sem, hP, hn]; try rfl) (by rw [hn]; decide) (fun r ob' hr => ?_); obtain  ⟨v2, j3, rfl, rfl, v20, v21, j30, j31⟩ := hr; simp only [go_sem, hP, hn]; (repeat refine vc ?_)
  refine hK _ ?_; clear K hK
  (repeat refine TS.imp ?_)
  refine TR.imp ?_; intro K hK; simp only [go_sem, hP, hn]
  (repeat refine vc ?_)
  refine CallN_c1 (by rw [hP, hT]; exact Next_c Tm l j3 2 (by omega) j30 j31 (by decide) (by decide) ) rfl rfl rfl trivial (by simp only [go_sem, hP, hn]; try trivial) (by simp only [go_sem, hP, hn]; try rfl) (by simp only [go_sem, hP, hn]; try rfl) (by rw [hn]; decide) (fun r ob' hr => ?_); obtain  ⟨v3, j4, rfl, rfl, v30, v31, j40, j41⟩ := hr; simp only [go_sem, hP, hn]; (repeat refine vc ?_)
  refine hK _ ?_; clear K hK
  (repeat refine TS.imp ?_)
  refine TR.imp ?_; intro K hK; simp only [go_sem, hP, hn]
  (repeat refine vc ?_)
  refine CallN_c1 (by rw [hP, hT]; exact Next_c Tm l j4 6 (by omega) j40 j41 (by decide) (by decide) ) rfl rfl rfl trivial (by simp only [go_sem, hP, hn]; try trivial) (by simp only [go_sem, hP, hn]; try rfl) (by simp only [go_sem, hP, hn]; try rfl) (by rw [hn]; decide) (fun r ob' hr => ?_); obtain  ⟨v4, j5, rfl, rfl, v40, v41, j50, j51⟩ := hr; simp only [go_sem, hP, hn]; (repeat refine vc ?_)
  rw [w64 (x := 1 + v4) (by omega) (by omega)]
  refine hK _ ?_; clear K hK
  (repeat refine TS.imp ?_)
  (repeat (first | (refine TR.imp ?_; intro K hK; simp only [go_sem, hP, hn]; (repeat refine vc ?_); refine hK _ ?_; clear K hK) | refine TS.imp ?_))
  have hwd : 1 ≤ 1 + v0 ∧ 1 + v0 ≤ 3 := by omega
  have hlo : -199 ≤ 0 - v1 ∧ 0 - v1 ≤ 0 := by omega
  have hmany : 1 ≤ 1 + v4 ∧ 1 + v4 ≤ 6 := by omega
  generalize 1 + v0 = wd at hwd ⊢
  generalize 0 - v1 = lo at hlo ⊢
  generalize 1 + v4 = many at hmany ⊢
  generalize (v3 == 1) = back
  clear v00 v01 v10 v11 v30 v31 v40 v41 h00 h01 j10 j11 j20 j21 j30 j31 j40 j41
  refine Tr.le (Le.keep [2, 3, 4, 5, 6, 7, 8, 9]) ?_; simp only [List.map_cons, List.map_nil, lk, Nat.reduceEqDiff, reduceIte]
  refine Tr.le (Le.ren 42 3001 (by rw [hpn] <;> rfl) rfl rfl) ?_; simp only [renT, renH, renO, renS, renL, rn, go_sem, hP, hn]
  refine Tr.le (Le.ren 43 3002 (by rw [hpn] <;> rfl) rfl rfl) ?_; simp only [renT, renH, renO, renS, renL, rn, go_sem, hP, hn]
  refine Tr.le (Le.nilown 3003 4 50 e0N (gcs wd lo v2 0 (.own 3003)) rfl (by simp [wo, gcs]) (by rw [hpn] <;> rfl) rfl rfl) ?_
  simp only [go_sem, hP, hn]
  refine Tr.loop (fun m s => ∃ (i j : Int) (ns : List Nd) (W R : List Int), s = ⟨[(2, .ptr 2 0), (3, .ptr 1000 0), (4, .ptr 4 0), (5, .d (.b back)), (6, .d (.i .i64 many)), (7, .own 3001), (8, .own 3002), (9, .d (.i .i64 i))], [(1000, rowO l j), (2, .box 28 (gcs 0 0 0 0 (.d .nil))), (4, .box 28 (gcs wd lo v2 0 (.own 3003))), (3001, .row 3 [.i .i64 0] (W.map intC)), (3002, .row 3 [.i .i64 0] (R.map intC)), (3003, .row 50 e0N (ns.map Nd.ds))]⟩ ∧ i = ns.length + 1 ∧ i + m = many + 1 ∧ MadeL wd ns W R ∧ 0 ≤ j ∧ j ≤ l.length) many.toNat ⟨_, (Le.mv (by simp only [go_sem, hP, hn]; first | done | (simp; done) | (simp [intC]; done) | (repeat (first | rfl | constructor))) (by simp only [go_sem, hP, hn]; first | done | (simp; done) | (simp [intC]; done) | (repeat (first | rfl | constructor)))), 1, j5, [], [wd], [1], rfl, by simp, by omega, .base, j50, j51⟩ ?_
  rintro m s ⟨i, j, ns, W, R, rfl, hi, him, hM, hj0, hj1⟩
  have hlen := hM.len
  have hWd := hM.wide ⟨hwd.1, by omega⟩
  (repeat (first | (refine TR.imp ?_; intro K hK; simp only [go_sem, hP, hn]; (repeat refine vc ?_); refine hK _ ?_; clear K hK) | refine TS.imp ?_))
  refine Tr.cond rfl (fun hb => ?_) (fun hb => ?_)
  · have hib : i ≤ many := by simpa using hb
    have hiw : wrap64 (i - 1) = i - 1 := w64 (by omega) (by omega)
    (repeat refine TS.imp ?_)
    refine TR.imp ?_; intro K hK; simp only [hiw, go_sem, hP, hn]; (repeat refine vc ?_); refine hK _ ?_; clear K hK
    (repeat refine TS.imp ?_)
    refine TR.imp ?_; intro K hK; simp only [go_sem, hP, hn]
    (repeat refine vc ?_)
    refine CallN_c1 (by rw [hP, hT]; exact Next_c Tm l j 3 (by omega) hj0 hj1 (by decide) (by decide) ) rfl rfl rfl trivial (by simp only [go_sem, hP, hn]; try trivial) (by simp only [go_sem, hP, hn]; try rfl) (by simp only [go_sem, hP, hn]; try rfl) (by rw [hn]; decide) (fun r ob' hr => ?_); obtain  ⟨u, j', rfl, rfl, u0, u1, hj0', hj1'⟩ := hr; simp only [go_sem, hP, hn]; (repeat refine vc ?_)
    refine hK _ ?_; clear K hK
    (repeat refine TS.imp ?_)
    refine Tr.meet (fun s => ∃ (a j : Int), s = ⟨[(2, .ptr 2 0), (3, .ptr 1000 0), (4, .ptr 4 0), (5, .d (.b back)), (6, .d (.i .i64 many)), (7, .own 3001), (8, .own 3002), (9, .d (.i .i64 i)), (10, .d (.i .i64 a))], [(1000, rowO l j), (2, .box 28 (gcs 0 0 0 0 (.d .nil))), (4, .box 28 (gcs wd lo v2 0 (.own 3003))), (3001, .row 3 [.i .i64 0] (W.map intC)), (3002, .row 3 [.i .i64 0] (R.map intC)), (3003, .row 50 e0N (ns.map Nd.ds))]⟩ ∧ (0 ≤ a ∧ a < i) ∧ 0 ≤ j ∧ j ≤ l.length) ?_ ?_
    rotate_left
    · refine Tr.cond rfl (fun ha => ?_) (fun ha => ?_)
      · (repeat refine TS.imp ?_)
        refine TR.imp ?_; intro K hK; simp only [go_sem, hP, hn]
        (repeat refine vc ?_)
        refine CallN_c1 (by rw [hP, hT]; exact Next_c Tm l j' i (by omega) hj0' hj1' (by omega) (by omega) ) rfl rfl rfl trivial (by simp only [go_sem, hP, hn]; try trivial) (by simp only [go_sem, hP, hn]; try rfl) (by simp only [go_sem, hP, hn]; try rfl) (by rw [hn]; decide) (fun r ob' hr => ?_); obtain  ⟨a, j2, rfl, rfl, a0, a1, hj20, hj21⟩ := hr; simp only [go_sem, hP, hn]; (repeat refine vc ?_)
        refine hK _ ?_; clear K hK
        exact ⟨_, (Le.mv (by simp only [go_sem, hP, hn]; first | done | (simp; done) | (simp [intC]; done) | (repeat (first | rfl | constructor))) (by simp only [go_sem, hP, hn]; first | done | (simp; done) | (simp [intC]; done) | (repeat (first | rfl | constructor)))), a, j2, rfl, ⟨a0, a1⟩, hj20, hj21⟩
      · (repeat (first | (refine TR.imp ?_; intro K hK; simp only [go_sem, hP, hn]; (repeat refine vc ?_); refine hK _ ?_; clear K hK) | refine TS.imp ?_))
        exact ⟨_, (Le.mv (by simp only [go_sem, hP, hn]; first | done | (simp; done) | (simp [intC]; done) | (repeat (first | rfl | constructor))) (by simp only [go_sem, hP, hn]; first | done | (simp; done) | (simp [intC]; done) | (repeat (first | rfl | constructor)))), i - 1, j', rfl, ⟨by omega, by omega⟩, hj0', hj1'⟩
    clear hj0 hj1 hj0' hj1' u0 u1
    rintro s ⟨a, j, rfl, ha, hj0, hj1⟩
    have haW : (0 ≤ a ∧ a < W.length) := by omega
    have haR : (0 ≤ a ∧ a < R.length) := by omega
    (repeat (first | (refine TR.imp ?_; intro K hK; simp only [go_sem, hP, hn]; (repeat refine vc ?_); refine hK _ ?_; clear K hK) | refine TS.imp ?_))
    refine TR.imp ?_; intro K hK; simp only [go_sem, hP, hn]
    (repeat refine vc ?_)
    refine CallN_c1 (by rw [hP, hT]; exact Next_c Tm l j i (by omega) hj0 hj1 (by omega) (by omega) ) rfl rfl rfl trivial (by simp only [go_sem, hP, hn]; try trivial) (by simp only [go_sem, hP, hn]; try rfl) (by simp only [go_sem, hP, hn]; try rfl) (by rw [hn]; decide) (fun r ob' hr => ?_); obtain  ⟨b, j2, rfl, rfl, b0, b1, hj20, hj21⟩ := hr; simp only [go_sem, hP, hn]; (repeat refine vc ?_)
    refine hK _ ?_; clear K hK
    refine Tr.le (Le.keep [2, 3, 4, 5, 6, 7, 8, 9, 10, 11, 12, 13]) ?_; simp only [List.map_cons, List.map_nil, lk, Nat.reduceEqDiff, reduceIte]
    (repeat refine TS.imp ?_)
    refine d5 (.p true 0 (.alt 1 (.p false 2 (.p false 3 (.p true 4 (.p true 5 (.p true 6 (.p true 7 (.p true 8 (.p true 9 (.p true 10 (.p true 11 (.p true 12 (.p false 13 .nil)))))))))))) .nil)) [1000] (by rw [hP]; kernel_rfl) (by kernel_rfl) (by simp only [go_sem, hP, hn]; try simp) (by exact fun _ _ h => h) ?_; intro K hK; simp only [go_sem, hP, hn]
    (repeat refine vc ?_)
    refine CallP_c1 (by rw [hP, hT]; exact Next_c Tm l j2 3 (by omega) hj20 hj21 (by decide) (by decide) ) rfl rfl rfl trivial (by simp only [go_sem, hP, hn]; try trivial) (by simp only [go_sem, hP, hn]; try rfl) (by simp only [go_sem, hP, hn]; try rfl) (by rw [hn]; decide) rfl (fun r ob' hr => ?_); obtain  ⟨q, j3, rfl, rfl, q0, q1, hj30, hj31⟩ := hr; simp only [go_sem, hP, hn]; (repeat refine vc ?_)
    refine hK _ ?_; clear K hK
    refine Tr.meet (fun s => ∃ (inn ws : List Int) (j : Int), s = ⟨[(2, .ptr 2 0), (3, .ptr 1000 0), (4, .ptr 4 0), (5, .d (.b back)), (6, .d (.i .i64 many)), (7, .own 3001), (8, .own 3002), (9, .d (.i .i64 i)), (10, .d (.i .i64 a)), (11, .d (.row [.i .i64 0] (inn.map intC))), (12, .d (.row [.i .i64 0] (ws.map intC)))], [(1000, rowO l j), (2, .box 28 (gcs 0 0 0 0 (.d .nil))), (4, .box 28 (gcs wd lo v2 0 (.own 3003))), (3001, .row 3 [.i .i64 0] (W.map intC)), (3002, .row 3 [.i .i64 0] (R.map intC)), (3003, .row 50 e0N (ns.map Nd.ds))]⟩ ∧ ((inn = [a] ∧ ws = [rd W a]) ∨ ∃ b, inn = [a, b] ∧ ws = [rd W a, rd W b] ∧ (0 ≤ b ∧ b < W.length) ∧ rd R b = rd R a) ∧ 0 ≤ j ∧ j ≤ l.length) ?_ ?_
    rotate_left
    · refine Tr.cond rfl (fun hab => ?_) (fun hab => ?_)
      · (repeat (first | (refine TR.imp ?_; intro K hK; simp only [go_sem, hP, hn]; (repeat refine vc ?_); refine hK _ ?_; clear K hK) | refine TS.imp ?_))
        refine ⟨_, ?_, [a, b], [rd W a, rd W b], j3, rfl, .inr ⟨b, rfl, rfl, by omega, ?_⟩, hj30, hj31⟩
        · exact (Le.freeze 84).trans ((Le.freeze 91).trans (Le.mv (by simp only [go_sem, hP, hn]; first | done | (simp; done) | (simp [intC]; done) | (repeat (first | rfl | constructor))) (by simp only [go_sem, hP, hn]; first | done | (simp; done) | (simp [intC]; done) | (repeat (first | rfl | constructor)))))
        · simp only [Bool.and_eq_true, beq_iff_eq] at hab; exact hab.2
      · (repeat (first | (refine TR.imp ?_; intro K hK; simp only [go_sem, hP, hn]; (repeat refine vc ?_); refine hK _ ?_; clear K hK) | refine TS.imp ?_))
        refine ⟨_, ?_, [a], [rd W a], j3, rfl, .inl ⟨rfl, rfl⟩, hj30, hj31⟩
        exact (Le.freeze 58).trans ((Le.freeze 63).trans (Le.mv (by simp only [go_sem, hP, hn]; first | done | (simp; done) | (simp [intC]; done) | (repeat (first | rfl | constructor))) (by simp only [go_sem, hP, hn]; first | done | (simp; done) | (simp [intC]; done) | (repeat (first | rfl | constructor)))))
    clear q0 q1 hj30 hj31 hj20 hj21 b0 b1 hj0 hj1
    rintro s ⟨inn, ws, j, rfl, hio, hj0, hj1⟩
    have hws : ∀ x ∈ ws, 1 ≤ x ∧ x ≤ 16 := by
      rcases hio with ⟨_, rfl⟩ | ⟨b, _, rfl, hb, _⟩
      · intro x hx; simp at hx; subst hx; exact hWd _ (rd_mem haW.1 haW.2)
      · intro x hx; simp at hx; rcases hx with rfl | rfl
        · exact hWd _ (rd_mem haW.1 haW.2)
        · exact hWd _ (rd_mem hb.1 hb.2)
    have hio' : (∃ a w, inn = [a] ∧ ws = [w]) ∨ ∃ a b v w, inn = [a, b] ∧ ws = [v, w] := by
      rcases hio with ⟨rfl, rfl⟩ | ⟨b, rfl, rfl, _⟩
      · exact .inl ⟨_, _, rfl, rfl⟩
      · exact .inr ⟨_, _, _, _, rfl, rfl⟩
    (repeat refine TS.imp ?_)
    refine TR.imp ?_; intro K hK; simp only [go_sem, hP, hn]
    (repeat refine vc ?_)
    refine CallN_c1 (by rw [hP, hT]; exact Made_c Tm l j inn ws (rd R a == 0) (by omega) hj0 hj1 hio' hws ) rfl rfl rfl trivial (by simp only [go_sem, hP, hn]; try trivial) (by simp only [go_sem, hP, hn]; try rfl) (by simp only [go_sem, hP, hn]; try rfl) (by rw [hn]; decide) (fun r ob' hr => ?_); obtain  ⟨n, j', rfl, rfl, hN, hj0', hj1'⟩ := hr; simp only [go_sem, hP, hn]; (repeat refine vc ?_)
    refine hK _ ?_; clear K hK
    refine Tr.le (Le.keep [2, 3, 4, 5, 6, 7, 8, 9, 10, 12, 14]) ?_; simp only [List.map_cons, List.map_nil, lk, Nat.reduceEqDiff, reduceIte]
    (repeat (first | (refine TR.imp ?_; intro K hK; simp only [go_sem, hP, hn]; (repeat refine vc ?_); refine hK _ ?_; clear K hK) | refine TS.imp ?_))
    have hnl : n.inn.length ≤ ws.length ∧ n.inn.length ≤ 2 := by
      rcases hio' with ⟨x, y, rfl, rfl⟩ | ⟨x, y, u, v, rfl, rfl⟩ <;> rcases hN.inn with e | e <;> rw [e] <;> simp
    have hwl := hN.wl
    have hbl := hN.bl
    refine Tr.le (Le.keep [2, 3, 4, 5, 6, 7, 8, 9, 10, 12, 14]) ?_; simp only [List.map_cons, List.map_nil, lk, Nat.reduceEqDiff, reduceIte]
    refine d5 (.p true 0 (.p true 1 (.p true 2 (.p true 3 (.p true 4 (.p true 5 (.p true 6 (.alt 7 (.alt 8 (.alt 9 (.p false 10 .nil) .nil) .nil) .nil)))))))) [3001] (by rw [hP]; kernel_rfl) (by kernel_rfl) (by simp only [go_sem, hP, hn]; try simp) (by exact fun _ _ h => h) ?_; intro K hK; simp only [go_sem, hP, hn]
    (repeat refine vc ?_)
    rw [← List.map_take]
    refine p1 (by rw [hP, hT]; exact Width_r Tm n (ws.take n.inn.length) (by omega) (by omega) (by rw [List.length_take]; omega) (by omega)) rfl rfl rfl trivial (by simp only [go_sem, hP, hn]; try trivial) (by simp only [go_sem, hP, hn]; try rfl) (by rw [hn]; decide) (by rfl) ?_; simp only [go_sem, hP, hn]; (repeat refine vc ?_)
    refine hK _ ?_; clear K hK
    refine Tr.le (Le.keep [2, 3, 4, 5, 6, 7, 8, 9, 10, 12, 14]) ?_; simp only [List.map_cons, List.map_nil, lk, Nat.reduceEqDiff, reduceIte]
    refine d5 (.p true 0 (.p true 1 (.p true 2 (.p true 3 (.p true 4 (.alt 5 (.alt 6 (.alt 7 (.alt 8 (.alt 9 (.p false 10 .nil) .nil) .nil) .nil) .nil) .nil)))))) [3002] (by rw [hP]; kernel_rfl) (by kernel_rfl) (by simp only [go_sem, hP, hn]; try simp) (by exact fun _ _ h => h) ?_; intro K hK; simp only [go_sem, hP, hn]
    (repeat refine vc ?_)
    rw [show [[D.i .i64 (rd R a)]] = [rd R a].map intC from rfl]
    refine p1 (by rw [hP, hT]; exact rate15_r Tm n [rd R a] (by simp) (by simp)) rfl rfl rfl trivial (by simp only [go_sem, hP, hn]; try trivial) (by simp only [go_sem, hP, hn]; try rfl) (by rw [hn]; decide) (by rfl) ?_; simp only [go_sem, hP, hn]; (repeat refine vc ?_)
    refine hK _ ?_; clear K hK
    (repeat (first | (refine TR.imp ?_; intro K hK; simp only [go_sem, hP, hn]; (repeat refine vc ?_); refine hK _ ?_; clear K hK) | refine TS.imp ?_))
    rw [w64 (x := i + 1) (by omega) (by omega)]
    have hS := stepN_of hN haW (fun e => by simp [e]) hio
    refine ⟨m - 1, _, by omega, ?_, i + 1, j', ns ++ [n], W ++ [n.rwide (ws.take n.inn.length)], R ++ [n.rate [rd R a]], rfl, by simp; omega, by omega, hM.step hS, hj0', hj1'⟩
    refine Le.trans (b := ⟨[(2, .ptr 2 0), (3, .ptr 1000 0), (4, .ptr 4 0), (5, .d (.b back)), (6, .d (.i .i64 many)), (7, .own 116), (8, .own 126), (9, .d (.i .i64 (i + 1)))], [(1000, rowO l j'), (2, .box 28 (gcs 0 0 0 0 (.d .nil))), (4, .box 28 (gcs wd lo v2 0 (.own 105))), (116, .row 3 [.i .i64 0] ((W ++ [n.rwide (ws.take n.inn.length)]).map intC)), (126, .row 3 [.i .i64 0] ((R ++ [n.rate [rd R a]]).map intC)), (105, .row 50 e0N (ns.map Nd.ds ++ [n.ds]))]⟩) (Le.mv (by simp only [go_sem, hP, hn]; first | done | (simp; done) | (simp [intC]; done) | (repeat (first | rfl | constructor))) (by simp only [go_sem, hP, hn]; first | done | (simp; done) | (simp [intC]; done) | (repeat (first | rfl | constructor)))) ?_
    rw [show ns.map Nd.ds ++ [n.ds] = (ns ++ [n]).map Nd.ds by simp]
    refine Le.trans (Le.ren 116 3001 (by rw [hpn] <;> rfl) rfl rfl) ?_; simp only [renT, renH, renO, renS, renL, rn, go_sem, hP, hn]
    refine Le.trans (Le.ren 126 3002 (by rw [hpn] <;> rfl) rfl rfl) ?_; simp only [renT, renH, renO, renS, renL, rn, go_sem, hP, hn]
    refine Le.trans (Le.ren 105 3003 (by rw [hpn] <;> rfl) rfl rfl) ?_; simp only [renT, renH, renO, renS, renL, rn, go_sem, hP, hn]
    exact (Le.mv (by simp only [go_sem, hP, hn]; first | done | (simp; done) | (simp [intC]; done) | (repeat (first | rfl | constructor))) (by simp only [go_sem, hP, hn]; first | done | (simp; done) | (simp [intC]; done) | (repeat (first | rfl | constructor))))
  · have hmn : many = ns.length := by have := of_decide_eq_false hb; omega
    (repeat (first | (refine TR.imp ?_; intro K hK; simp only [go_sem, hP, hn]; (repeat refine vc ?_); refine hK _ ?_; clear K hK) | refine TS.imp ?_))
    refine TR.imp ?_; intro K hK; simp only [go_sem, hP, hn]
    (repeat refine vc ?_)
    refine CallN_c1 (by rw [hP, hT]; exact Next_c Tm l j 5 (by omega) hj0 hj1 (by decide) (by decide) ) rfl rfl rfl trivial (by simp only [go_sem, hP, hn]; try trivial) (by simp only [go_sem, hP, hn]; try rfl) (by simp only [go_sem, hP, hn]; try rfl) (by rw [hn]; decide) (fun r ob' hr => ?_); obtain  ⟨u, j', rfl, rfl, u0, u1, hj0', hj1'⟩ := hr; simp only [go_sem, hP, hn]; (repeat refine vc ?_)
    refine hK _ ?_; clear K hK
    refine Tr.meet (fun s => ∃ (out : Int), s = ⟨[(2, .ptr 2 0), (4, .ptr 4 0), (5, .d (.b back))], [(2, .box 28 (gcs 0 0 0 0 (.d .nil))), (4, .box 28 (gcs wd lo v2 out (.own 3003))), (3003, .row 50 e0N (ns.map Nd.ds))]⟩ ∧ (1 ≤ out ∧ out ≤ ns.length)) ?_ ?_
    rotate_left
    · refine Tr.cond rfl (fun h5 => ?_) (fun h5 => ?_)
      · (repeat refine TS.imp ?_)
        refine TR.imp ?_; intro K hK; simp only [go_sem, hP, hn]
        (repeat refine vc ?_)
        refine CallN_c1 (by rw [hP, hT]; exact Next_c Tm l j' many (by omega) hj0' hj1' (by omega) (by omega) ) rfl rfl rfl trivial (by simp only [go_sem, hP, hn]; try trivial) (by simp only [go_sem, hP, hn]; try rfl) (by simp only [go_sem, hP, hn]; try rfl) (by rw [hn]; decide) (fun r ob' hr => ?_); obtain  ⟨o', j2, rfl, rfl, o0, o1, hj20, hj21⟩ := hr; simp only [go_sem, hP, hn]; (repeat refine vc ?_)
        rw [w64 (x := 1 + o') (by omega) (by omega)]
        refine hK _ ?_; clear K hK
        exact ⟨_, (Le.mv (by simp only [go_sem, hP, hn]; first | done | (simp; done) | (simp [intC]; done) | (repeat (first | rfl | constructor))) (by simp only [go_sem, hP, hn]; first | done | (simp; done) | (simp [intC]; done) | (repeat (first | rfl | constructor)))), 1 + o', rfl, by omega, by omega⟩
      · (repeat (first | (refine TR.imp ?_; intro K hK; simp only [go_sem, hP, hn]; (repeat refine vc ?_); refine hK _ ?_; clear K hK) | refine TS.imp ?_))
        exact ⟨_, (Le.mv (by simp only [go_sem, hP, hn]; first | done | (simp; done) | (simp [intC]; done) | (repeat (first | rfl | constructor))) (by simp only [go_sem, hP, hn]; first | done | (simp; done) | (simp [intC]; done) | (repeat (first | rfl | constructor)))), many, rfl, by omega, by omega⟩
    rintro s ⟨out, rfl, hout⟩
    (repeat (first | (refine TR.imp ?_; intro K hK; simp only [go_sem, hP, hn]; (repeat refine vc ?_); refine hK _ ?_; clear K hK) | refine TS.imp ?_))
    refine Tr.cond rfl (fun h6 => ?_) (fun h6 => ?_)
    · refine Tr.le (Le.freeze 3003) ?_
      simp only [go_sem, hP, hn]
      (repeat refine TS.imp ?_)
      refine TR.imp ?_; intro K hK; simp only [go_sem, hP, hn]
      (repeat refine vc ?_)
      refine CallN_cx (Hi := []) (by rw [hP, hT]; exact turned_c Tm wd lo v2 out ns (by omega) (by omega) (by omega) (fun n hn => ⟨by have := (hM.inn n hn).1; omega, (hM.inn n hn).2⟩) ) rfl rfl rfl trivial (by simp only [go_sem, hP, hn]; try trivial) (by simp only [go_sem, hP, hn]; try rfl) trivial (by rw [hn]; decide) (fun r Ho hr => ?_); obtain  ⟨rfl, rfl⟩ := hr; refine ⟨fun k _ => hpn k rfl, ?_⟩; simp only [cgS, newK, touK, go_sem, hP, hn]; (repeat refine vc ?_)
      refine hK _ ?_; clear K hK
      (repeat refine TS.imp ?_)
      simp only [RetG, go_sem]; (repeat with_reducible refine vc ?_)
      exact ⟨wd, lo, v2, _, _, rfl, rfl, hwd, hlo, ⟨v20, by omega⟩, by simp; omega, by simp; omega, ns, W, R, hM, .inr rfl⟩
    · refine Tr.le (Le.ren 3003 2000 (by rw [hpn] <;> rfl) rfl rfl) ?_; simp only [renT, renH, renO, renS, renL, rn, go_sem, hP, hn]
      (repeat (first | (refine TR.imp ?_; intro K hK; simp only [go_sem, hP, hn]; (repeat refine vc ?_); refine hK _ ?_; clear K hK) | refine TS.imp ?_))
      simp only [RetG, go_sem]; (repeat with_reducible refine vc ?_)
      exact ⟨wd, lo, v2, out, ns, rfl, rfl, hwd, hlo, ⟨v20, by omega⟩, by omega, hout, ns, W, R, hM, .inl rfl⟩
section
def nB (j : Int) : Nd := ⟨11, [j], 0, 0, 0, 0, 0, 0, [], [], 0, 0, 0, 0, 0⟩
attribute [local go_sem] nB
end
end Go.Proofs.YtgomeljgbjgbkaaGreatDoor.Aw
namespace Go.Proofs.YtgomeljgbjgbkaaGreatDoor.Aw
open Go.RowKit
/-! the plain law of graphs that ref15.Made makes -/
theorem turnN_len (N : Int) (n : Nd) : (turnN N n).inn.length = n.inn.length := by simp [turnN]
theorem MadeL.wsl {wd : Int} {ns : List Nd} {W R : List Int} (h : MadeL wd ns W R) : ∀ n ∈ ns, n.ws.length ≤ 4096 ∧ n.bs.length ≤ 4096 := by
  induction h with
  | base => intro n hn; simp at hn
  | step hM hs ih =>
    intro n hn
    rcases List.mem_append.1 hn with hn | hn
    · exact ih n hn
    · simp at hn; subst hn; exact ⟨hs.wl, hs.bl⟩
theorem GM.inn {wd lo hi out : Int} {ns : List Nd} (h : GM wd lo hi out ns) : ∀ n ∈ ns, (n.inn.length ≤ 2 ∧ ∀ j ∈ n.inn, 0 ≤ j ∧ j ≤ ns.length) ∧ n.ws.length ≤ 4096 ∧ n.bs.length ≤ 4096 := by
  obtain ⟨ns0, W, R, hM, e⟩ := h.made
  rcases e with rfl | rfl
  · exact fun n hn => ⟨hM.inn n hn, hM.wsl n hn⟩
  · intro n hn
    simp only [List.mem_reverse, List.mem_map] at hn
    obtain ⟨n0, h0, rfl⟩ := hn
    have h1 := hM.inn n0 h0
    have h2 := hM.wsl n0 h0
    refine ⟨⟨by rw [turnN_len]; exact h1.1, fun j hj => ?_⟩, h2⟩
    simp only [turnN, List.mem_map] at hj
    obtain ⟨x, hx, rfl⟩ := hj
    have := h1.2 x hx
    simp only [List.length_reverse, List.length_map]
    split <;> omega
theorem nodup_len : ∀ (N : Nat) (l : List Int), l.Nodup → (∀ x ∈ l, 1 ≤ x ∧ x ≤ N) → l.length ≤ N
  | 0, l, _, h => by
    cases l with
    | nil => simp
    | cons x r => have := h x (by simp); omega
  | N + 1, l, hn, h => by
    by_cases hm : ((N : Int) + 1) ∈ l
    · have h1 := nodup_len N (l.erase ((N : Int) + 1)) (hn.erase _) (fun x hx => by
        have h2 := (hn.mem_erase_iff).1 hx
        have := h x h2.2
        omega)
      rw [List.length_erase_of_mem hm] at h1
      omega
    · have := nodup_len N l hn fun x hx => by
        have h2 := h x hx
        have : x ≠ (N : Int) + 1 := fun e => hm (e ▸ hx)
        omega
      omega
theorem all_len : ∀ (N : Nat) (l : List Int), (∀ x : Int, 1 ≤ x → x ≤ N → x ∈ l) → N ≤ l.length
  | 0, _, _ => Nat.zero_le _
  | N + 1, l, h => by
    have hm : ((N : Int) + 1) ∈ l := h _ (by omega) (by omega)
    have h1 := all_len N (l.erase ((N : Int) + 1)) fun x h0 h1 => (List.mem_erase_of_ne (by omega)).2 (h x h0 (by omega))
    rw [List.length_erase_of_mem hm] at h1
    have := List.length_pos_of_mem hm
    omega
theorem ordR_inv {ns : List Nd} (P : List Int → Prop) (step : ∀ (o : List Int) (i : Int), P o → 1 ≤ i → i ≤ ns.length → mayO ns o i = true → (∀ x : Int, 1 ≤ x → x ≤ ns.length → mayO ns o x = true → i ≤ x) → P (o ++ [i])) : ∀ (k : Nat) (o : List Int), P o → P (ordR ns k o)
  | 0, o, h => h
  | k + 1, o, h => by
    unfold ordR
    split
    · exact ordR_inv P step k o h
    · rename_i i hi
      have h1 := nextO_range hi
      exact ordR_inv P step k _ (step o i h (by omega) (by omega) h1.2.2 fun x h2 h3 h4 => by
        have key : ∀ (m : Nat) (l : Int), nextO ns o m l = some i → l ≤ x → i ≤ x := by
          intro m
          induction m with
          | zero => intro l e _; cases e
          | succ m ih =>
            intro l e hl
            unfold nextO at e
            split at e
            · cases e; exact hl
            · rename_i hn
              refine ih (l + 1) e ?_
              rcases Int.lt_or_le l x with h5 | h5
              · omega
              · obtain rfl : l = x := by omega
                exact absurd h4 hn
        exact key _ _ hi h2)
theorem mayO_iff {ns : List Nd} {o : List Int} {i : Int} : mayO ns o i = true ↔ i ∉ o ∧ ∀ j ∈ (nd ns (i - 1)).inn, j = 0 ∨ j ∈ o := by
  unfold mayO
  simp only [Bool.and_eq_true, Bool.not_eq_true', List.all_eq_true, Bool.or_eq_true, beq_iff_eq, List.contains_iff_mem]
  constructor
  · exact fun ⟨h1, h2⟩ => ⟨by simpa using h1, h2⟩
  · exact fun ⟨h1, h2⟩ => ⟨by simpa using h1, h2⟩
theorem order_nodup (ns : List Nd) : (order ns).Nodup := ordR_inv (fun o => o.Nodup) (fun o i h _ _ hm _ => by
  rw [List.nodup_append]
  refine ⟨h, by simp, fun a ha b hb => ?_⟩
  simp at hb; subst hb
  exact fun e => (mayO_iff.1 hm).1 (e ▸ ha)) ns.length [] (by simp)
/-- a ring of nodes -/
def ring (N kk : Int) : Nat → List Nd
  | 0 => []
  | t + 1 => ring N kk t ++ [nB (if (t : Int) = kk - 1 then N + 1 else N + 1 + t + 1)]
/-! graphs that ref15.Made makes are right: their order is whole, and what is told goes along it -/
structure NodeG (N : Int) (n : Nd) (W R : Int → Int) (rk : Int → Nat) (i : Int) : Prop where
  l1 : 1 ≤ n.inn.length
  l2 : n.inn.length ≤ 2
  inn : ∀ j ∈ n.inn, 0 ≤ j ∧ j ≤ N ∧ rk j < rk i
  chk : n.rchk (n.inn.map W) = 0
  wd : W i = n.rwide (n.inn.map W)
  rt : R i = n.rate (n.inn.map R)
  same : ∀ j ∈ n.inn, ∀ j' ∈ n.inn, R j = R j'
  still : ∀ j ∈ n.inn, R j = 0 → rWin n.k = false ∧ n.k ≠ 5
  wl : n.ws.length ≤ 4096
  bl : n.bs.length ≤ 4096
  st0 : 1 ≤ n.rStp
  st1 : n.rStp ≤ 3
  sp0 : 1 ≤ n.rSpan
  sp1 : n.rSpan ≤ 10
  post : n.post = 0
structure GG (wd : Int) (ns : List Nd) (W R : Int → Int) (rk : Int → Nat) : Prop where
  W0 : W 0 = wd
  R0 : R 0 = 1
  k0 : rk 0 = 0
  node : ∀ i : Int, 1 ≤ i → i ≤ ns.length → NodeG ns.length (nd ns (i - 1)) W R rk i ∧ rk i ≤ ns.length
theorem NodeG.congr {N N' : Int} {n : Nd} {W R W' R' : Int → Int} {rk : Int → Nat} {i : Int} (h : NodeG N n W R rk i) (hN : N ≤ N') (hi : W' i = W i ∧ R' i = R i) (hj : ∀ j ∈ n.inn, W' j = W j ∧ R' j = R j) : NodeG N' n W' R' rk i := by
  have e1 : n.inn.map W' = n.inn.map W := List.map_congr_left fun j h => (hj j h).1
  have e2 : n.inn.map R' = n.inn.map R := List.map_congr_left fun j h => (hj j h).2
  exact ⟨h.l1, h.l2, fun j hm => by have := h.inn j hm; omega, by rw [e1]; exact h.chk, by rw [e1, hi.1]; exact h.wd, by rw [e2, hi.2]; exact h.rt,
    fun j hm j' hm' => by rw [(hj j hm).2, (hj j' hm').2]; exact h.same j hm j' hm', fun j hm => by rw [(hj j hm).2]; exact h.still j hm, h.wl, h.bl, h.st0, h.st1, h.sp0, h.sp1, h.post⟩
theorem rd_app {l : List Int} {x j : Int} (h0 : 0 ≤ j) (h1 : j < l.length) : rd (l ++ [x]) j = rd l j := by
  unfold rd
  rw [List.getD_eq_getElem?_getD, List.getD_eq_getElem?_getD, List.getElem?_append_left (by omega)]
theorem rd_last (l : List Int) (x : Int) : rd (l ++ [x]) l.length = x := by
  unfold rd
  simp [List.getD_eq_getElem?_getD]
theorem nd_app {l : List Nd} {x : Nd} {j : Int} (h1 : j.toNat < l.length) : nd (l ++ [x]) j = nd l j := by
  unfold nd
  rw [List.getD_eq_getElem?_getD, List.getD_eq_getElem?_getD, List.getElem?_append_left h1]
theorem nd_last (l : List Nd) (x : Nd) : nd (l ++ [x]) l.length = x := by
  unfold nd
  simp [List.getD_eq_getElem?_getD]
theorem MadeL.gg {wd : Int} {ns : List Nd} {W R : List Int} (h : MadeL wd ns W R) : GG wd ns (rd W) (rd R) Int.toNat := by
  induction h with
  | base => exact ⟨rfl, rfl, rfl, fun i h0 h1 => by simp at h1; omega⟩
  | @step ns W R n w r hM hs ih =>
    have hl := hM.len
    refine ⟨by rw [rd_app (by omega) (by omega)]; exact ih.W0, by rw [rd_app (by omega) (by omega)]; exact ih.R0, rfl, fun i h0 h1 => ?_⟩
    rw [List.length_append, List.length_singleton] at h1 ⊢
    refine ⟨?_, by omega⟩
    rcases Int.lt_or_le (ns.length : Int) i with hlt | hle
    · obtain rfl : i = ns.length + 1 := by omega
      rw [show ((ns.length : Int) + 1 - 1) = ns.length by omega, nd_last]
      have hW : ∀ j ∈ n.inn, rd (W ++ [w]) j = rd W j ∧ rd (R ++ [r]) j = rd R j := fun j hj => by
        have := hs.inn j hj
        exact ⟨rd_app (by omega) (by omega), rd_app (by omega) (by omega)⟩
      have hwi : rd (W ++ [w]) ((ns.length : Int) + 1) = w := by rw [show ((ns.length : Int) + 1) = W.length by omega, rd_last]
      have hri : rd (R ++ [r]) ((ns.length : Int) + 1) = r := by rw [show ((ns.length : Int) + 1) = R.length by omega, rd_last]
      have h0m : rd n.inn 0 ∈ n.inn := rd_mem (by omega) (by have := hs.l1; omega)
      have e1 : n.inn.map (rd (W ++ [w])) = n.inn.map (rd W) := List.map_congr_left fun j h => (hW j h).1
      have e2 : n.inn.map (rd (R ++ [r])) = n.inn.map (rd R) := List.map_congr_left fun j h => (hW j h).2
      exact ⟨hs.l1, hs.l2, fun j hj => by have := hs.inn j hj; omega, by rw [e1]; exact hs.chk, by rw [hwi, e1]; exact hs.wd, by rw [hri, e2]; exact hs.rt,
        fun j hj j' hj' => by rw [(hW j hj).2, (hW j' hj').2, hs.same j hj, hs.same j' hj'], fun j hj => by rw [(hW j hj).2, hs.same j hj]; exact hs.still, hs.wl, hs.bl, hs.st0, hs.st1, hs.sp0, hs.sp1, hs.post⟩
    · rw [nd_app (by omega)]
      have hn := (ih.node i h0 hle).1
      exact hn.congr (by omega) ⟨rd_app (by omega) (by omega), rd_app (by omega) (by omega)⟩ fun j hj => by
        have := hn.inn j hj
        exact ⟨rd_app (by omega) (by omega), rd_app (by omega) (by omega)⟩
section
variable {n : Nd} {X : List Int}
theorem chkL_inn : ∀ (l : List Int) (v s : Int), ({ n with inn := X } : Nd).chkL v s l = n.chkL v s l
  | [], v, s => by unfold Nd.chkL; rfl
  | x :: l, v, s => by
    unfold Nd.chkL
    rw [chkL_inn l]
theorem rchk_inn (h : X.length = n.inn.length) (l : List Int) : ({ n with inn := X } : Nd).rchk l = n.rchk l := by
  unfold Nd.rchk
  rw [show ({ n with inn := X } : Nd).chk1 l = n.chk1 l by unfold Nd.chk1; rw [h], chkL_inn]
  rfl
theorem rwide_inn (h : X.length = n.inn.length) (l : List Int) : ({ n with inn := X } : Nd).rwide l = n.rwide l := by
  unfold Nd.rwide
  rw [rchk_inn h]
theorem rate_inn (l : List Int) : ({ n with inn := X } : Nd).rate l = n.rate l := rfl
end
/-- nodes get other numbers -/
theorem GG.ren {wd : Int} {ns : List Nd} {W R : Int → Int} {rk : Int → Nat} (h : GG wd ns W R rk) (ns' : List Nd) (σ τ : Int → Int) (hl : ns'.length = ns.length) (h0 : τ 0 = 0) (hσ : ∀ j : Int, 0 ≤ j → j ≤ ns.length → 0 ≤ σ j ∧ σ j ≤ ns.length ∧ τ (σ j) = j)
    (hτ : ∀ i : Int, 1 ≤ i → i ≤ ns.length → 1 ≤ τ i ∧ τ i ≤ ns.length) (hn : ∀ i : Int, 1 ≤ i → i ≤ ns.length → nd ns' (i - 1) = { nd ns (τ i - 1) with inn := (nd ns (τ i - 1)).inn.map σ }) : GG wd ns' (fun i => W (τ i)) (fun i => R (τ i)) (fun i => rk (τ i)) := by
  refine ⟨by rw [h0]; exact h.W0, by rw [h0]; exact h.R0, by rw [h0]; exact h.k0, fun i i1 i2 => ?_⟩
  rw [hl] at i2 ⊢
  obtain ⟨hm, hk⟩ := h.node (τ i) (hτ i i1 i2).1 (hτ i i1 i2).2
  refine ⟨?_, hk⟩
  rw [hn i i1 i2]
  generalize nd ns (τ i - 1) = n at hm ⊢
  have hj : ∀ j ∈ n.inn, τ (σ j) = j := fun j hj => by have := hm.inn j hj; exact (hσ j (by omega) (by omega)).2.2
  have e1 : (n.inn.map σ).map (fun i => W (τ i)) = n.inn.map W := by rw [List.map_map]; exact List.map_congr_left fun j h => by simp only [Function.comp, hj j h]
  have e2 : (n.inn.map σ).map (fun i => R (τ i)) = n.inn.map R := by rw [List.map_map]; exact List.map_congr_left fun j h => by simp only [Function.comp, hj j h]
  have hX : (n.inn.map σ).length = n.inn.length := by simp
  refine ⟨by simpa using hm.l1, by simpa using hm.l2, ?_, ?_, ?_, ?_, ?_, ?_, hm.wl, hm.bl, hm.st0, hm.st1, hm.sp0, hm.sp1, hm.post⟩
  · intro j' hj'
    simp only [List.mem_map] at hj'
    obtain ⟨j, hjm, rfl⟩ := hj'
    have h1 := hm.inn j hjm
    have h2 := hσ j (by omega) (by omega)
    exact ⟨h2.1, h2.2.1, by rw [h2.2.2]; exact h1.2.2⟩
  · rw [rchk_inn hX, e1]; exact hm.chk
  · rw [rwide_inn hX, e1]; exact hm.wd
  · rw [rate_inn, e2]; exact hm.rt
  · intro j1 h1 j2 h2
    simp only [List.mem_map] at h1 h2
    obtain ⟨j1, h1, rfl⟩ := h1
    obtain ⟨j2, h2, rfl⟩ := h2
    rw [hj j1 h1, hj j2 h2]
    exact hm.same j1 h1 j2 h2
  · intro j1 h1
    simp only [List.mem_map] at h1
    obtain ⟨j1, h1, rfl⟩ := h1
    rw [hj j1 h1]
    exact hm.still j1 h1
theorem nd_rev {ns : List Nd} {f : Nd → Nd} {i : Int} (h1 : 1 ≤ i) (h2 : i ≤ ns.length) : nd (ns.map f).reverse (i - 1) = f (nd ns (ns.length - i)) := by
  have a1 : (i - 1).toNat < ((ns.map f).reverse).length := by simp; omega
  have a2 : ((ns.length : Int) - i).toNat < ns.length := by omega
  unfold nd
  rw [List.getD_eq_getElem?_getD, List.getElem?_eq_getElem a1, List.getD_eq_getElem?_getD, List.getElem?_eq_getElem a2]
  simp only [Option.getD_some, List.getElem_reverse, List.getElem_map, List.length_map]
  congr 2
  omega
theorem GM.gg {wd lo hi out : Int} {ns : List Nd} (h : GM wd lo hi out ns) : ∃ W R rk, GG wd ns W R rk := by
  obtain ⟨ns0, W, R, hM, e⟩ := h.made
  rcases e with rfl | rfl
  · exact ⟨_, _, _, hM.gg⟩
  · have hlen : (ns0.map (turnN ns0.length)).reverse.length = ns0.length := by simp
    refine ⟨_, _, _, hM.gg.ren _ (fun x => if 0 < x then (ns0.length : Int) + 1 - x else x) (fun x => if 0 < x then (ns0.length : Int) + 1 - x else x) hlen rfl (fun j j0 j1 => ?_) (fun i i1 i2 => ?_) (fun i i1 i2 => ?_)⟩
    · by_cases hj : 0 < j
      · simp only [if_pos hj]
        rw [if_pos (by omega)]
        omega
      · simp only [if_neg hj]
        exact ⟨j0, j1, by first | rfl | trivial⟩
    · simp only [if_pos (show 0 < i by omega)]
      omega
    · rw [nd_rev i1 i2]
      simp only [if_pos (show 0 < i by omega)]
      rw [show (ns0.length : Int) + 1 - i - 1 = ns0.length - i by omega]
      rfl
/-! a right graph's order is whole; widths and rates go along it -/
theorem nextO_none {ns : List Nd} {o : List Int} : ∀ (m : Nat) (l : Int), nextO ns o m l = none → ∀ x, l ≤ x → x < l + m → mayO ns o x = false
  | 0, l, _, x, h1, h2 => by omega
  | m + 1, l, h, x, h1, h2 => by
    unfold nextO at h
    split at h
    · cases h
    · rename_i hm
      rcases Int.lt_or_le l x with h3 | h3
      · exact nextO_none m (l + 1) h x (by omega) (by omega)
      · obtain rfl : l = x := by omega
        simpa using hm
section
variable {wd : Int} {ns : List Nd} {W R : Int → Int} {rk : Int → Nat} (h : GG wd ns W R rk)
include h
theorem GG.next {o : List Int} (ho : o.length < ns.length) : ∃ i, nextO ns o ns.length 1 = some i := by
  cases hn : nextO ns o ns.length 1 with
  | some i => exact ⟨i, rfl⟩
  | none =>
    exfalso
    have hf := nextO_none _ _ hn
    have key : ∀ (r : Nat) (i : Int), rk i ≤ r → 1 ≤ i → i ≤ ns.length → i ∈ o := by
      intro r
      induction r with
      | zero =>
        intro i hr i1 i2
        have hm := (h.node i i1 i2).1
        by_cases hi : i ∈ o
        · exact hi
        · have h1 := hf i i1 (by omega)
          rw [mayO_iff.2 ⟨hi, fun j hj => by have := hm.inn j hj; omega⟩] at h1
          cases h1
      | succ r ih =>
        intro i hr i1 i2
        have hm := (h.node i i1 i2).1
        by_cases hi : i ∈ o
        · exact hi
        · have h1 := hf i i1 (by omega)
          rw [mayO_iff.2 ⟨hi, fun j hj => by
            have h2 := hm.inn j hj
            rcases Int.lt_or_le 0 j with h3 | h3
            · exact .inr (ih j (by omega) (by omega) h2.2.1)
            · exact .inl (by omega)⟩] at h1
          cases h1
    have := all_len ns.length o fun x h1 h2 => key _ x (Nat.le_refl _) h1 h2
    omega
theorem GG.ordR_len : ∀ (k : Nat) (o : List Int), o.length + k = ns.length → (ordR ns k o).length = ns.length
  | 0, o, e => by simpa [ordR] using e
  | k + 1, o, e => by
    obtain ⟨i, hi⟩ := h.next (o := o) (by omega)
    unfold ordR
    rw [hi]
    exact GG.ordR_len k (o ++ [i]) (by simp; omega)
theorem GG.order_len : (order ns).length = ns.length := h.ordR_len ns.length [] (by simp)
end
theorem order_top (ns : List Nd) : ∀ (o1 : List Int) (i : Int) (r : List Int), order ns = o1 ++ i :: r → mayO ns o1 i = true ∧ (∀ x : Int, 1 ≤ x → x ≤ ns.length → mayO ns o1 x = true → i ≤ x) ∧ 1 ≤ i ∧ i ≤ ns.length :=
  ordR_inv (fun o => ∀ (o1 : List Int) (i : Int) (r : List Int), o = o1 ++ i :: r → mayO ns o1 i = true ∧ (∀ x : Int, 1 ≤ x → x ≤ ns.length → mayO ns o1 x = true → i ≤ x) ∧ 1 ≤ i ∧ i ≤ ns.length) (fun o x ho h1 h2 h3 h4 o1 i r e => by
    rcases List.eq_nil_or_concat r with rfl | ⟨L, b, rfl⟩
    · have e2 := List.append_inj' e rfl
      obtain ⟨rfl, e3⟩ := e2
      obtain rfl : x = i := by simpa using e3
      exact ⟨h3, h4, h1, h2⟩
    · rw [show o1 ++ i :: (L.concat b) = (o1 ++ i :: L) ++ [b] by simp] at e
      exact ho o1 i L (List.append_inj' e rfl).1) ns.length [] (fun o1 i r e => by simp at e)
theorem gwin_eq {n : Nd} (hk : inB n.k 1 12 = true) (h0 : rWin n.k = false) : n.gwin = false := by
  have hs : n.span = 1 := by
    rw [span_eqW]
    unfold Nd.rSpan
    have h1 : (n.k == 12) = false := by unfold rWin at h0; simp only [Bool.or_eq_false_iff] at h0; exact h0.2
    rw [if_neg (by rw [h1]; decide), if_pos (by rw [h0]; rfl)]
  unfold Nd.gwin
  rw [hs]
  have h2 := inB_iff.1 hk
  unfold rWin at h0
  simp only [Bool.or_eq_false_iff, beq_eq_false_iff_ne] at h0
  simp only [Bool.or_eq_false_iff, decide_eq_false_iff_not, beq_eq_false_iff_ne]
  omega
theorem grate_eq {n : Nd} {l : List Int} (hk : inB n.k 1 12 = true) (hall : ∀ x ∈ l, x = rd l 0) (hst : rd l 0 = 0 → rWin n.k = false ∧ n.k ≠ 5) : n.grate l = (n.rate l, true) := by
  have ha : l.all (· == rd l 0) = true := List.all_eq_true.2 fun x hx => by simpa using hall x hx
  have hb : l.any (· != rd l 0) = false := by
    rw [List.any_eq_false]
    exact fun x hx => by simpa using hall x hx
  have hz : (rd l 0 == 0 && (n.gwin || n.k == 5)) = false := by
    cases e : (rd l 0 == 0) with
    | false => rfl
    | true =>
      have := hst (by simpa using e)
      rw [gwin_eq hk this.1, show (n.k == 5) = false by simpa using this.2]; rfl
  have hz2 : (rd l 0 == 0 && (rWin n.k || n.k == 5)) = false := by
    cases e : (rd l 0 == 0) with
    | false => rfl
    | true =>
      have := hst (by simpa using e)
      rw [this.1, show (n.k == 5) = false by simpa using this.2]; rfl
  unfold Nd.grate Nd.rate
  rw [hb, hz, ha, hz2, stp_eqW]
  simp only [Bool.or_self, Bool.false_eq_true, if_false, Bool.true_eq_false]
  split <;> rfl
theorem rd_set {l : List Int} {i j v : Int} (hi : 0 ≤ i) (hi2 : i < l.length) (hj : 0 ≤ j) : rd (l.set i.toNat v) j = if j = i then v else rd l j := by
  unfold rd
  rw [List.getD_eq_getElem?_getD, List.getD_eq_getElem?_getD, List.getElem?_set]
  by_cases e : j = i
  · subst e
    rw [if_pos rfl, if_pos rfl, if_pos (by omega)]; rfl
  · rw [if_neg (by omega), if_neg e]
theorem rd_map {l : List Int} {f : Int → Int} (h : 0 < l.length) : rd (l.map f) 0 = f (rd l 0) := by
  cases l with
  | nil => simp at h
  | cons x l => rfl
section
variable {wd : Int} {ns : List Nd} {W R : Int → Int} {rk : Int → Nat} (h : GG wd ns W R rk)
include h
theorem GG.lookL : ∀ (r o W1 R1 : List Int), order ns = o ++ r → W1.length = ns.length + 1 → R1.length = ns.length + 1 → (∀ x, x = 0 ∨ x ∈ o → rd W1 x = W x ∧ rd R1 x = R x) →
    ∃ W2 R2, lookL ns r W1 R1 = (0, W2, R2) ∧ W2.length = ns.length + 1 ∧ R2.length = ns.length + 1 ∧ ∀ x, x = 0 ∨ x ∈ o ++ r → rd W2 x = W x ∧ rd R2 x = R x
  | [], o, W1, R1, ho, hW, hR, hx => ⟨W1, R1, rfl, hW, hR, by simpa using hx⟩
  | i :: r, o, W1, R1, ho, hW, hR, hx => by
    obtain ⟨hm, _, i1, i2⟩ := order_top ns o i r ho
    have hN := (h.node i i1 i2).1
    have hin := (mayO_iff.1 hm).2
    rw [lookL_cons]
    generalize nd ns (i - 1) = n at hN hin ⊢
    have e1 : n.inn.map (rd W1) = n.inn.map W := List.map_congr_left fun j hj => (hx j (hin j hj)).1
    have e2 : n.inn.map (rd R1) = n.inn.map R := List.map_congr_left fun j hj => (hx j (hin j hj)).2
    obtain ⟨_, h7, _⟩ := rchk_unpack hN.chk
    have hk : inB n.k 1 12 = true := by
      unfold Nd.r7 at h7
      simp only [Bool.or_eq_false_iff, Bool.not_eq_false'] at h7
      exact h7.1.1
    have h0m : rd n.inn 0 ∈ n.inn := rd_mem (by omega) (by have := hN.l1; omega)
    have hr0 : rd (n.inn.map R) 0 = R (rd n.inn 0) := rd_map hN.l1
    have hg : n.grate (n.inn.map R) = (R i, true) := by
      rw [grate_eq hk (fun x hx => by
        simp only [List.mem_map] at hx
        obtain ⟨j, hj, rfl⟩ := hx
        rw [hr0]; exact hN.same j hj _ h0m) (by rw [hr0]; exact hN.still _ h0m), ← hN.rt]
    have hw : n.wide (n.inn.map W) = W i := by
      have := both_eq n (n.inn.map W)
      unfold Nd.both at this
      simp only [Bool.and_eq_true, beq_iff_eq] at this
      rw [this.2]; exact hN.wd.symm
    rw [e1, e2, chk_eq, hN.chk, hg, hw]
    simp only [bne_self_eq_false, Bool.false_eq_true, if_false, Bool.not_true]
    have := GG.lookL r (o ++ [i]) (W1.set i.toNat (W i)) (R1.set i.toNat (R i)) (by rw [ho]; simp) (by simpa using hW) (by simpa using hR) (fun x hx' => by
      have hx0 : 0 ≤ x := by
        rcases hx' with rfl | hx'
        · omega
        · have := ordR_range (ns := ns) (k := ns.length) (o := []) (by simp) x (show x ∈ order ns by
            rw [ho]
            rcases List.mem_append.1 hx' with hx' | hx'
            · exact List.mem_append_left _ hx'
            · exact List.mem_append_right _ (by simp at hx'; subst hx'; simp))
          omega
      rw [rd_set (by omega) (by omega) hx0, rd_set (by omega) (by omega) hx0]
      by_cases e : x = i
      · subst e; rw [if_pos rfl, if_pos rfl]; exact ⟨rfl, rfl⟩
      · rw [if_neg e, if_neg e]
        refine hx x ?_
        rcases hx' with hx' | hx'
        · exact .inl hx'
        · rcases List.mem_append.1 hx' with hx' | hx'
          · exact .inr hx'
          · simp at hx'; exact absurd hx' e)
    obtain ⟨W2, R2, e3, e4, e5, e6⟩ := this
    exact ⟨W2, R2, e3, e4, e5, by simpa using e6⟩
theorem GG.mem_order (x : Int) (h1 : 1 ≤ x) (h2 : x ≤ ns.length) : x ∈ order ns := by
  by_cases hx : x ∈ order ns
  · exact hx
  · exfalso
    have hl := h.order_len
    have hnd : (x :: order ns).Nodup := List.nodup_cons.2 ⟨hx, order_nodup ns⟩
    have := nodup_len ns.length (x :: order ns) hnd fun y hy => by
      rcases List.mem_cons.1 hy with rfl | hy
      · exact ⟨h1, h2⟩
      · exact ordR_range (ns := ns) (k := ns.length) (o := []) (by simp) y hy
    simp at this
    omega
/-- what graph.look tells of a right graph -/
theorem GG.lookG {lo hi out : Int} (hm : mayG wd lo hi out ns = 0) : ∃ W2 R2, lookG wd lo hi out ns = (0, order ns, W2, R2) ∧ W2.length = ns.length + 1 ∧ R2.length = ns.length + 1 ∧ ∀ x : Int, 0 ≤ x → x ≤ ns.length → rd W2 x = W x ∧ rd R2 x = R x := by
  obtain ⟨W2, R2, e1, e2, e3, e4⟩ := h.lookL (order ns) [] (wd :: List.replicate ns.length 0) (1 :: List.replicate ns.length 0) rfl (by simp) (by simp) (fun x hx => by
    simp only [List.not_mem_nil, or_false] at hx
    subst hx
    exact ⟨h.W0.symm, h.R0.symm⟩)
  refine ⟨W2, R2, ?_, e2, e3, fun x h1 h2 => e4 x ?_⟩
  · unfold Aw.lookG
    rw [if_neg (by rw [hm]; decide), if_neg (by rw [h.order_len]; simp), e1]
    rfl
  · rcases Int.lt_or_le 0 x with h3 | h3
    · exact .inr (by simpa using h.mem_order x h3 h2)
    · exact .inl (by omega)
end
theorem GM.may {wd lo hi out : Int} {ns : List Nd} (h : GM wd lo hi out ns) : mayG wd lo hi out ns = 0 := by
  have hn := h.n0
  unfold mayG
  rw [if_neg (by simp; omega), if_neg, if_pos]
  · exact List.all_eq_true.2 fun n hm => List.all_eq_true.2 fun j hj => inB_iff.2 ((h.inn n hm).1.2 j hj)
  · have := h.wd0; have := h.lo0; have := h.hi0; have := h.out0
    unfold mayQ
    simp only [Bool.or_eq_true, decide_eq_true_eq]
    omega
/-! the plain law: graph.look and ref16.Look tell the same, of every graph -/
theorem rd_set_or (l : List Int) (k : Nat) (v x : Int) : rd (l.set k v) x = v ∨ rd (l.set k v) x = rd l x := by
  unfold rd
  rw [List.getD_eq_getElem?_getD, List.getD_eq_getElem?_getD, List.getElem?_set]
  by_cases h : k = x.toNat
  · rw [if_pos h]
    by_cases h2 : k < l.length
    · rw [if_pos h2]; exact .inl rfl
    · rw [if_neg h2]; right
      rw [List.getElem?_eq_none (by omega)]
  · rw [if_neg h]; exact .inr rfl
theorem gwin_win {n : Nd} (hk : inB n.k 1 12 = true) : n.gwin = rWin n.k := by
  cases h : rWin n.k with
  | false => exact gwin_eq hk h
  | true =>
    unfold rWin at h
    simp only [Bool.or_eq_true, beq_iff_eq] at h
    unfold Nd.gwin
    simp only [Bool.or_eq_true, decide_eq_true_eq, beq_iff_eq]
    omega
theorem step_range {n : Nd} {v : Int} (hs : n.sized v = true) : 1 ≤ n.rStp ∧ n.rStp ≤ 4 := by
  unfold Nd.rStp
  cases hf : rFour n.k with
  | false => rw [if_neg (by decide)]; decide
  | true =>
    rw [if_pos rfl]
    unfold Nd.sized at hs
    have h8 : n.s8 = false := by
      cases h : n.s8 with
      | false => rfl
      | true =>
        exfalso
        rw [h] at hs
        cases n.s4 <;> simp at hs
    unfold Nd.s8 at h8
    rw [hf, Bool.true_and] at h8
    simp only [Bool.or_eq_false_iff, Bool.not_eq_false'] at h8
    exact inB_iff.1 h8.1
theorem grate_rate {n : Nd} {l : List Int} {v B : Int} (hk : inB n.k 1 12 = true) (hs : n.sized v = true) (h0 : 0 ≤ rd l 0) (h1 : rd l 0 ≤ B) (hB : B * 4 ≤ 1000000000) : (n.grate l).2 = !decide (n.rate l < 0) ∧ (0 ≤ n.rate l → (n.grate l).1 = n.rate l ∧ n.rate l ≤ B * 4) := by
  have hst := step_range hs
  have ha : l.any (· != rd l 0) = !l.all (· == rd l 0) := by
    rw [List.not_all_eq_any_not]; rfl
  have hm := mul_le (rd l 0) B n.rStp 4 h0 h1 (by omega) hst.2
  unfold Nd.grate Nd.rate
  rw [ha, gwin_win hk, stp_eqW]
  cases l.all (· == rd l 0) with
  | false => exact ⟨rfl, fun h => absurd (show (0 : Int) ≤ -1 from h) (by decide)⟩
  | true =>
    simp only [Bool.not_true, Bool.false_or, Bool.true_eq_false, if_false]
    cases hz : (rd l 0 == 0 && (rWin n.k || n.k == 5)) with
    | true => exact ⟨rfl, fun h => absurd (show (0 : Int) ≤ -1 from h) (by decide)⟩
    | false =>
      simp only [Bool.false_eq_true, if_false]
      cases h5 : (n.k == 5) with
      | true => exact ⟨rfl, fun _ => ⟨rfl, by show (0 : Int) ≤ B * 4; omega⟩⟩
      | false =>
        simp only [Bool.false_eq_true, if_false]
        rw [w64 (by omega) (by omega)]
        refine ⟨?_, fun _ => ⟨by first | rfl | trivial, hm.2⟩⟩
        simp; omega
theorem lookL_eq (ns : List Nd) : ∀ (r W R : List Int) (B : Int), (∀ x, 0 ≤ rd R x ∧ rd R x ≤ B) → 0 ≤ B → B * 4 ^ r.length ≤ 1000000000 → lookL ns r W R = lookM ns r W R
  | [], _, _, _, _, _, _ => rfl
  | i :: r, W, R, B, hR, hB0, hB => by
    rw [lookL_cons, lookM_cons, chk_eq]
    generalize nd ns (i - 1) = n
    cases hc : (n.rchk (n.inn.map (rd W)) != 0) with
    | true => simp only [if_true]
    | false =>
      simp only [Bool.false_eq_true, if_false]
      have hc0 : n.rchk (n.inn.map (rd W)) = 0 := bne_eq_false_iff_eq.mp hc
      obtain ⟨_, h7, _, _, hs, _⟩ := rchk_unpack hc0
      have hk : inB n.k 1 12 = true := by
        unfold Nd.r7 at h7
        simp only [Bool.or_eq_false_iff, Bool.not_eq_false'] at h7
        exact h7.1.1
      have hB4 : B * 4 ≤ 1000000000 := by
        rw [List.length_cons, Int.pow_succ] at hB
        have h1 : (1 : Int) ≤ 4 ^ r.length := by have : (0 : Int) < 4 ^ r.length := Int.pow_pos (by decide); omega
        have h2 : B * 4 * 1 ≤ B * 4 * 4 ^ r.length := Int.mul_le_mul_of_nonneg_left h1 (by omega)
        have h3 : B * (4 ^ r.length * 4) = B * 4 * 4 ^ r.length := by rw [Int.mul_comm (4 ^ r.length) 4, Int.mul_assoc]
        omega
      have h0 : 0 ≤ rd (n.inn.map (rd R)) 0 ∧ rd (n.inn.map (rd R)) 0 ≤ B := by
        cases n.inn with
        | nil => exact ⟨show (0 : Int) ≤ 0 by decide, show (0 : Int) ≤ B from hB0⟩
        | cons x t => exact hR x
      have hg := grate_rate hk hs h0.1 h0.2 hB4
      rw [hg.1, Bool.not_not]
      cases hd : decide (n.rate (n.inn.map (rd R)) < 0) with
      | true => simp only [if_true]
      | false =>
        simp only [Bool.false_eq_true, if_false]
        have h1 := hg.2 (by have := of_decide_eq_false hd; omega)
        have hw : n.wide (n.inn.map (rd W)) = n.rwide (n.inn.map (rd W)) := by
          have := both_eq n (n.inn.map (rd W))
          unfold Nd.both at this
          simp only [Bool.and_eq_true, beq_iff_eq] at this
          exact this.2
        rw [h1.1, hw]
        refine lookL_eq ns r _ _ (B * 4) (fun x => ?_) (by omega) (by rw [List.length_cons, Int.pow_succ, Int.mul_comm _ 4, ← Int.mul_assoc] at hB; exact hB)
        have h2 := hR x
        have h3 := of_decide_eq_false hd
        rcases rd_set_or R i.toNat (n.rate (n.inn.map (rd R))) x with e | e <;> rw [e] <;> omega
theorem look_same (wd lo hi out : Int) (ns : List Nd) : lookG wd lo hi out ns = lookR wd lo hi out ns := by
  unfold lookG lookR
  cases hm : (mayG wd lo hi out ns != 0) with
  | true => simp only [if_true]
  | false =>
    simp only [Bool.false_eq_true, if_false]
    have hN := mayG_ok (bne_eq_false_iff_eq.mp hm)
    have hle : (order ns).length ≤ ns.length := by
      show (ordR ns ns.length []).length ≤ _
      simpa using (ordR_length (ns := ns) ns.length []).2
    have e : (!((order ns).length == ns.length)) = decide (((order ns).length : Int) < ns.length) := by
      rw [Bool.eq_iff_iff]; simp; omega
    rw [e]
    cases decide (((order ns).length : Int) < ns.length) with
    | true => simp only [if_true]
    | false =>
      simp only [Bool.false_eq_true, if_false]
      have hb : ∀ x, 0 ≤ rd (1 :: List.replicate ns.length 0) x ∧ rd (1 :: List.replicate ns.length 0) x ≤ 1 := fun x => by
        unfold rd
        rw [List.getD_eq_getElem?_getD]
        cases h : x.toNat with
        | zero => simp
        | succ k =>
          rw [List.getElem?_cons_succ, List.getElem?_replicate]
          split <;> simp
      rw [lookL_eq ns (order ns) (wd :: List.replicate ns.length 0) (1 :: List.replicate ns.length 0) 1 hb (by decide) ?_]
      · have h1 : (4 : Int) ^ (order ns).length ≤ 4 ^ 12 := by
          have := Nat.pow_le_pow_right (show 0 < 4 by decide) (show (order ns).length ≤ 12 by omega)
          have h2 : ((4 ^ (order ns).length : Nat) : Int) ≤ ((4 ^ 12 : Nat) : Int) := by omega
          simpa using h2
        have h3 : (4 : Int) ^ 12 = 16777216 := by decide
        omega
end Go.Proofs.YtgomeljgbjgbkaaGreatDoor.Aw
namespace Go.Proofs.YtgomeljgbjgbkaaGreatDoor.Aw
open Go.RowKit
attribute [local go_sem_proc] Nat.reduceAdd Nat.reduceMul Nat.reduceSub Nat.reduceEqDiff Nat.reduceLeDiff Nat.reduceBEq Nat.reduceBNe Int.reduceToNat reduceIte reduceCtorEq
attribute [local go_sem] initT SQ so pe he ev lk constS stp stc gdS nth pickS pickD loadS cellsAt okAt fieldAddrS fieldS partS indexAddrS indexS extractS binS binD binI isShift unS convS lenS sliceS bndI bndC mmS mm2 mmD builtS fillS okCells cellsS splS solid aliveL alive okS boxS allocS makeS bsliceS elemsOf dcells stF frzW storeS frzA frzK oneS1 srcR rwsOf hdO appR frz frzT frzS frzL frzO frzH appS srcS appVC killS killT killC killH killO k1 k2 S.has S.hasL St.add St.upd dropH lh cond_or cond_and rw_intC rw_intC0 rw_set rw_app rw_apps rw_rep rw_slice wr64 cond_true cond_false true_and and_true List.map_cons List.map_nil List.length_cons List.length_nil List.drop_succ_cons List.drop_zero List.take_succ_cons List.take_zero List.nil_append List.cons_append List.getD_cons_zero List.getD_cons_succ List.headD_cons List.length_map ite_true ite_false if_true if_false Bool.false_eq_true and_self forall_const List.drop_nil List.take_nil List.append_nil Option.map_some Option.map_none List.mapM_cons List.mapM_nil Option.bind_eq_bind Option.bind_some Option.pure_def knows resL resV oneS freshS freshL cv cvL stpL stcL or_true true_or or_false false_or List.all_cons List.all_nil Bool.and_self Bool.or_self Bool.true_and Bool.and_true Bool.or_false Bool.false_or implies_true flatD allm_nil allm_cons List.getElem?_cons_zero List.getElem?_cons_succ Nd.cs Nd.ds ml mln Option.isSome_some Option.isSome_none eq_self Int.toNat_natCast AP ldOk isLd inL subL crt chg chgS chgP idxs aliveW Option.toList_some Option.toList_none Option.toList RetG Nd.win frzA offK keepH aliveK nkH closedH closedO keysK inH St.upd rowO List.contains_cons List.contains_nil Bool.or_self Option.isNone_none Option.isNone_some Bool.not_true Bool.not_false gcs rowN e0N frzC
attribute [local go_sem] sz2 ag2 ok2 kk2 iu2 zc2 zd2 by2 sz3 ag3 ok3 kk3 iu3 zc3 zd3 by3 sz4 ag4 ok4 bo4 zc4 zd4 by4 sz5 ag5 ok5 kk5 iu5 zc5 zd5 by5 sz9 ag9 ok9 st9 zc9 zd9 by9 sz12 ag12 ok12 kk12 iu12 zc12 zd12 by12 sz15 ag15 ok15 zc15 by15 sz16 ag16 ok16 zc16 by16 sz21 ag21 ok21 kk21 iu21 zc21 zd21 by21 sz22 ag22 ok22 sl22 zc22 zd22 by22 sz23 ag23 ok23 zc23 zd23 pl23 by23 fl23_0 fl23_1 fl23_2 sz24 ag24 ok24 zc24 zd24 pl24 by24 fl24_0 fl24_1 fl24_2 sz26 ag26 ok26 sl26 zc26 zd26 by26 sz27 ag27 ok27 zc27 zd27 pl27 by27 fl27_0 fl27_1 fl27_2 fl27_3 fl27_4 sz28 ag28 ok28 zc28 zd28 pl28 by28 fl28_0 fl28_1 fl28_2 fl28_3 fl28_4 sz29 ag29 ok29 sl29 zc29 zd29 by29 sz32 ag32 ok32 sl32 zc32 zd32 by32 sz33 ag33 ok33 kk33 iu33 zc33 zd33 by33 sz36 ag36 ok36 zc36 zd36 pl36 by36 fl36_0 fl36_1 sz37 ag37 ok37 zc37 zd37 pl37 by37 fl37_0 fl37_1 sz49 ag49 ok49 zc49 zd49 pl49 by49 fl49_0 fl49_1 fl49_2 fl49_3 fl49_4 fl49_5 fl49_6 fl49_7 fl49_8 fl49_9 fl49_10 fl49_11 fl49_12 fl49_13 fl49_14 sz50 ag50 ok50 zc50 zd50 pl50 by50 fl50_0 fl50_1 fl50_2 fl50_3 fl50_4 fl50_5 fl50_6 fl50_7 fl50_8 fl50_9 fl50_10 fl50_11 fl50_12 fl50_13 fl50_14 sz53 ag53 ok53 zc53 by53 sz55 ag55 ok55 zc55 zd55 pl55 by55 fl55_0 fl55_1 fl55_2 sz56 ag56 ok56 zc56 zd56 pl56 by56 fl56_0 fl56_1 fl56_2 sz58 ag58 ok58 zc58 zd58 pl58 by58 fl58_0 fl58_1 fl58_2 fl58_3 sz59 ag59 ok59 zc59 zd59 pl59 by59 fl59_0 fl59_1 fl59_2 fl59_3 sz66 ag66 ok66 zc66 zd66 pl66 by66 fl66_0 fl66_1 fl66_2 sz67 ag67 ok67 zc67 zd67 pl67 by67 fl67_0 fl67_1 fl67_2 sz79 ag79 ok79 zc79 by79 sz80 ag80 ok80 zc80 zd80 pl80 by80 fl80_0 fl80_1 sz81 ag81 ok81 zc81 zd81 pl81 by81 fl81_0 fl81_1 sz105 ag105 ok105 sl105 ar105 zc105 zd105 pl105 by105 sz108 ag108 ok108 sl108 ar108 zc108 zd108 pl108 by108 sz109 ag109 ok109 zc109 by109 sz115 ag115 ok115 zc115 zd115 pl115 by115 fl115_0 fl115_1 sz116 ag116 ok116 zc116 zd116 pl116 by116 fl116_0 fl116_1 sz120 ag120 ok120 zc120 zd120 pl120 by120 fl120_0 fl120_1 sz121 ag121 ok121 sl121 ar121 zc121 zd121 pl121 by121 sz124 ag124 ok124 kk124 iu124 zc124 zd124 by124 sz133 ag133 ok133 kk133 iu133 zc133 zd133 by133 sz137 ag137 ok137 zc137 by137
section
attribute [local go_sem] rowN gcs
def gcd' (wd lo hi out : Int) (ns : List Nd) : List D := [.i .i64 wd, .i .i64 lo, .i .i64 hi, rowN ns, .i .i64 out]
/-- the order of a graph's nodes -/
abbrev ordG (wd lo hi out : Int) (ns : List Nd) : List Int := (lookG wd lo hi out ns).2.1
attribute [local go_sem] gcd'
end
end Go.Proofs.YtgomeljgbjgbkaaGreatDoor.Aw
namespace Go.Proofs.YtgomeljgbjgbkaaGreatDoor.Aw
open Go.RowKit
/-! where numbers stand in a right graph's order -/
structure OP (ns : List Nd) (o : List Int) : Prop where
  len : o.length = ns.length
  inj : ∀ p q : Int, 0 ≤ p → p < o.length → 0 ≤ q → q < o.length → rd o p = rd o q → p = q
  rng : ∀ p : Int, 0 ≤ p → p < o.length → 1 ≤ rd o p ∧ rd o p ≤ ns.length
  all : ∀ i : Int, 1 ≤ i → i ≤ ns.length → ∃ p : Int, 0 ≤ p ∧ p < o.length ∧ rd o p = i
  inn : ∀ p : Int, 0 ≤ p → p < o.length → ∀ j ∈ (nd ns (rd o p - 1)).inn, j = 0 ∨ ∃ q : Int, 0 ≤ q ∧ q < p ∧ rd o q = j
  least : ∀ p i : Int, 0 ≤ p → p < o.length → 1 ≤ i → i ≤ ns.length → (∀ q : Int, 0 ≤ q → q < p → rd o q ≠ i) → (∀ j ∈ (nd ns (i - 1)).inn, j = 0 ∨ ∃ q : Int, 0 ≤ q ∧ q < p ∧ rd o q = j) → rd o p ≤ i
/-! what is told of a right graph's nodes -/
structure ToldN (n : Nd) (W R : List Int) (i : Int) : Prop where
  l1 : 1 ≤ n.inn.length
  l2 : n.inn.length ≤ 2
  inn : ∀ j ∈ n.inn, 0 ≤ j ∧ j < W.length ∧ j < R.length
  wd : rd W i = n.wide (n.inn.map (rd W))
  w1 : 1 ≤ rd W i ∧ rd W i ≤ 16
  rt : rd R i = if (n.k == 5) = true then 0 else wrap64 (rd R (rd n.inn 0) * n.stp)
  same : ∀ j ∈ n.inn, rd R j = rd R (rd n.inn 0)
  wl : n.ws.length ≤ 4096
  bl : n.bs.length ≤ 4096
/-! numbers that are changed round -/
def turnR (N b : Int) (n : Nd) : Nd := { n with inn := n.inn.map fun x => if 0 < x then (x - 1 + b) % N + 1 else x }
def hsL (b : Int) (ns : List Nd) : List Nd := (List.range ns.length).map fun (k : Nat) => turnR ns.length b (nd ns (((k : Int) - b) % ns.length))
/-! numbers: clamped, rounded, added -/
theorem and_mask (x : Int) (m : Nat) (hm : m ≤ 62) : Go.bits .and .i64 x (2 ^ m - 1) = x % 2 ^ m := by
  have hp : 0 < 2 ^ m := Nat.two_pow_pos m
  have hc : ((2 : Int) ^ m - 1) = ((2 ^ m - 1 : Nat) : Int) := by rw [Int.natCast_sub hp]; simp
  have hlt : (2 : Nat) ^ m ≤ 2 ^ 62 := Nat.pow_le_pow_right (by decide) hm
  have hmod : (2 ^ m - 1) % 2 ^ 64 = 2 ^ m - 1 := Nat.mod_eq_of_lt (by omega)
  have hd : (2 : Int) ^ m ∣ 2 ^ 64 := ⟨2 ^ (64 - m), by rw [← Int.pow_add]; congr 1; omega⟩
  have hx0 : 0 ≤ x % 2 ^ 64 := Int.emod_nonneg _ (by decide)
  rw [hc]
  show IntKind.i64.wrap (((BitVec.ofInt 64 x &&& BitVec.ofInt 64 ((2 ^ m - 1 : Nat) : Int)).toNat : Nat) : Int) = _
  rw [BitVec.toNat_and, BitVec.ofInt_natCast, BitVec.toNat_ofNat, BitVec.toNat_ofInt, hmod, Nat.and_two_pow_sub_one_eq_mod]
  have e : (((x % ((2 ^ 64 : Nat) : Int)).toNat % 2 ^ m : Nat) : Int) = x % 2 ^ m := by
    rw [Int.natCast_emod, Int.toNat_of_nonneg (by simpa using hx0)]
    simp only [Int.natCast_pow, Int.cast_ofNat_Int]
    exact Int.emod_emod_of_dvd _ hd
  have l0 : 0 ≤ x % 2 ^ m := Int.emod_nonneg _ (by exact_mod_cast Nat.ne_of_gt hp)
  have l1 : x % 2 ^ m < 2 ^ m := Int.emod_lt_of_pos _ (by exact_mod_cast hp)
  have l2 : (2 : Int) ^ m ≤ 2 ^ 62 := by exact_mod_cast hlt
  rw [e, wr64, w64] <;> omega
theorem xor_neg (x : Int) (h0 : -9223372036854775808 ≤ x) (h1 : x ≤ 9223372036854775807) : Go.bits .xor .i64 (-1) x = -1 - x := by
  have e : BitVec.ofInt 64 (-1) ^^^ BitVec.ofInt 64 x = ~~~ BitVec.ofInt 64 x := by
    have : BitVec.ofInt 64 (-1) = BitVec.allOnes 64 := by decide
    rw [this]; exact BitVec.allOnes_xor
  show IntKind.i64.wrap (((BitVec.ofInt 64 (-1) ^^^ BitVec.ofInt 64 x).toNat : Nat) : Int) = _
  rw [e, BitVec.toNat_not, BitVec.toNat_ofInt, wr64]
  unfold wrap64
  have : (0:Int) ≤ x % 18446744073709551616 := by omega
  simp only [Nat.reducePow, Int.cast_ofNat_Int]
  omega
theorem or_join (h l : Int) (l0 : 0 ≤ l) (l1 : l < 4294967296) (h0 : -2147483648 ≤ h) (h1 : h < 2147483648) : Go.bits .or .i64 (h * 4294967296) l = h * 4294967296 + l := by
  show IntKind.i64.wrap (((BitVec.ofInt 64 (h * 4294967296) ||| BitVec.ofInt 64 l).toNat : Nat) : Int) = _
  rw [BitVec.toNat_or, BitVec.toNat_ofInt, BitVec.toNat_ofInt, wr64]
  obtain ⟨a, ha⟩ : ∃ a : Nat, (a : Int) = h % 4294967296 := ⟨(h % 4294967296).toNat, by omega⟩
  have e1 : ((h * 4294967296) % ((2 ^ 64 : Nat) : Int)).toNat = 2 ^ 32 * a := by simp only [Nat.reducePow, Int.cast_ofNat_Int]; omega
  have e2 : (l % ((2 ^ 64 : Nat) : Int)).toNat = l.toNat := by simp only [Nat.reducePow, Int.cast_ofNat_Int]; omega
  rw [e1, e2, ← Nat.two_pow_add_eq_or_of_lt (by omega)]
  unfold wrap64
  simp only [Nat.reducePow]
  omega
def inR (x : Int) : Prop := -9223372036854775808 ≤ x ∧ x ≤ 9223372036854775807
def in32 (x : Int) : Prop := -2147483648 ≤ x ∧ x ≤ 2147483647
instance (x : Int) : Decidable (in32 x) := inferInstanceAs (Decidable (_ ∧ _))
def hiS (xs : List Int) : Int := (xs.map (· / 4294967296)).sum
def loS (xs : List Int) : Int := (xs.map (· % 4294967296)).sum
theorem hi_lo (xs : List Int) : xs.sum = hiS xs * 4294967296 + loS xs := by
  induction xs with
  | nil => rfl
  | cons x xs ih => simp only [hiS, loS, List.map_cons, List.sum_cons] at ih ⊢; omega
theorem lo_range (xs : List Int) : 0 ≤ loS xs ∧ loS xs ≤ 4294967295 * xs.length := by
  induction xs with
  | nil => simp [loS]
  | cons x xs ih =>
    simp only [loS, List.map_cons, List.sum_cons, List.length_cons] at ih ⊢
    omega
theorem hi_take (xs : List Int) (i : Nat) (h : i < xs.length) : hiS (xs.take (i + 1)) = hiS (xs.take i) + xs[i] / 4294967296 := by
  unfold hiS; rw [List.take_succ_eq_append_getElem h, List.map_append, List.sum_append]; simp only [List.map_cons, List.map_nil, List.sum_cons, List.sum_nil, Int.add_zero]
theorem lo_take (xs : List Int) (i : Nat) (h : i < xs.length) : loS (xs.take (i + 1)) = loS (xs.take i) + xs[i] % 4294967296 := by
  unfold loS; rw [List.take_succ_eq_append_getElem h, List.map_append, List.sum_append]; simp only [List.map_cons, List.map_nil, List.sum_cons, List.sum_nil, Int.add_zero]
def clampV (x l h : Int) : Int := if x < l then l else if x > h then h else x
theorem ediv_bounds {x n : Int} (hn : 1 ≤ n) : (0 ≤ x → 0 ≤ x / n ∧ x / n ≤ x) ∧ (x < 0 → x ≤ x / n ∧ x / n ≤ -1) := by
  constructor
  · intro h
    exact ⟨Int.ediv_nonneg h (by omega), Int.ediv_le_self n h⟩
  · intro h
    constructor
    · refine Int.le_ediv_of_mul_le (by omega) ?_
      have h2 := Int.mul_nonpos_of_nonpos_of_nonneg (show x ≤ 0 by omega) (show 0 ≤ n - 1 by omega)
      rw [Int.mul_sub] at h2
      omega
    · have := Int.ediv_lt_of_lt_mul (a := x) (b := 0) (c := n) (by omega) (by omega)
      omega
/-- Divided, and rounded. -/
def divV (x n : Int) : Int := if n < 1 then 0 else (2 * x + n) / (2 * n)
theorem div_split {x n : Int} (hn : 1 ≤ n) : (2 * x + n) / (2 * n) = x / n + (if n ≤ 2 * (x % n) then 1 else 0) := by
  have e := Int.emod_add_mul_ediv x n
  have h1 := Int.emod_nonneg x (show n ≠ 0 by omega)
  have h2 := Int.emod_lt_of_pos x (show 0 < n by omega)
  have e2 : 2 * x = 2 * (x % n) + 2 * n * (x / n) := by
    have : 2 * n * (x / n) = 2 * (n * (x / n)) := by rw [Int.mul_assoc]
    omega
  split
  · refine ((Int.ediv_emod_unique (r := 2 * (x % n) - n) (by omega)).mpr ⟨?_, by omega, by omega⟩).1
    rw [Int.mul_add]; omega
  · refine ((Int.ediv_emod_unique (r := 2 * (x % n) + n) (by omega)).mpr ⟨?_, by omega, by omega⟩).1
    rw [Int.mul_add]; omega
/-- Divided by 2^k, and rounded. -/
def halfV (x k : Int) : Int := if 0 ≤ k ∧ k ≤ 62 then divV x (2 ^ k.toNat) else 0
theorem shl_one : ∀ n : Fin 63, wrap64 (1 * 2 ^ (min (n.val : Int).toNat 64)) = 2 ^ n.val := by decide +kernel
/-- Multiplied, divided, rounded, clamped. -/
def scaleV (x m s : Int) : Int := if 0 ≤ m ∧ m ≤ 32767 ∧ 0 ≤ s ∧ s ≤ 30 then clampV (halfV (x * m) s) (-2147483648) 2147483647 else 0
theorem pow_two_le {s : Int} (h0 : 0 ≤ s) (h1 : s ≤ 30) : 1 ≤ (2 : Int) ^ s.toNat ∧ (2 : Int) ^ s.toNat ≤ 1073741824 := by
  constructor
  · exact_mod_cast Nat.one_le_two_pow
  · have h := Nat.pow_le_pow_right (show 0 < 2 by decide) (show s.toNat ≤ 30 by omega)
    have h2 : (((2 ^ s.toNat : Nat)) : Int) ≤ ((2 ^ 30 : Nat) : Int) := by exact_mod_cast h
    rw [Int.natCast_pow] at h2
    exact h2
theorem clampV_in {x l h : Int} (hl : l ≤ h) : l ≤ clampV x l h ∧ clampV x l h ≤ h := by unfold clampV; split <;> (try split) <;> omega
def fits32 (x : Int) : Bool := decide (-2147483648 ≤ x) && decide (x ≤ 2147483647)
theorem fits32_iff (x : Int) : fits32 x = true ↔ in32 x := by unfold fits32 in32; rw [Bool.and_eq_true, decide_eq_true_eq, decide_eq_true_eq]
theorem parts_t {x n : Int} (hn : 1 ≤ n) : (Int.tmod x n < 0 → x / n = Int.tdiv x n - 1 ∧ x % n = Int.tmod x n + n) ∧ (¬ Int.tmod x n < 0 → x / n = Int.tdiv x n ∧ x % n = Int.tmod x n) := by
  have e := Int.tmod_add_mul_tdiv x n
  have h1 := Int.tmod_lt_of_pos x (show 0 < n by omega)
  have h2 := Int.lt_tmod_of_pos x (show 0 < n by omega)
  constructor
  · intro hr
    exact (Int.ediv_emod_unique (by omega)).mpr ⟨by rw [Int.mul_sub]; omega, by omega, by omega⟩
  · intro hr
    exact (Int.ediv_emod_unique (by omega)).mpr ⟨by omega, by omega, by omega⟩
theorem hi32 (xs : List Int) (h : ∀ x ∈ xs, in32 x) : -(xs.length : Int) ≤ hiS xs ∧ hiS xs ≤ xs.length := by
  induction xs with
  | nil => simp [hiS]
  | cons x xs ih =>
    have hx := h x (List.mem_cons_self ..)
    have := ih (fun y hy => h y (List.mem_cons_of_mem _ hy))
    unfold in32 at hx
    simp only [hiS, List.map_cons, List.sum_cons, List.length_cons] at this ⊢
    omega
/-- the mean of numbers -/
def meanV (xs : List Int) : Int := divV xs.sum xs.length
/-- the sum of numbers, clamped each time -/
def addV (xs : List Int) : Int := xs.foldl (fun n x => clampV (n + x) (-2147483648) 2147483647) 0
theorem clamp32 (x : Int) : in32 (clampV x (-2147483648) 2147483647) := clampV_in (by decide)
theorem add_in (xs : List Int) : in32 (addV xs) := by
  unfold addV
  rcases List.eq_nil_or_concat xs with rfl | ⟨l, x, rfl⟩
  · decide
  · rw [List.concat_eq_append, List.foldl_append]; exact clamp32 _
theorem sum32 (xs : List Int) (h : ∀ x ∈ xs, in32 x) : -2147483648 * (xs.length : Int) ≤ xs.sum ∧ xs.sum ≤ 2147483647 * (xs.length : Int) := by
  induction xs with
  | nil => simp
  | cons x xs ih =>
    have hx := h x (List.mem_cons_self ..)
    have := ih (fun y hy => h y (List.mem_cons_of_mem _ hy))
    unfold in32 at hx
    simp only [List.sum_cons, List.length_cons] at this ⊢
    omega
end Go.Proofs.YtgomeljgbjgbkaaGreatDoor.Aw
namespace Go.Proofs.YtgomeljgbjgbkaaGreatDoor.Aw
open Go.RowKit
attribute [local go_sem_proc] Nat.reduceAdd Nat.reduceMul Nat.reduceSub Nat.reduceEqDiff Nat.reduceLeDiff Nat.reduceBEq Nat.reduceBNe Int.reduceToNat reduceIte reduceCtorEq
attribute [local go_sem] initT SQ so pe he ev lk constS stp stc gdS nth pickS pickD loadS cellsAt okAt fieldAddrS fieldS partS indexAddrS indexS extractS binS binD binI isShift unS convS lenS sliceS bndI bndC mmS mm2 mmD builtS fillS okCells cellsS splS solid aliveL alive okS boxS allocS makeS bsliceS elemsOf dcells stF frzW storeS frzA frzK oneS1 srcR rwsOf hdO appR frz frzT frzS frzL frzO frzH appS srcS appVC killS killT killC killH killO k1 k2 S.has S.hasL St.add St.upd dropH lh cond_or cond_and rw_intC rw_intC0 rw_set rw_app rw_apps rw_rep rw_slice wr64 cond_true cond_false true_and and_true List.map_cons List.map_nil List.length_cons List.length_nil List.drop_succ_cons List.drop_zero List.take_succ_cons List.take_zero List.nil_append List.cons_append List.getD_cons_zero List.getD_cons_succ List.headD_cons List.length_map ite_true ite_false if_true if_false Bool.false_eq_true and_self forall_const List.drop_nil List.take_nil List.append_nil Option.map_some Option.map_none List.mapM_cons List.mapM_nil Option.bind_eq_bind Option.bind_some Option.pure_def knows resL resV oneS freshS freshL cv cvL stpL stcL or_true true_or or_false false_or List.all_cons List.all_nil Bool.and_self Bool.or_self Bool.true_and Bool.and_true Bool.or_false Bool.false_or implies_true flatD allm_nil allm_cons List.getElem?_cons_zero List.getElem?_cons_succ Nd.cs Nd.ds ml mln Option.isSome_some Option.isSome_none eq_self Int.toNat_natCast AP ldOk isLd inL subL crt chg chgS chgP idxs aliveW Option.toList_some Option.toList_none Option.toList RetG Nd.win frzA offK keepH aliveK nkH closedH closedO keysK inH St.upd rowO List.contains_cons List.contains_nil Bool.or_self Option.isNone_none Option.isNone_some Bool.not_true Bool.not_false gcs rowN e0N frzC
attribute [local go_sem] sz2 ag2 ok2 kk2 iu2 zc2 zd2 by2 sz3 ag3 ok3 kk3 iu3 zc3 zd3 by3 sz4 ag4 ok4 bo4 zc4 zd4 by4 sz5 ag5 ok5 kk5 iu5 zc5 zd5 by5 sz9 ag9 ok9 st9 zc9 zd9 by9 sz12 ag12 ok12 kk12 iu12 zc12 zd12 by12 sz15 ag15 ok15 zc15 by15 sz16 ag16 ok16 zc16 by16 sz21 ag21 ok21 kk21 iu21 zc21 zd21 by21 sz22 ag22 ok22 sl22 zc22 zd22 by22 sz23 ag23 ok23 zc23 zd23 pl23 by23 fl23_0 fl23_1 fl23_2 sz24 ag24 ok24 zc24 zd24 pl24 by24 fl24_0 fl24_1 fl24_2 sz26 ag26 ok26 sl26 zc26 zd26 by26 sz27 ag27 ok27 zc27 zd27 pl27 by27 fl27_0 fl27_1 fl27_2 fl27_3 fl27_4 sz28 ag28 ok28 zc28 zd28 pl28 by28 fl28_0 fl28_1 fl28_2 fl28_3 fl28_4 sz29 ag29 ok29 sl29 zc29 zd29 by29 sz32 ag32 ok32 sl32 zc32 zd32 by32 sz33 ag33 ok33 kk33 iu33 zc33 zd33 by33 sz36 ag36 ok36 zc36 zd36 pl36 by36 fl36_0 fl36_1 sz37 ag37 ok37 zc37 zd37 pl37 by37 fl37_0 fl37_1 sz49 ag49 ok49 zc49 zd49 pl49 by49 fl49_0 fl49_1 fl49_2 fl49_3 fl49_4 fl49_5 fl49_6 fl49_7 fl49_8 fl49_9 fl49_10 fl49_11 fl49_12 fl49_13 fl49_14 sz50 ag50 ok50 zc50 zd50 pl50 by50 fl50_0 fl50_1 fl50_2 fl50_3 fl50_4 fl50_5 fl50_6 fl50_7 fl50_8 fl50_9 fl50_10 fl50_11 fl50_12 fl50_13 fl50_14 sz53 ag53 ok53 zc53 by53 sz55 ag55 ok55 zc55 zd55 pl55 by55 fl55_0 fl55_1 fl55_2 sz56 ag56 ok56 zc56 zd56 pl56 by56 fl56_0 fl56_1 fl56_2 sz58 ag58 ok58 zc58 zd58 pl58 by58 fl58_0 fl58_1 fl58_2 fl58_3 sz59 ag59 ok59 zc59 zd59 pl59 by59 fl59_0 fl59_1 fl59_2 fl59_3 sz66 ag66 ok66 zc66 zd66 pl66 by66 fl66_0 fl66_1 fl66_2 sz67 ag67 ok67 zc67 zd67 pl67 by67 fl67_0 fl67_1 fl67_2 sz79 ag79 ok79 zc79 by79 sz80 ag80 ok80 zc80 zd80 pl80 by80 fl80_0 fl80_1 sz81 ag81 ok81 zc81 zd81 pl81 by81 fl81_0 fl81_1 sz105 ag105 ok105 sl105 ar105 zc105 zd105 pl105 by105 sz108 ag108 ok108 sl108 ar108 zc108 zd108 pl108 by108 sz109 ag109 ok109 zc109 by109 sz115 ag115 ok115 zc115 zd115 pl115 by115 fl115_0 fl115_1 sz116 ag116 ok116 zc116 zd116 pl116 by116 fl116_0 fl116_1 sz120 ag120 ok120 zc120 zd120 pl120 by120 fl120_0 fl120_1 sz121 ag121 ok121 sl121 ar121 zc121 zd121 pl121 by121 sz124 ag124 ok124 kk124 iu124 zc124 zd124 by124 sz133 ag133 ok133 kk133 iu133 zc133 zd133 by133 sz137 ag137 ok137 zc137 by137
/-! sat and round, over words -/
theorem newK_two {k j : Nat} {a a' b b' : Obj'} : newK [(k, a), (j, b)] [(k, a'), (j, b')] = fun _ => false := by
  funext i
  simp only [newK, lh]
  by_cases e : k = i <;> by_cases e2 : j = i <;> simp [e, e2]
theorem ends_c {T : World → Prop} (Tm : TP T) : Ct Go.Proofs.Tryz.prog T 128 [.d (.i .i64 32)] true (fun r => r = .tup [.d (.i .i64 (-2147483648)), .d (.i .i64 2147483647), .d (.b true)]) := by
  refine Ct_of Tm Go.Proofs.Tryz.func128 rfl rfl Go.Proofs.Tryz.ntmps128 (by simp) (rs := [.tmp 2, .tmp 3, .tmp 4]) rfl fun E hP hn hT => ?_
  (repeat (first | (refine TR.imp ?_; intro K hK; simp only [go_sem, hP, hn]; (repeat refine vc ?_); refine hK _ ?_; clear K hK) | refine TS.imp ?_))
  refine Tr.cond rfl (fun hb => ?_) (fun hb => ?_)
  · exact absurd hb (by decide)
  have e1 : wrap64 (64 - 32) = 32 := w64 (by decide) (by decide)
  (repeat refine TS.imp ?_)
  refine TR.imp ?_; intro K hK; simp only [e1, go_sem, hP, hn]; (repeat refine vc ?_); refine hK _ ?_; clear K hK
  (repeat (first | (refine TR.imp ?_; intro K hK; simp only [go_sem, hP, hn]; (repeat refine vc ?_); refine hK _ ?_; clear K hK) | refine TS.imp ?_))
  simp only [RetQ, go_sem]
  rw [show (-9223372036854775808 : Int).fdiv (2 ^ min 32 64) = -2147483648 by decide, show xorV .i64 (-2147483648) = 2147483647 from xor_neg _ (by decide) (by decide)]
theorem Clamp_c {T : World → Prop} (Tm : TP T) (x l h : Int) : Ct Go.Proofs.Tryz.prog T 73 [.d (.i .i64 x), .d (.i .i64 l), .d (.i .i64 h)] true (fun r => r = .d (.i .i64 (clampV x l h))) := by
  refine Ct_of Tm Go.Proofs.Tryz.func73 rfl rfl Go.Proofs.Tryz.ntmps73 (by simp) (rs := [.tmp 6]) rfl fun E hP hn hT => ?_
  (repeat (first | (refine TR.imp ?_; intro K hK; simp only [go_sem, hP, hn]; (repeat refine vc ?_); refine hK _ ?_; clear K hK) | refine TS.imp ?_))
  unfold clampV
  refine Tr.cond rfl (fun hb => ?_) (fun hb => ?_)
  · have h1 : x < l := by simpa using hb
    (repeat (first | (refine TR.imp ?_; intro K hK; simp only [go_sem, hP, hn]; (repeat refine vc ?_); refine hK _ ?_; clear K hK) | refine TS.imp ?_))
    simp only [RetQ, go_sem]
    simp [h1]
  · have h1 : ¬ x < l := by simpa using hb
    (repeat (first | (refine TR.imp ?_; intro K hK; simp only [go_sem, hP, hn]; (repeat refine vc ?_); refine hK _ ?_; clear K hK) | refine TS.imp ?_))
    refine Tr.cond rfl (fun hc => ?_) (fun hc => ?_)
    · have h2 : h < x := by simpa using hc
      (repeat (first | (refine TR.imp ?_; intro K hK; simp only [go_sem, hP, hn]; (repeat refine vc ?_); refine hK _ ?_; clear K hK) | refine TS.imp ?_))
      simp only [RetQ, go_sem]
      simp [h1, h2]
    · have h2 : ¬ h < x := by simpa using hc
      (repeat (first | (refine TR.imp ?_; intro K hK; simp only [go_sem, hP, hn]; (repeat refine vc ?_); refine hK _ ?_; clear K hK) | refine TS.imp ?_))
      simp only [RetQ, go_sem]
      simp [h1, h2]
theorem Fits_c {T : World → Prop} (Tm : TP T) (x : Int) : Ct Go.Proofs.Tryz.prog T 108 [.d (.i .i64 x), .d (.i .i64 32)] true (fun r => r = .d (.b (fits32 x))) := by
  refine Ct_of Tm Go.Proofs.Tryz.func108 rfl rfl Go.Proofs.Tryz.ntmps108 (by simp) (rs := [.tmp 4]) rfl fun E hP hn hT => ?_
  (repeat refine TS.imp ?_)
  refine TR.imp ?_; intro K hK; simp only [go_sem, hP, hn]; (repeat refine vc ?_); refine hK _ ?_; clear K hK
  (repeat refine TS.imp ?_)
  refine TR.imp ?_; intro K hK; simp only [go_sem, hP, hn]; (repeat refine vc ?_); refine c1 (by rw [hP, hT]; exact ends_c Tm) rfl rfl rfl trivial (by simp only [go_sem, hP, hn]; try trivial) (by simp only [go_sem, hP, hn]; try rfl) (by rw [hn]; decide) (by rfl) ?_; simp only [go_sem, hP, hn]; (repeat refine vc ?_); refine hK _ ?_; clear K hK
  (repeat (first | (refine TR.imp ?_; intro K hK; simp only [go_sem, hP, hn]; (repeat refine vc ?_); refine hK _ ?_; clear K hK) | refine TS.imp ?_))
  simp only [RetQ, go_sem]
  rfl
theorem Sat_c {T : World → Prop} (Tm : TP T) (x : Int) : Ct Go.Proofs.Tryz.prog T 113 [.d (.i .i64 x), .d (.i .i64 32)] true (fun r => r = .d (.i .i64 (clampV x (-2147483648) 2147483647))) := by
  refine Ct_of Tm Go.Proofs.Tryz.func113 rfl rfl Go.Proofs.Tryz.ntmps113 (by simp) (rs := [.tmp 4]) rfl fun E hP hn hT => ?_
  (repeat refine TS.imp ?_)
  refine TR.imp ?_; intro K hK; simp only [go_sem, hP, hn]; (repeat refine vc ?_); refine hK _ ?_; clear K hK
  (repeat refine TS.imp ?_)
  refine TR.imp ?_; intro K hK; simp only [go_sem, hP, hn]; (repeat refine vc ?_); refine c1 (by rw [hP, hT]; exact ends_c Tm) rfl rfl rfl trivial (by simp only [go_sem, hP, hn]; try trivial) (by simp only [go_sem, hP, hn]; try rfl) (by rw [hn]; decide) (by rfl) ?_; simp only [go_sem, hP, hn]; (repeat refine vc ?_); refine hK _ ?_; clear K hK
  (repeat refine TS.imp ?_)
  refine TR.imp ?_; intro K hK; simp only [go_sem, hP, hn]; (repeat refine vc ?_); refine hK _ ?_; clear K hK
  refine Tr.cond rfl (fun hb => ?_) (fun hb => ?_)
  · exact absurd hb (by decide)
  (repeat refine TS.imp ?_)
  refine TR.imp ?_; intro K hK; simp only [go_sem, hP, hn]; (repeat refine vc ?_); refine c1 (by rw [hP, hT]; exact Clamp_c Tm x (-2147483648) 2147483647) rfl rfl rfl trivial (by simp only [go_sem, hP, hn]; try trivial) (by simp only [go_sem, hP, hn]; try rfl) (by rw [hn]; decide) (by rfl) ?_; simp only [go_sem, hP, hn]; (repeat refine vc ?_); refine hK _ ?_; clear K hK
  (repeat refine TS.imp ?_)
  simp only [RetQ, go_sem]
theorem Parts_c {T : World → Prop} (Tm : TP T) (x n : Int) (h0 : -4611686018427387904 ≤ x) (h1 : x ≤ 4611686018427387904) (n0 : 1 ≤ n) (n1 : n ≤ 4611686018427387904) : Ct Go.Proofs.Tryz.prog T 129 [.d (.i .i64 x), .d (.i .i64 n)] true (fun r => r = .tup [.d (.i .i64 (x / n)), .d (.i .i64 (x % n))]) := by
  refine Ct_of Tm Go.Proofs.Tryz.func129 rfl rfl Go.Proofs.Tryz.ntmps129 (by simp) (rs := [.tmp 4, .tmp 5]) rfl fun E hP hn hT => ?_
  (repeat (first | (refine TR.imp ?_; intro K hK; simp only [go_sem, hP, hn]; (repeat refine vc ?_); refine hK _ ?_; clear K hK) | refine TS.imp ?_))
  refine Tr.cond rfl (fun hb => ?_) (fun hb => ?_)
  · exact absurd (by simpa using hb) (show ¬ n < 1 by omega)
  have hb2 := ediv_bounds (x := x) n0
  have e := Int.tmod_add_mul_tdiv x n
  have t1 := Int.tmod_lt_of_pos x (show 0 < n by omega)
  have t2 := Int.lt_tmod_of_pos x (show 0 < n by omega)
  have hp := parts_t (x := x) n0
  have hnz : n ≠ 0 := by omega
  (repeat (first | (refine TR.imp ?_; intro K hK; simp only [go_sem, hP, hn]; (repeat refine vc ?_); refine hK _ ?_; clear K hK) | refine TS.imp ?_))
  refine d5 (.p true 0 (.p true 1 (.p true 2 (.p true 3 (.p true 4 (.p true 5 (.p true 6 (.p true 7 .nil)))))))) [] (by rw [hP]; kernel_rfl) (by kernel_rfl) (by simp only [go_sem, hP, hn]; try simp) (by exact fun _ _ h => h) ?_; intro K hK; simp only [go_sem, hP, hn]; (repeat refine vc ?_); refine hK _ ?_; clear K hK
  have hq : wrap64 (x.tdiv n) = x.tdiv n := by
    by_cases h : x.tmod n < 0
    · have := hp.1 h; rw [w64] <;> omega
    · have := hp.2 h; rw [w64] <;> omega
  rw [hq]
  (repeat (first | (refine TR.imp ?_; intro K hK; simp only [go_sem, hP, hn]; (repeat refine vc ?_); refine hK _ ?_; clear K hK) | refine TS.imp ?_))
  refine Tr.cond rfl (fun hr => ?_) (fun hr => ?_)
  · have hr1 : x.tmod n < 0 := by simpa using hr
    have hu := hp.1 hr1
    (repeat (first | (refine TR.imp ?_; intro K hK; simp only [go_sem, hP, hn]; (repeat refine vc ?_); refine hK _ ?_; clear K hK) | refine TS.imp ?_))
    rw [w64 (x := x.tdiv n - 1) (by omega) (by omega), w64 (x := x.tmod n + n) (by omega) (by omega)]
    simp only [RetQ, go_sem]
    rw [hu.1, hu.2]
  · have hr1 : ¬ x.tmod n < 0 := by simpa using hr
    have hu := hp.2 hr1
    (repeat (first | (refine TR.imp ?_; intro K hK; simp only [go_sem, hP, hn]; (repeat refine vc ?_); refine hK _ ?_; clear K hK) | refine TS.imp ?_))
    simp only [RetQ, go_sem]
    rw [hu.1, hu.2]
theorem Up_c {T : World → Prop} (Tm : TP T) (n r : Int) (n0 : 1 ≤ n) (n1 : n ≤ 4611686018427387904) (r0 : 0 ≤ r) (r1 : r < n) : Cg Go.Proofs.Tryz.prog T 130 [(1000, .box 3 [.d (.i .i64 n)]), (1001, .box 3 [.d (.i .i64 r)])] [.ptr 1000 0, .ptr 1001 0] (fun v H => H = [(1000, .box 3 [.d (.i .i64 n)]), (1001, .box 3 [.d (.i .i64 r)])] ∧ v = .d (.b (decide (n ≤ 2 * r)))) := by
  refine Cg_of [1000, 1001] Tm Go.Proofs.Tryz.func130 rfl rfl Go.Proofs.Tryz.ntmps130 (by simp) rfl (rs := [.tmp 2]) rfl fun E hP hn hT hpn => ?_
  (repeat (first | (refine TR.imp ?_; intro K hK; simp only [go_sem, hP, hn]; (repeat refine vc ?_); refine hK _ ?_; clear K hK) | refine TS.imp ?_))
  simp only [RetG, go_sem]; (repeat with_reducible refine vc ?_)
  rw [w64 (x := n - r) (by omega) (by omega), show (decide (0 < n) && decide (n - r ≤ r)) = decide (n ≤ 2 * r) by rw [Bool.eq_iff_iff]; simp only [Bool.and_eq_true, decide_eq_true_eq]; omega]
theorem Div_c {T : World → Prop} (Tm : TP T) (x n : Int) (h0 : -4611686018427387904 ≤ x) (h1 : x ≤ 4611686018427387904) (n0 : 1 ≤ n) (n1 : n ≤ 4611686018427387904) : Cg Go.Proofs.Tryz.prog T 111 [] [.d (.i .i64 x), .d (.i .i64 n)] (fun r H => H = [] ∧ r = .d (.i .i64 (divV x n))) := by
  have hb2 := ediv_bounds (x := x) n0
  have m1 := Int.emod_nonneg x (show n ≠ 0 by omega)
  have m2 := Int.emod_lt_of_pos x (show 0 < n by omega)
  refine Cg_of [] Tm Go.Proofs.Tryz.func111 rfl rfl Go.Proofs.Tryz.ntmps111 (by simp) rfl (rs := [.tmp 4]) rfl fun E hP hn hT hpn => ?_
  (repeat refine TS.imp ?_)
  refine TR.imp ?_; intro K hK; simp only [go_sem, hP, hn]; (repeat refine vc ?_); refine hK _ ?_; clear K hK
  (repeat refine TS.imp ?_)
  refine TR.imp ?_; intro K hK; simp only [go_sem, hP, hn]; (repeat refine vc ?_); refine c1 (by rw [hP, hT]; exact Parts_c Tm x n h0 h1 n0 n1) rfl rfl rfl trivial (by simp only [go_sem, hP, hn]; try trivial) (by simp only [go_sem, hP, hn]; try rfl) (by rw [hn]; decide) (by rfl) ?_; simp only [go_sem, hP, hn]; (repeat refine vc ?_); refine hK _ ?_; clear K hK
  (repeat refine TS.imp ?_)
  refine TR.imp ?_; intro K hK; simp only [go_sem, hP, hn]; (repeat refine vc ?_); refine hK _ ?_; clear K hK
  refine Tr.le (Le.keep [4, 5, 7]) ?_; simp only [List.map_cons, List.map_nil, lk, Nat.reduceEqDiff, reduceIte]
  refine Tr.le (Le.ren 3 1000 (by rw [hpn] <;> rfl) rfl rfl) ?_; simp only [renT, renH, renO, renS, renL, rn, go_sem, hP, hn]
  refine Tr.le (Le.ren 6 1001 (by rw [hpn] <;> rfl) rfl rfl) ?_; simp only [renT, renH, renO, renS, renL, rn, go_sem, hP, hn]
  (repeat refine TS.imp ?_)
  refine TR.imp ?_; intro K hK; simp only [go_sem, hP, hn]
  (repeat refine vc ?_)
  refine CallN_cs (Hi := [(1000, .box 3 [.d (.i .i64 n)]), (1001, .box 3 [.d (.i .i64 (x % n))])] ) (by rw [hP, hT]; exact  Up_c Tm n (x % n) n0 n1 m1 m2) rfl rfl rfl trivial (by simp only [go_sem, hP, hn]; try trivial) (by simp only [go_sem, hP, hn]; try rfl) (by simp only [inH, go_sem, hP, hn]; try simp) (by rw [hn]; decide) ?_; simp only [go_sem, hP, hn]; (repeat refine vc ?_)
  refine hK _ ?_; clear K hK
  unfold divV
  rw [if_neg (show ¬ n < 1 by omega), div_split n0]
  refine Tr.cond rfl (fun hb => ?_) (fun hb => ?_)
  · have hc : n ≤ 2 * (x % n) := by simpa using hb
    (repeat (first | (refine TR.imp ?_; intro K hK; simp only [go_sem, hP, hn]; (repeat refine vc ?_); refine hK _ ?_; clear K hK) | refine TS.imp ?_))
    rw [w64 (x := x / n + 1) (by omega) (by omega)]
    simp only [RetG, go_sem]; (repeat with_reducible refine vc ?_)
    rw [if_pos hc]
  · have hc : ¬ n ≤ 2 * (x % n) := by simpa using hb
    (repeat (first | (refine TR.imp ?_; intro K hK; simp only [go_sem, hP, hn]; (repeat refine vc ?_); refine hK _ ?_; clear K hK) | refine TS.imp ?_))
    simp only [RetG, go_sem]; (repeat with_reducible refine vc ?_)
    rw [if_neg hc, Int.add_zero]
theorem Half_c {T : World → Prop} (Tm : TP T) (p k : Int) (h0 : -4611686018427387904 ≤ p) (h1 : p ≤ 4611686018427387904) (k0 : 0 ≤ k) (k1 : k ≤ 30) : Cg Go.Proofs.Tryz.prog T 115 [] [.d (.i .i64 p), .d (.i .i64 k)] (fun r H => H = [] ∧ r = .d (.i .i64 (halfV p k))) := by
  have hp := pow_two_le k0 k1
  have hs : wrap64 (1 * 2 ^ min k.toNat 64) = 2 ^ k.toNat := by
    have := shl_one ⟨k.toNat, by omega⟩
    rwa [Int.toNat_natCast] at this
  refine Cg_of [] Tm Go.Proofs.Tryz.func115 rfl rfl Go.Proofs.Tryz.ntmps115 (by simp) rfl (rs := [.tmp 4]) rfl fun E hP hn hT hpn => ?_
  (repeat (first | (refine TR.imp ?_; intro K hK; simp only [go_sem, hP, hn]; (repeat refine vc ?_); refine hK _ ?_; clear K hK) | refine TS.imp ?_))
  refine Tr.cond rfl (fun hb => ?_) (fun hb => ?_)
  · exfalso; simp at hb; omega
  (repeat refine TS.imp ?_)
  refine TR.imp ?_; intro K hK; simp only [hs, go_sem, hP, hn]
  (repeat refine vc ?_)
  refine CallN_cs (Hi := [] ) (by rw [hP, hT]; exact  Div_c Tm p (2 ^ k.toNat) h0 h1 hp.1 (by omega)) rfl rfl rfl trivial (by simp only [go_sem, hP, hn]; try trivial) (by simp only [go_sem, hP, hn]; try rfl) (by simp only [inH, go_sem, hP, hn]; try simp) (by rw [hn]; decide) ?_; simp only [go_sem, hP, hn]; (repeat refine vc ?_)
  refine hK _ ?_; clear K hK
  (repeat (first | (refine TR.imp ?_; intro K hK; simp only [go_sem, hP, hn]; (repeat refine vc ?_); refine hK _ ?_; clear K hK) | refine TS.imp ?_))
  simp only [RetG, go_sem]; (repeat with_reducible refine vc ?_)
  unfold halfV
  rw [if_pos (by omega)]
theorem Mul_c {T : World → Prop} (Tm : TP T) (x m : Int) (hx : in32 x) (m0 : 0 ≤ m) (m1 : m ≤ 32767) : Ct Go.Proofs.Tryz.prog T 114 [.d (.i .i64 x), .d (.i .i64 m)] true (fun r => r = .tup [.d (.i .i64 (x * m)), .d (.b true)]) := by
  obtain ⟨hx0, hx1⟩ := hx
  have hm : -2147483648 * 32767 ≤ x * m ∧ x * m ≤ 2147483647 * 32767 := by
    constructor
    · have a1 : -2147483648 * m ≤ x * m := Int.mul_le_mul_of_nonneg_right hx0 m0
      omega
    · have a1 : x * m ≤ 2147483647 * m := Int.mul_le_mul_of_nonneg_right hx1 m0
      omega
  refine Ct_of Tm Go.Proofs.Tryz.func114 rfl rfl Go.Proofs.Tryz.ntmps114 (by simp) (rs := [.tmp 4, .tmp 5]) rfl fun E hP hn hT => ?_
  (repeat (first | (refine TR.imp ?_; intro K hK; simp only [go_sem, hP, hn]; (repeat refine vc ?_); refine hK _ ?_; clear K hK) | refine TS.imp ?_))
  refine Tr.cond rfl (fun hb => ?_) (fun hb => ?_)
  · have hz : x * m = 0 := by
      simp at hb
      rcases hb with h | h <;> simp [h]
    (repeat (first | (refine TR.imp ?_; intro K hK; simp only [go_sem, hP, hn]; (repeat refine vc ?_); refine hK _ ?_; clear K hK) | refine TS.imp ?_))
    simp only [RetQ, go_sem]
    rw [hz]
  · have hz : x ≠ 0 ∧ m ≠ 0 := by
      simp at hb; exact hb
    obtain ⟨hz1, hz2⟩ := hz
    have hw : wrap64 (x * m) = x * m := w64 (by omega) (by omega)
    have hq : Int.tdiv (x * m) m = x := Int.mul_tdiv_cancel x hz2
    (repeat refine TS.imp ?_)
    refine TR.imp ?_; intro K hK; simp only [hw, go_sem, hP, hn]; (repeat refine vc ?_); refine hK _ ?_; clear K hK
    (repeat refine TS.imp ?_)
    refine TR.imp ?_; intro K hK; simp only [hw, hq, go_sem, hP, hn]; (repeat refine vc ?_); refine hK _ ?_; clear K hK
    rw [w64 (x := x) (by omega) (by omega)]
    refine Tr.cond rfl (fun hc => ?_) (fun hc => ?_)
    · exfalso; simp at hc; omega
    (repeat (first | (refine TR.imp ?_; intro K hK; simp only [go_sem, hP, hn]; (repeat refine vc ?_); refine hK _ ?_; clear K hK) | refine TS.imp ?_))
    simp only [RetQ, go_sem]
theorem Scale_c {T : World → Prop} (Tm : TP T) (x m s : Int) (hx : in32 x) : Cg Go.Proofs.Tryz.prog T 75 [] [.d (.i .i64 x), .d (.i .i64 m), .d (.i .i64 s)] (fun r H => H = [] ∧ r = .d (.i .i64 (scaleV x m s))) := by
  refine Cg_of [] Tm Go.Proofs.Tryz.func75 rfl rfl Go.Proofs.Tryz.ntmps75 (by simp) rfl (rs := [.tmp 6]) rfl fun E hP hn hT hpn => ?_
  (repeat (first | (refine TR.imp ?_; intro K hK; simp only [go_sem, hP, hn]; (repeat refine vc ?_); refine hK _ ?_; clear K hK) | refine TS.imp ?_))
  unfold scaleV
  refine Tr.cond rfl (fun hb => ?_) (fun hb => ?_)
  · have h : ¬ (0 ≤ m ∧ m ≤ 32767 ∧ 0 ≤ s ∧ s ≤ 30) := by
      intro h; simp [h] at hb
    (repeat (first | (refine TR.imp ?_; intro K hK; simp only [go_sem, hP, hn]; (repeat refine vc ?_); refine hK _ ?_; clear K hK) | refine TS.imp ?_))
    simp only [RetG, go_sem]; (repeat with_reducible refine vc ?_)
    rw [if_neg h]
  · have h : 0 ≤ m ∧ m ≤ 32767 ∧ 0 ≤ s ∧ s ≤ 30 := by
      simp at hb; omega
    clear hb
    have hm : -2147483648 * 32767 ≤ x * m ∧ x * m ≤ 2147483647 * 32767 := by
      constructor
      · have a1 : -2147483648 * m ≤ x * m := Int.mul_le_mul_of_nonneg_right hx.1 h.1
        omega
      · have a1 : x * m ≤ 2147483647 * m := Int.mul_le_mul_of_nonneg_right hx.2 h.1
        omega
    rw [if_pos h]
    (repeat refine TS.imp ?_)
    refine TR.imp ?_; intro K hK; simp only [go_sem, hP, hn]; (repeat refine vc ?_); refine c1 (by rw [hP, hT]; exact Mul_c Tm x m hx h.1 h.2.1) rfl rfl rfl trivial (by simp only [go_sem, hP, hn]; try trivial) (by simp only [go_sem, hP, hn]; try rfl) (by rw [hn]; decide) (by rfl) ?_; simp only [go_sem, hP, hn]; (repeat refine vc ?_); refine hK _ ?_; clear K hK
    generalize x * m = p at hm ⊢
    (repeat refine TS.imp ?_)
    refine TR.imp ?_; intro K hK; simp only [go_sem, hP, hn]; (repeat refine vc ?_); refine hK _ ?_; clear K hK
    refine Tr.cond rfl (fun hb => ?_) (fun hb => ?_)
    · exact absurd hb (by simp)
    (repeat refine TS.imp ?_)
    refine TR.imp ?_; intro K hK; simp only [go_sem, hP, hn]; (repeat refine vc ?_); refine hK _ ?_; clear K hK
    refine Tr.cond rfl (fun hc => ?_) (fun hc => ?_)
    · exact absurd hc (by simp)
    (repeat refine TS.imp ?_)
    refine TR.imp ?_; intro K hK; simp only [go_sem, hP, hn]
    (repeat refine vc ?_)
    refine CallN_cs (Hi := [] ) (by rw [hP, hT]; exact  Half_c Tm p s (by omega) (by omega) h.2.2.1 h.2.2.2) rfl rfl rfl trivial (by simp only [go_sem, hP, hn]; try trivial) (by simp only [go_sem, hP, hn]; try rfl) (by simp only [inH, go_sem, hP, hn]; try simp) (by rw [hn]; decide) ?_; simp only [go_sem, hP, hn]; (repeat refine vc ?_)
    refine c1 (by rw [hP, hT]; exact Sat_c Tm (halfV p s)) rfl rfl rfl trivial (by simp only [go_sem, hP, hn]; try trivial) (by simp only [go_sem, hP, hn]; try rfl) (by rw [hn]; decide) (by rfl) ?_; simp only [go_sem, hP, hn]; (repeat refine vc ?_)
    refine hK _ ?_; clear K hK
    (repeat (first | (refine TR.imp ?_; intro K hK; simp only [go_sem, hP, hn]; (repeat refine vc ?_); refine hK _ ?_; clear K hK) | refine TS.imp ?_))
    simp only [RetG, go_sem]; (repeat with_reducible refine vc ?_)
theorem fd32 (y : Int) : y.fdiv (2 ^ min 32 64) = y / 4294967296 := by
  rw [show (2 : Int) ^ min 32 64 = 4294967296 by decide]
  exact Int.fdiv_eq_ediv_of_nonneg _ (by decide)
theorem am32 (y : Int) : Go.bits .and .i64 y 4294967295 = y % 4294967296 := and_mask y 32 (by decide)
theorem Sum_c {T : World → Prop} (Tm : TP T) (xs : List Int) (hl : xs.length ≤ 65536) (hx : ∀ x ∈ xs, in32 x) : Ct Go.Proofs.Tryz.prog T 110 [.d (.row [.i .i64 0] (xs.map intC))] true (fun r => r = .tup [.d (.i .i64 xs.sum), .d (.b true)]) := by
  refine Ct_of Tm Go.Proofs.Tryz.func110 rfl rfl Go.Proofs.Tryz.ntmps110 (by simp) (rs := [.tmp 2, .tmp 3]) rfl fun E hP hn hT => ?_
  (repeat (first | (refine TR.imp ?_; intro K hK; simp only [go_sem, hP, hn]; (repeat refine vc ?_); refine hK _ ?_; clear K hK) | refine TS.imp ?_))
  refine Tr.le (Le.keep [0, 2, 3, 4, 5, 8, 9, 10]) ?_; simp only [List.map_cons, List.map_nil, lk, Nat.reduceEqDiff, reduceIte]
  refine Tr.loop (fun m s => ∃ (i : Int), s = ⟨[(8, .d (.row [.i .i64 0] (xs.map intC))), (9, .d (.i .i64 xs.length)), (10, .d (.i .i64 i)), (4, .d (.i .i64 (hiS (xs.take i.toNat)))), (5, .d (.i .i64 (loS (xs.take i.toNat))))], []⟩ ∧ 0 ≤ i ∧ i + m = xs.length) xs.length ⟨_, (Le.mv (by simp only [go_sem, hP, hn]; first | done | (simp; done) | (simp [intC]; done) | (repeat (first | rfl | constructor))) (by simp only [go_sem, hP, hn]; first | done | (simp; done) | (simp [intC]; done) | (repeat (first | rfl | constructor)))), 0, rfl, by omega, by omega⟩ ?_
  rintro m s ⟨i, rfl, hi, him⟩
  (repeat (first | (refine TR.imp ?_; intro K hK; simp only [go_sem, hP, hn]; (repeat refine vc ?_); refine hK _ ?_; clear K hK) | refine TS.imp ?_))
  refine Tr.cond rfl (fun hb => ?_) (fun hb => ?_)
  · have hi1 : i < xs.length := by simpa using hb
    have hk : i.toNat < xs.length := by omega
    have h1 := hi_take xs i.toNat hk
    have h2 := lo_take xs i.toNat hk
    have h3 := hi32 (xs.take i.toNat) (fun x h => hx x (List.mem_of_mem_take h))
    have h4 := lo_range (xs.take i.toNat)
    have hlt : (xs.take i.toNat).length ≤ 65536 := by rw [List.length_take]; omega
    have hrd : rd xs i = xs[i.toNat] := by unfold rd; simp [hk]
    have hxi := hx xs[i.toNat] (List.getElem_mem hk)
    unfold in32 at hxi
    (repeat (first | (refine TR.imp ?_; intro K hK; simp only [go_sem, hP, hn]; (repeat refine vc ?_); refine hK _ ?_; clear K hK) | refine TS.imp ?_))
    rw [hrd, fd32, am32, w64 (x := i + 1) (by omega) (by omega), w64 (x := hiS (xs.take i.toNat) + xs[i.toNat] / 4294967296) (by omega) (by omega), w64 (x := loS (xs.take i.toNat) + xs[i.toNat] % 4294967296) (by omega) (by omega), ← h1, ← h2]
    refine ⟨m - 1, _, by omega, ?_, i + 1, rfl, by omega, by omega⟩
    rw [show (i + 1).toNat = i.toNat + 1 by omega]
    exact (Le.mv (by simp only [go_sem, hP, hn]; first | done | (simp; done) | (simp [intC]; done) | (repeat (first | rfl | constructor))) (by simp only [go_sem, hP, hn]; first | done | (simp; done) | (simp [intC]; done) | (repeat (first | rfl | constructor))))
  · have hie : i = xs.length := by have := of_decide_eq_false hb; omega
    subst hie
    rw [Int.toNat_natCast, List.take_length]
    have h3 := hi32 xs hx
    have h4 := lo_range xs
    have h5 := hi_lo xs
    (repeat refine TS.imp ?_)
    refine TR.imp ?_; intro K hK; simp only [go_sem, hP, hn]; (repeat refine vc ?_); refine hK _ ?_; clear K hK
    (repeat refine TS.imp ?_)
    rw [fd32, w64 (x := hiS xs + loS xs / 4294967296) (by omega) (by omega)]
    refine TR.imp ?_; intro K hK; simp only [go_sem, hP, hn]; (repeat refine vc ?_); refine c1 (by rw [hP, hT]; exact Fits_c Tm (hiS xs + loS xs / 4294967296)) rfl rfl rfl trivial (by simp only [go_sem, hP, hn]; try trivial) (by simp only [go_sem, hP, hn]; try rfl) (by rw [hn]; decide) (by rfl) ?_; simp only [go_sem, hP, hn]; (repeat refine vc ?_); refine hK _ ?_; clear K hK
    (repeat refine TS.imp ?_)
    refine Tr.cond rfl (fun hc => ?_) (fun hc => ?_)
    · exfalso
      have : fits32 (hiS xs + loS xs / 4294967296) = true := (fits32_iff _).2 (by unfold in32; omega)
      rw [this] at hc
      exact absurd hc (by simp)
    (repeat (first | (refine TR.imp ?_; intro K hK; simp only [go_sem, hP, hn]; (repeat refine vc ?_); refine hK _ ?_; clear K hK) | refine TS.imp ?_))
    simp only [RetQ, go_sem]
    rw [am32, show (hiS xs + loS xs / 4294967296) * 2 ^ min 32 64 = (hiS xs + loS xs / 4294967296) * 4294967296 by rw [show (2 : Int) ^ min 32 64 = 4294967296 by decide], w64 (x := (hiS xs + loS xs / 4294967296) * 4294967296) (by omega) (by omega), or_join _ _ (by omega) (by omega) (by omega) (by omega), show (hiS xs + loS xs / 4294967296) * 4294967296 + loS xs % 4294967296 = xs.sum by omega]
theorem Mean_c {T : World → Prop} (Tm : TP T) (xs : List Int) (l0 : 1 ≤ xs.length) (hl : xs.length ≤ 65536) (hx : ∀ x ∈ xs, in32 x) : Cg Go.Proofs.Tryz.prog T 69 [] [.d (.row [.i .i64 0] (xs.map intC))] (fun r H => H = [] ∧ r = .d (.i .i64 (meanV xs))) := by
  have hs := sum32 xs hx
  refine Cg_of [] Tm Go.Proofs.Tryz.func69 rfl rfl Go.Proofs.Tryz.ntmps69 (by simp) rfl (rs := [.tmp 2]) rfl fun E hP hn hT hpn => ?_
  (repeat refine TS.imp ?_)
  refine TR.imp ?_; intro K hK; simp only [go_sem, hP, hn]; (repeat refine vc ?_); refine hK _ ?_; clear K hK
  (repeat refine TS.imp ?_)
  refine TR.imp ?_; intro K hK; simp only [go_sem, hP, hn]; (repeat refine vc ?_); refine c1 (by rw [hP, hT]; exact Sum_c Tm xs hl hx) rfl rfl rfl trivial (by simp only [go_sem, hP, hn]; try trivial) (by simp only [go_sem, hP, hn]; try rfl) (by rw [hn]; decide) (by rfl) ?_; simp only [go_sem, hP, hn]; (repeat refine vc ?_); refine hK _ ?_; clear K hK
  (repeat refine TS.imp ?_)
  refine TR.imp ?_; intro K hK; simp only [go_sem, hP, hn]; (repeat refine vc ?_); refine hK _ ?_; clear K hK
  refine Tr.cond rfl (fun hb => ?_) (fun hb => ?_)
  · exact absurd hb (by simp)
  (repeat refine TS.imp ?_)
  refine TR.imp ?_; intro K hK; simp only [go_sem, hP, hn]
  (repeat refine vc ?_)
  refine CallN_cs (Hi := [] ) (by rw [hP, hT]; exact  Div_c Tm xs.sum xs.length (by omega) (by omega) (by omega) (by omega)) rfl rfl rfl trivial (by simp only [go_sem, hP, hn]; try trivial) (by simp only [go_sem, hP, hn]; try rfl) (by simp only [inH, go_sem, hP, hn]; try simp) (by rw [hn]; decide) ?_; simp only [go_sem, hP, hn]; (repeat refine vc ?_)
  refine hK _ ?_; clear K hK
  (repeat (first | (refine TR.imp ?_; intro K hK; simp only [go_sem, hP, hn]; (repeat refine vc ?_); refine hK _ ?_; clear K hK) | refine TS.imp ?_))
  simp only [RetG, go_sem]; (repeat with_reducible refine vc ?_)
  rfl
theorem AddF_c {T : World → Prop} (Tm : TP T) (x n : Int) (hx : in32 x) (hn' : in32 n) : Cg Go.Proofs.Tryz.prog T 112 [(1000, .box 3 [.d (.i .i64 n)]), (1001, .box 3 [.d (.i .i64 32)])] [.d (.i .i64 x), .ptr 1000 0, .ptr 1001 0] (fun r H => H = [(1000, .box 3 [.d (.i .i64 (clampV (n + x) (-2147483648) 2147483647))]), (1001, .box 3 [.d (.i .i64 32)])] ∧ r = .tup []) := by
  obtain ⟨hx0, hx1⟩ := hx
  obtain ⟨hn0, hn1⟩ := hn'
  refine Cg_of [1000, 1001] Tm Go.Proofs.Tryz.func112 rfl rfl Go.Proofs.Tryz.ntmps112 (by simp) rfl (rs := []) rfl fun E hP hn hT hpn => ?_
  have e1 : wrap64 (9223372036854775807 - x) = if 0 ≤ x then 9223372036854775807 - x else wrap64 (9223372036854775807 - x) := by
    split
    · exact w64 (by omega) (by omega)
    · rfl
  have e2 : wrap64 (-9223372036854775808 - x) = if x ≤ 0 then -9223372036854775808 - x else wrap64 (-9223372036854775808 - x) := by
    split
    · exact w64 (by omega) (by omega)
    · rfl
  (repeat refine TS.imp ?_)
  refine TR.imp ?_; intro K hK; simp only [go_sem, hP, hn]; (repeat refine vc ?_); refine hK _ ?_; clear K hK
  refine Tr.cond rfl (fun hb => ?_) (fun hb => ?_)
  · exfalso
    simp only [Bool.and_eq_true, decide_eq_true_eq] at hb
    rw [e1, if_pos (by omega)] at hb
    omega
  (repeat refine TS.imp ?_)
  refine TR.imp ?_; intro K hK; simp only [go_sem, hP, hn]; (repeat refine vc ?_); refine hK _ ?_; clear K hK
  refine Tr.cond rfl (fun hc => ?_) (fun hc => ?_)
  · exfalso
    simp only [Bool.and_eq_true, decide_eq_true_eq] at hc
    rw [e2, if_pos (by omega)] at hc
    omega
  (repeat refine TS.imp ?_)
  refine TR.imp ?_; intro K hK; simp only [go_sem, hP, hn]; (repeat refine vc ?_); refine hK _ ?_; clear K hK
  rw [w64 (x := n + x) (by omega) (by omega)]
  (repeat refine TS.imp ?_)
  refine TR.imp ?_; intro K hK; simp only [go_sem, hP, hn]; (repeat refine vc ?_); refine c1 (by rw [hP, hT]; exact Sat_c Tm (n + x)) rfl rfl rfl trivial (by simp only [go_sem, hP, hn]; try trivial) (by simp only [go_sem, hP, hn]; try rfl) (by rw [hn]; decide) (by rfl) ?_; simp only [go_sem, hP, hn]; (repeat refine vc ?_); refine hK _ ?_; clear K hK
  (repeat refine TS.imp ?_)
  simp only [RetG, go_sem]; (repeat with_reducible refine vc ?_)
theorem add_take (xs : List Int) (i : Nat) (h : i < xs.length) : addV (xs.take (i + 1)) = clampV (addV (xs.take i) + xs[i]) (-2147483648) 2147483647 := by
  unfold addV
  rw [List.take_succ_eq_append_getElem h, List.foldl_append]
  rfl
theorem Add_c {T : World → Prop} (Tm : TP T) (xs : List Int) (hl : xs.length ≤ 65536) (hx : ∀ x ∈ xs, in32 x) : Cg Go.Proofs.Tryz.prog T 71 [] [.d (.i .i64 32), .d (.row [.i .i64 0] (xs.map intC))] (fun r H => H = [] ∧ r = .d (.i .i64 (addV xs))) := by
  refine Cg_of [] Tm Go.Proofs.Tryz.func71 rfl rfl Go.Proofs.Tryz.ntmps71 (by simp) rfl (rs := [.tmp 4]) rfl fun E hP hn hT hpn => ?_
  (repeat (first | (refine TR.imp ?_; intro K hK; simp only [go_sem, hP, hn]; (repeat refine vc ?_); refine hK _ ?_; clear K hK) | refine TS.imp ?_))
  refine Tr.le (Le.keep [1, 4, 5, 6, 10, 11, 12]) ?_; simp only [List.map_cons, List.map_nil, lk, Nat.reduceEqDiff, reduceIte]
  refine Tr.le (Le.ren 5 1000 (by rw [hpn] <;> rfl) rfl rfl) ?_; simp only [renT, renH, renO, renS, renL, rn, go_sem, hP, hn]
  refine Tr.le (Le.ren 2 1001 (by rw [hpn] <;> rfl) rfl rfl) ?_; simp only [renT, renH, renO, renS, renL, rn, go_sem, hP, hn]
  refine Tr.loop (fun m s => ∃ (i : Int), s = ⟨[(5, .ptr 1000 0), (6, .fn 112 [.ptr 1000 0, .ptr 1001 0]), (10, .d (.row [.i .i64 0] (xs.map intC))), (11, .d (.i .i64 xs.length)), (12, .d (.i .i64 i))], [(1000, .box 3 [.d (.i .i64 (addV (xs.take i.toNat)))]), (1001, .box 3 [.d (.i .i64 32)])]⟩ ∧ 0 ≤ i ∧ i + m = xs.length) xs.length ⟨_, (Le.mv (by simp only [go_sem, hP, hn]; first | done | (simp; done) | (simp [intC]; done) | (repeat (first | rfl | constructor))) (by simp only [go_sem, hP, hn]; first | done | (simp; done) | (simp [intC]; done) | (repeat (first | rfl | constructor)))), 0, rfl, by omega, by omega⟩ ?_
  rintro m s ⟨i, rfl, hi, him⟩
  (repeat (first | (refine TR.imp ?_; intro K hK; simp only [go_sem, hP, hn]; (repeat refine vc ?_); refine hK _ ?_; clear K hK) | refine TS.imp ?_))
  refine Tr.cond rfl (fun hb => ?_) (fun hb => ?_)
  · have hi1 : i < xs.length := by simpa using hb
    have hk : i.toNat < xs.length := by omega
    have hrd : rd xs i = xs[i.toNat] := by unfold rd; simp [hk]
    have hxi := hx xs[i.toNat] (List.getElem_mem hk)
    (repeat refine TS.imp ?_)
    refine TR.imp ?_; intro K hK; simp only [go_sem, hP, hn]; (repeat refine vc ?_); refine hK _ ?_; clear K hK
    rw [hrd]
    (repeat refine TS.imp ?_)
    refine TR.imp ?_; intro K hK; simp only [go_sem, hP, hn]
    (repeat refine vc ?_)
    refine CallN_cx (Hi := [(1000, .box 3 [.d (.i .i64 (addV (xs.take i.toNat)))]), (1001, .box 3 [.d (.i .i64 32)])] ) (by rw [hP, hT]; exact  AddF_c Tm xs[i.toNat] (addV (xs.take i.toNat)) hxi (add_in _) ) rfl rfl rfl trivial (by simp only [go_sem, hP, hn]; try trivial) (by simp only [go_sem, hP, hn]; try rfl) (by simp only [inH, go_sem, hP, hn]; try simp) (by rw [hn]; decide) (fun r Ho hr => ?_); obtain  ⟨rfl, rfl⟩ := hr; refine ⟨fun k hk => (by rw [newK_two] at hk; cases hk), ?_⟩; simp only [cgS, newK, touK, go_sem, hP, hn]; (repeat refine vc ?_)
    refine hK _ ?_; clear K hK
    rw [← add_take xs i.toNat hk]
    (repeat (first | (refine TR.imp ?_; intro K hK; simp only [go_sem, hP, hn]; (repeat refine vc ?_); refine hK _ ?_; clear K hK) | refine TS.imp ?_))
    rw [w64 (x := i + 1) (by omega) (by omega)]
    refine ⟨m - 1, _, by omega, ?_, i + 1, rfl, by omega, by omega⟩
    rw [show (i + 1).toNat = i.toNat + 1 by omega]
    exact (Le.mv (by simp only [go_sem, hP, hn]; first | done | (simp; done) | (simp [intC]; done) | (repeat (first | rfl | constructor))) (by simp only [go_sem, hP, hn]; first | done | (simp; done) | (simp [intC]; done) | (repeat (first | rfl | constructor))))
  · have hie : i = xs.length := by have := of_decide_eq_false hb; omega
    subst hie
    rw [Int.toNat_natCast, List.take_length]
    (repeat (first | (refine TR.imp ?_; intro K hK; simp only [go_sem, hP, hn]; (repeat refine vc ?_); refine hK _ ?_; clear K hK) | refine TS.imp ?_))
    simp only [RetG, go_sem]; (repeat with_reducible refine vc ?_)
/-! kernel: the greatest, what is done behind a sum, frames -/
def frE (f : List Int) : List D := [.row [.i .i64 0] (f.map intC)]
def frD (fs : List (List Int)) : D := .row [.nil] (fs.map frE)
def fr (fs : List (List Int)) (i : Int) : List Int := fs.getD i.toNat []
theorem rw_fr (fs : List (List Int)) (i : Int) (h0 : 0 ≤ i) (h1 : i < fs.length) : (fs.map frE).getD i.toNat [.nil] = [.row [.i .i64 0] ((fr fs i).map intC)] := by
  have hk : i.toNat < fs.length := by omega
  unfold fr
  simp [List.getD, hk, frE]
theorem fr_mem {fs : List (List Int)} {i : Int} (h0 : 0 ≤ i) (h1 : i < fs.length) : fr fs i ∈ fs := by
  have hk : i.toNat < fs.length := by omega
  unfold fr
  rw [List.getD_eq_getElem?_getD, List.getElem?_eq_getElem hk]
  exact List.getElem_mem hk
def mostN (xs : List Int) : Nat → Int
  | 0 => 0
  | i + 1 => if rd xs (mostN xs i) < rd xs i then i else mostN xs i
def mostV (xs : List Int) : Int := mostN xs xs.length
theorem mostN_b (xs : List Int) (h : 1 ≤ xs.length) : ∀ i, i ≤ xs.length → 0 ≤ mostN xs i ∧ mostN xs i < xs.length
  | 0, _ => by simp only [mostN]; omega
  | i + 1, hi => by
    have := mostN_b xs h i (by omega)
    simp only [mostN]
    split <;> omega
theorem most_c {T : World → Prop} (Tm : TP T) (xs : List Int) (l0 : 1 ≤ xs.length) (hl : xs.length ≤ 65536) : Ct Go.Proofs.Tryz.prog T 67 [.d (.row [.i .i64 0] (xs.map intC))] true (fun r => r = .d (.i .i64 (mostV xs))) := by
  refine Ct_of Tm Go.Proofs.Tryz.func67 rfl rfl Go.Proofs.Tryz.ntmps67 (by simp) (rs := [.tmp 2]) rfl fun E hP hn hT => ?_
  (repeat (first | (refine TR.imp ?_; intro K hK; simp only [go_sem, hP, hn]; (repeat refine vc ?_); refine hK _ ?_; clear K hK) | refine TS.imp ?_))
  refine Tr.le (Le.keep [0, 2, 3, 6, 7, 8]) ?_; simp only [List.map_cons, List.map_nil, lk, Nat.reduceEqDiff, reduceIte]
  refine Tr.loop (fun m s => ∃ (i : Int), s = ⟨[(0, .d (.row [.i .i64 0] (xs.map intC))), (3, .d (.i .i64 (mostN xs i.toNat))), (6, .d (.row [.i .i64 0] (xs.map intC))), (7, .d (.i .i64 xs.length)), (8, .d (.i .i64 i))], []⟩ ∧ 0 ≤ i ∧ i + m = xs.length) xs.length ⟨_, (Le.mv (by simp only [go_sem, hP, hn]; first | done | (simp; done) | (simp [intC]; done) | (repeat (first | rfl | constructor))) (by simp only [go_sem, hP, hn]; first | done | (simp; done) | (simp [intC]; done) | (repeat (first | rfl | constructor)))), 0, rfl, by omega, by omega⟩ ?_
  rintro m s ⟨i, rfl, hi, him⟩
  have hb2 := mostN_b xs l0 i.toNat (by omega)
  (repeat (first | (refine TR.imp ?_; intro K hK; simp only [go_sem, hP, hn]; (repeat refine vc ?_); refine hK _ ?_; clear K hK) | refine TS.imp ?_))
  refine Tr.cond rfl (fun hb => ?_) (fun hb => ?_)
  · have hi1 : i < xs.length := by simpa using hb
    have hi2 : (i + 1).toNat = i.toNat + 1 := by omega
    have hst : mostN xs (i + 1).toNat = if rd xs (mostN xs i.toNat) < rd xs i then i else mostN xs i.toNat := by
      rw [hi2]; simp only [mostN]; rw [Int.toNat_of_nonneg hi]
    have hw : wrap64 (i + 1) = i + 1 := w64 (by omega) (by omega)
    generalize hat : mostN xs i.toNat = at_ at hb2 hst ⊢
    (repeat (first | (refine TR.imp ?_; intro K hK; simp only [go_sem, hP, hn]; (repeat refine vc ?_); refine hK _ ?_; clear K hK) | refine TS.imp ?_))
    refine Tr.cond rfl (fun hc => ?_) (fun hc => ?_)
    · have hc1 : rd xs at_ < rd xs i := by simpa using hc
      rw [if_pos hc1] at hst
      (repeat (first | (refine TR.imp ?_; intro K hK; simp only [go_sem, hP, hn]; (repeat refine vc ?_); refine hK _ ?_; clear K hK) | refine TS.imp ?_))
      rw [hw]
      refine ⟨m - 1, _, by omega, ?_, i + 1, rfl, by omega, by omega⟩
      rw [hst]
      exact (Le.mv (by simp only [go_sem, hP, hn]; first | done | (simp; done) | (simp [intC]; done) | (repeat (first | rfl | constructor))) (by simp only [go_sem, hP, hn]; first | done | (simp; done) | (simp [intC]; done) | (repeat (first | rfl | constructor))))
    · have hc1 : ¬ rd xs at_ < rd xs i := by simpa using hc
      rw [if_neg hc1] at hst
      (repeat (first | (refine TR.imp ?_; intro K hK; simp only [go_sem, hP, hn]; (repeat refine vc ?_); refine hK _ ?_; clear K hK) | refine TS.imp ?_))
      rw [hw]
      refine ⟨m - 1, _, by omega, ?_, i + 1, rfl, by omega, by omega⟩
      rw [hst]
      exact (Le.mv (by simp only [go_sem, hP, hn]; first | done | (simp; done) | (simp [intC]; done) | (repeat (first | rfl | constructor))) (by simp only [go_sem, hP, hn]; first | done | (simp; done) | (simp [intC]; done) | (repeat (first | rfl | constructor))))
  · have hie : i = xs.length := by have := of_decide_eq_false hb; omega
    subst hie
    rw [Int.toNat_natCast]
    (repeat (first | (refine TR.imp ?_; intro K hK; simp only [go_sem, hP, hn]; (repeat refine vc ?_); refine hK _ ?_; clear K hK) | refine TS.imp ?_))
    simp only [RetQ, go_sem]
    rfl
/-- what is done behind a sum -/
def Nd.pst (n : Nd) (x : Int) : Int :=
  if (Go.bits .and .i64 n.post 2 != 0) = true then clampV (if (Go.bits .and .i64 n.post 1 != 0) = true then scaleV (clampV x (-2147483648) 2147483647) n.mult n.shift else clampV x (-2147483648) 2147483647) n.low n.high
  else if (Go.bits .and .i64 n.post 1 != 0) = true then scaleV (clampV x (-2147483648) 2147483647) n.mult n.shift else clampV x (-2147483648) 2147483647
theorem post_c {T : World → Prop} (Tm : TP T) (n : Nd) (x : Int) : Cg Go.Proofs.Tryz.prog T 109 [] [.agg n.cs, .d (.i .i64 x)] (fun r H => H = [] ∧ r = .d (.i .i64 (n.pst x))) := by
  refine Cg_of [] Tm Go.Proofs.Tryz.func109 rfl rfl Go.Proofs.Tryz.ntmps109 (by simp) rfl (rs := [.tmp 4]) rfl fun E hP hn hT hpn => ?_
  (repeat refine TS.imp ?_)
  refine TR.imp ?_; intro K hK; simp only [go_sem, hP, hn]; (repeat refine vc ?_); refine hK _ ?_; clear K hK
  (repeat refine TS.imp ?_)
  refine TR.imp ?_; intro K hK; simp only [go_sem, hP, hn]; (repeat refine vc ?_); refine c1 (by rw [hP, hT]; exact Sat_c Tm x) rfl rfl rfl trivial (by simp only [go_sem, hP, hn]; try trivial) (by simp only [go_sem, hP, hn]; try rfl) (by rw [hn]; decide) (by rfl) ?_; simp only [go_sem, hP, hn]; (repeat refine vc ?_); refine hK _ ?_; clear K hK
  (repeat refine TS.imp ?_)
  refine TR.imp ?_; intro K hK; simp only [go_sem, hP, hn]; (repeat refine vc ?_); refine hK _ ?_; clear K hK
  unfold Nd.pst
  refine Tr.meet (fun s => s = ⟨[(1, .d (.i .i64 (if (Go.bits .and .i64 n.post 1 != 0) = true then scaleV (clampV x (-2147483648) 2147483647) n.mult n.shift else clampV x (-2147483648) 2147483647))), (2, .ptr 2 0)], [(2, .box 50 n.cs)]⟩) ?_ ?_
  rotate_left
  · refine Tr.cond rfl (fun hb => ?_) (fun hb => ?_)
    · (repeat refine TS.imp ?_)
      refine TR.imp ?_; intro K hK; simp only [go_sem, hP, hn]
      (repeat refine vc ?_)
      refine CallN_cs (Hi := [] ) (by rw [hP, hT]; exact  Scale_c Tm (clampV x (-2147483648) 2147483647) n.mult n.shift (clamp32 x)) rfl rfl rfl trivial (by simp only [go_sem, hP, hn]; try trivial) (by simp only [go_sem, hP, hn]; try rfl) (by simp only [inH, go_sem, hP, hn]; try simp) (by rw [hn]; decide) ?_; simp only [go_sem, hP, hn]; (repeat refine vc ?_)
      refine hK _ ?_; clear K hK
      rw [if_pos hb]
      (repeat refine TS.imp ?_)
      exact ⟨_, (Le.mv (by simp only [go_sem, hP, hn]; first | done | (simp; done) | (simp [intC]; done) | (repeat (first | rfl | constructor))) (by simp only [go_sem, hP, hn]; first | done | (simp; done) | (simp [intC]; done) | (repeat (first | rfl | constructor)))), rfl⟩
    · rw [if_neg (by rw [hb]; decide)]
      (repeat refine TS.imp ?_)
      exact ⟨_, (Le.mv (by simp only [go_sem, hP, hn]; first | done | (simp; done) | (simp [intC]; done) | (repeat (first | rfl | constructor))) (by simp only [go_sem, hP, hn]; first | done | (simp; done) | (simp [intC]; done) | (repeat (first | rfl | constructor)))), rfl⟩
  rintro s rfl
  generalize (if (Go.bits .and .i64 n.post 1 != 0) = true then scaleV (clampV x (-2147483648) 2147483647) n.mult n.shift else clampV x (-2147483648) 2147483647) = y
  (repeat refine TS.imp ?_)
  refine TR.imp ?_; intro K hK; simp only [go_sem, hP, hn]; (repeat refine vc ?_); refine hK _ ?_; clear K hK
  refine Tr.cond rfl (fun hb => ?_) (fun hb => ?_)
  · rw [if_pos hb]
    (repeat refine TS.imp ?_)
    refine TR.imp ?_; intro K hK; simp only [go_sem, hP, hn]; (repeat refine vc ?_); refine c1 (by rw [hP, hT]; exact Clamp_c Tm y n.low n.high) rfl rfl rfl trivial (by simp only [go_sem, hP, hn]; try trivial) (by simp only [go_sem, hP, hn]; try rfl) (by rw [hn]; decide) (by rfl) ?_; simp only [go_sem, hP, hn]; (repeat refine vc ?_); refine hK _ ?_; clear K hK
    (repeat (first | (refine TR.imp ?_; intro K hK; simp only [go_sem, hP, hn]; (repeat refine vc ?_); refine hK _ ?_; clear K hK) | refine TS.imp ?_))
    simp only [RetG, go_sem]; (repeat with_reducible refine vc ?_)
  · rw [if_neg (by rw [hb]; decide)]
    (repeat (first | (refine TR.imp ?_; intro K hK; simp only [go_sem, hP, hn]; (repeat refine vc ?_); refine hK _ ?_; clear K hK) | refine TS.imp ?_))
    simp only [RetG, go_sem]; (repeat with_reducible refine vc ?_)
section
/-! bound: ends of what weighs -/
structure Rg where
  lo : Int
  hi : Int
  al : Int
  ah : Int
def Rg.ds (r : Rg) : List D := [.i .i64 r.lo, .i .i64 r.hi, .i .i64 r.al, .i .i64 r.ah]
def Rg.cs (r : Rg) : List S := [.d (.i .i64 r.lo), .d (.i .i64 r.hi), .d (.i .i64 r.al), .d (.i .i64 r.ah)]
def e0R : List D := [.i .i64 0, .i .i64 0, .i .i64 0, .i .i64 0]
def rgS (l h : Int) : Rg := ⟨l, h, l, h⟩
attribute [local go_sem] Rg.cs Rg.ds e0R rgS
/-- ends of one number, over the first weights -/
def eN (l h : Int) (ws : List Int) (b : Int) : Nat → Int × Int
  | 0 => (b, b)
  | k + 1 => if rd ws k < 0 then (wrap64 ((eN l h ws b k).1 + wrap64 (rd ws k * h)), wrap64 ((eN l h ws b k).2 + wrap64 (rd ws k * l)))
    else (wrap64 ((eN l h ws b k).1 + wrap64 (rd ws k * l)), wrap64 ((eN l h ws b k).2 + wrap64 (rd ws k * h)))
def wsC (n : Nd) (each : Nat) (c : Int) : List Int := (n.ws.take ((c + 1) * each).toNat).drop (c * each).toNat
def endV (n : Nd) (l h : Int) (each : Nat) (c : Int) : Int × Int := eN l h (wsC n each c) (rd n.bs c) each
structure BW (n : Nd) (each : Nat) : Prop where
  b0 : 1 ≤ n.bs.length ∧ n.bs.length ≤ 16
  ws : n.ws.length = n.bs.length * each
  e0 : each ≤ 4096
theorem BW.off {n : Nd} {each : Nat} (h : BW n each) {c : Int} (c0 : 0 ≤ c) (c1 : c < n.bs.length) : 0 ≤ c * each ∧ (c + 1) * (each : Int) = c * each + each ∧ c * each + each ≤ n.ws.length ∧ c * each ≤ 65536 ∧ (wsC n each c).length = each := by
  have h1 := h.b0
  have h2 := h.e0
  have a0 : 0 ≤ c * (each : Int) := Int.mul_nonneg c0 (by omega)
  have a1 : (c + 1) * (each : Int) ≤ n.bs.length * each := Int.mul_le_mul_of_nonneg_right (by omega) (by omega)
  have a2 : (n.ws.length : Int) = n.bs.length * each := by rw [h.ws]; simp
  have a3 := (mul_le c 16 each 4096 c0 (by omega) (by omega) (by omega)).2
  have a4 : (c + 1) * (each : Int) = c * each + each := by rw [Int.add_mul]; omega
  refine ⟨a0, a4, by omega, by omega, ?_⟩
  unfold wsC
  rw [List.length_drop, List.length_take]
  omega
def OB4 (n : Nd) (l h : Int) (each : Nat) : Hp := [(1000, .box 50 n.cs), (1001, .box 3 [.d (.i .i64 each)]), (1002, .box 3 [.d (.i .i64 h)]), (1003, .box 3 [.d (.i .i64 l)])]
attribute [local go_sem] OB4
def aN (n : Nd) (l h : Int) (each : Nat) : Nat → Int × Int
  | 0 => endV n l h each 0
  | c + 1 => (mn (aN n l h each c).1 (endV n l h each (c : Nat)).1, mx (aN n l h each c).2 (endV n l h each (c : Nat)).2)
def weighedR (n : Nd) (l h : Int) (each : Nat) : Rg := ⟨n.pst (aN n l h each n.bs.length).1, n.pst (aN n l h each n.bs.length).2, (aN n l h each n.bs.length).1, (aN n l h each n.bs.length).2⟩
end
section
attribute [local go_sem] Rg.cs Rg.ds e0R rgS
def rg (ins : List Rg) (j : Int) : Rg := ins.getD j.toNat ⟨0, 0, 0, 0⟩
/-- the least, and the greatest end, over the first inputs; what they add up to -/
def mnA (ins : List Rg) : Nat → Int
  | 0 => (rg ins 0).lo
  | j + 1 => mn (mnA ins j) (rg ins j).lo
def mxA (ins : List Rg) : Nat → Int
  | 0 => (rg ins 0).hi
  | j + 1 => mx (mxA ins j) (rg ins j).hi
def slA (ins : List Rg) : Nat → Int
  | 0 => 0
  | j + 1 => wrap64 (slA ins j + (rg ins j).lo)
def shA (ins : List Rg) : Nat → Int
  | 0 => 0
  | j + 1 => wrap64 (shA ins j + (rg ins j).hi)
def nodeL (n : Nd) (ins : List Rg) : Int := if 0 < wrap64 (n.padL + n.padR) then mn (mnA ins ins.length) 0 else mnA ins ins.length
def nodeH (n : Nd) (ins : List Rg) : Int := if 0 < wrap64 (n.padL + n.padR) then mx (mxA ins ins.length) 0 else mxA ins ins.length
def nodeR (n : Nd) (width : Int) (ins : List Rg) (each : Nat) : Rg :=
  if rWeighs n.k = true then weighedR n (nodeL n ins) (nodeH n ins) each
  else if n.k = 4 ∨ n.k = 12 then ⟨nodeL n ins, nodeH n ins, wrap64 (n.size * nodeL n ins), wrap64 (n.size * nodeH n ins)⟩
  else if n.k = 7 then ⟨addV (ins.map Rg.lo), addV (ins.map Rg.hi), slA ins ins.length, shA ins ins.length⟩
  else if n.k = 9 then rgS (clampV (nodeL n ins) n.low n.high) (clampV (nodeH n ins) n.low n.high)
  else if n.k = 10 then rgS (scaleV (nodeL n ins) n.mult n.shift) (scaleV (nodeH n ins) n.mult n.shift)
  else if n.k = 11 then rgS 0 (wrap64 (width - 1))
  else rgS (nodeL n ins) (nodeH n ins)
structure NOk (n : Nd) (ins : List Rg) (each : Nat) : Prop where
  i0 : 1 ≤ ins.length ∧ ins.length ≤ 16
  i32 : ∀ r ∈ ins, in32 r.lo ∧ in32 r.hi
  bw : rWeighs n.k = true → BW n each
end
section
attribute [local go_sem] Rg.cs Rg.ds e0R rgS
def eachW (n : Nd) : Nat := n.ws.length / n.bs.length
def overR (x : Rg) : Bool := decide (x.al < -68719476736) || decide (68719476736 < x.ah)
def stepR (ns : List Nd) (W : List Int) (i : Int) (out : List Rg) : Rg := nodeR (nd ns (i - 1)) (rd W (rd (nd ns (i - 1)).inn 0)) ((nd ns (i - 1)).inn.map (rg out)) (eachW (nd ns (i - 1)))
/-- ends along an order -/
def rgL (ns : List Nd) (W : List Int) : List Int → List Rg → Option (List Rg)
  | [], out => some out
  | i :: r, out => if overR (stepR ns W i out) = true then none else rgL ns W r (out.set i.toNat (stepR ns W i out))
def rangesV (wd lo hi out : Int) (ns : List Nd) : Int × List Rg :=
  if ((lookG wd lo hi out ns).1 != 0) = true then ((lookG wd lo hi out ns).1, [])
  else match rgL ns (lookG wd lo hi out ns).2.2.1 (lookG wd lo hi out ns).2.1 (rgS lo hi :: List.replicate ns.length ⟨0, 0, 0, 0⟩) with
    | none => (16, [])
    | some o => (0, o)
/-- a node that ends may go over -/
structure NG (N : Int) (n : Nd) : Prop where
  i0 : 1 ≤ n.inn.length ∧ n.inn.length ≤ 4
  ij : ∀ j ∈ n.inn, 0 ≤ j ∧ j ≤ N
  bw : rWeighs n.k = true → BW n (eachW n)
  s27 : n.s27 = true
structure LG (lo hi : Int) (ns : List Nd) (os W : List Int) : Prop where
  lo0 : in32 lo ∧ in32 hi
  wl : W.length = ns.length + 1
  w16 : ∀ x ∈ W, 0 ≤ x ∧ x ≤ 16
  osn : ∀ i ∈ os, (1 ≤ i ∧ i ≤ ns.length) ∧ NG ns.length (nd ns (i - 1))
  ol : os.length ≤ 65536
theorem rw_rgset (l : List Rg) (i : Nat) (x : Rg) : setE (l.map Rg.ds) i 0 [.i .i64 x.lo, .i .i64 x.hi, .i .i64 x.al, .i .i64 x.ah] = (l.set i x).map Rg.ds := by
  unfold setE
  apply List.ext_getElem?
  intro j
  rw [List.getElem?_modify, List.getElem?_map, List.getElem?_map, List.getElem?_set]
  by_cases h : i = j
  · subst h
    by_cases h2 : i < l.length
    · simp [h2, Rg.ds]
    · simp [h2]
  · simp [h]
theorem rw_rgrep (n : Nat) : List.replicate n [D.i .i64 0, D.i .i64 0, D.i .i64 0, D.i .i64 0] = (List.replicate n (⟨0, 0, 0, 0⟩ : Rg)).map Rg.ds := by simp [Rg.ds]
attribute [local go_sem] rw_rgset rw_rgrep
end
end Go.Proofs.YtgomeljgbjgbkaaGreatDoor.Aw
namespace Go.Proofs.YtgomeljgbjgbkaaGreatDoor.Aw
open Go.RowKit
set_option maxRecDepth 100000
/-! the plain law of ends: wider ones never make narrower ones -/
structure Wi (x y : Rg) : Prop where
  lo : y.lo ≤ x.lo
  hi : x.hi ≤ y.hi
  le : x.lo ≤ x.hi
  al : y.al ≤ x.al
  ah : x.ah ≤ y.ah
  y32 : in32 y.lo ∧ in32 y.hi
def WL : List Rg → List Rg → Prop
  | [], [] => True
  | x :: a, y :: b => Wi x y ∧ WL a b
  | _, _ => False
theorem WL.at : ∀ {a b : List Rg}, WL a b → ∀ i : Nat, i < a.length → Wi (a.getD i ⟨0, 0, 0, 0⟩) (b.getD i ⟨0, 0, 0, 0⟩)
  | [], [], _, i, hi => by simp at hi
  | x :: a, y :: b, h, 0, hi => by simp only [WL] at h; exact h.1
  | x :: a, y :: b, h, i + 1, hi => by simp only [WL] at h; simpa using WL.at h.2 i (by simpa using hi)
theorem WL.set : ∀ {a b : List Rg}, WL a b → ∀ (i : Nat) {x y : Rg}, Wi x y → WL (a.set i x) (b.set i y)
  | [], [], _, i, x, y, _ => by simp [WL]
  | u :: a, v :: b, h, 0, x, y, hw => by simp only [WL] at h; exact ⟨hw, h.2⟩
  | u :: a, v :: b, h, i + 1, x, y, hw => by simp only [WL] at h; exact ⟨h.1, WL.set h.2 i hw⟩
theorem WL.map {a b : List Rg} : ∀ {l : List Int}, (∀ j ∈ l, Wi (rg a j) (rg b j)) → WL (l.map (rg a)) (l.map (rg b))
  | [], _ => trivial
  | j :: l, h => ⟨h j (List.mem_cons_self ..), WL.map fun x hx => h x (List.mem_cons_of_mem _ hx)⟩
structure WN (n : Nd) : Prop where
  s27 : n.s27 = true
  ws : n.ws.all (inB · (-128) 127) = true
  bs : n.bs.all (inB · (-16777216) 16777216) = true
  size : 0 ≤ n.size ∧ n.size ≤ 8
set_option maxRecDepth 100000
/-! graphs that are made, and their ends -/
theorem WN.of {n : Nd} {v : Int} (he : n.else0 = true) (hs : n.sized v = true) : WN n := by
  have e8 : n.e8 = false := by
    unfold Nd.else0 at he
    cases e : n.e8 with
    | false => rfl
    | true => rw [e] at he; simp at he
  have e10 : n.e10 = false := by
    unfold Nd.else0 at he
    cases e : n.e10 with
    | false => rfl
    | true => rw [e] at he; simp at he
  have h4 : n.s4 = false := by
    unfold Nd.sized at hs
    cases e : n.s4 with
    | false => rfl
    | true => rw [e] at hs; simp at hs
  have h27 : n.s27 = true := by
    unfold Nd.sized at hs
    repeat' (split at hs <;> try (cases hs; done))
    all_goals exact hs
  have hsz : 0 ≤ n.size ∧ n.size ≤ 8 := by
    unfold Nd.s4 at h4
    unfold Nd.e8 at e8
    cases hq : (rFour n.k || n.k == 12) with
    | true =>
      rw [hq] at h4
      have := inB_iff.1 (show inB n.size 1 8 = true by simpa using h4)
      omega
    | false =>
      simp only [Bool.or_eq_false_iff, beq_eq_false_iff_ne] at hq
      simp [hq.1, hq.2] at e8
      omega
  cases hw : rWeighs n.k with
  | false =>
    unfold Nd.e10 at e10
    rw [hw] at e10
    simp at e10
    exact ⟨h27, by rw [e10.1]; rfl, by rw [e10.2]; rfl, hsz⟩
  | true =>
    have h21 : n.s21 v (if (n.k == 2) = true then v else n.wid) = false := by
      unfold Nd.sized at hs
      rw [if_pos hw] at hs
      cases e : n.s21 v (if (n.k == 2) = true then v else n.wid) with
      | false => rfl
      | true => rw [e] at hs; simp at hs
    unfold Nd.s21 at h21
    simp only [Bool.or_eq_false_iff, Bool.not_eq_false'] at h21
    exact ⟨h27, h21.1.2, h21.2, hsz⟩
theorem BW.of {n : Nd} {v : Int} (hv : 1 ≤ v ∧ v ≤ 16) (hs : n.sized v = true) (hw : rWeighs n.k = true) : BW n (eachW n) := by
  unfold Nd.sized at hs
  rw [if_pos hw] at hs
  have hc : n.k = 1 ∨ n.k = 2 ∨ n.k = 6 := by unfold rWeighs at hw; simpa [or_assoc] using hw
  have h4 : n.s4 = false := by
    cases e : n.s4 with
    | false => rfl
    | true => rw [e] at hs; simp at hs
  have h13 : n.s13 = false := by
    cases e : n.s13 with
    | false => rfl
    | true => rw [e] at hs; simp at hs
  have h21 : n.s21 v (if (n.k == 2) = true then v else n.wid) = false := by
    cases e : n.s21 v (if (n.k == 2) = true then v else n.wid) with
    | false => rfl
    | true => rw [e] at hs; simp at hs
  unfold Nd.s21 at h21
  simp only [Bool.or_eq_false_iff, bne_eq_false_iff_eq] at h21
  obtain ⟨⟨⟨hW, hB⟩, _⟩, _⟩ := h21
  have hsz : rFour n.k = true → 1 ≤ n.size ∧ n.size ≤ 8 := by
    intro e; unfold Nd.s4 at h4; rw [e] at h4
    simp at h4
    exact inB_iff.mp h4
  have hwd : (n.k = 1 ∨ n.k = 6) → 1 ≤ n.wid ∧ n.wid ≤ 16 := by
    intro e; unfold Nd.s13 at h13
    have : (n.k == 1 || n.k == 6) = true := by simpa using e
    rw [this] at h13; simp at h13
    exact inB_iff.mp h13
  have fin : ∀ e : Nat, e ≤ 4096 → 1 ≤ n.bs.length ∧ n.bs.length ≤ 16 → (n.ws.length : Int) = n.bs.length * e → BW n (eachW n) := fun e he hb hq => by
    have hq2 : n.ws.length = n.bs.length * e := by exact_mod_cast hq
    have : eachW n = e := by unfold eachW; rw [hq2]; exact Nat.mul_div_cancel_left _ (by omega)
    rw [this]
    exact ⟨hb, hq2, he⟩
  unfold Nd.rWeights at hW
  rcases hc with hk | hk | hk
  · have s1 := hsz (by rw [hk]; rfl)
    have d1 := hwd (.inl hk)
    rw [hk] at hW hB
    simp at hW hB
    have m1 := mul_le n.wid 16 n.size 8 (by omega) d1.2 (by omega) s1.2
    have m2 := mul_le (n.wid * n.size) 128 v 16 m1.1 m1.2 (by omega) (by omega)
    have m3 := mul_le n.size 8 v 16 (by omega) s1.2 (by omega) hv.2
    rw [w64 (x := n.wid * n.size) (by omega) (by omega), w64 (by omega) (by omega)] at hW
    refine fin (n.size * v).toNat (by omega) (by omega) ?_
    rw [Int.toNat_of_nonneg m3.1, hW, hB, Int.mul_assoc]
  · have s1 := hsz (by rw [hk]; rfl)
    rw [hk] at hW hB
    simp at hW hB
    have m1 := mul_le v 16 n.size 8 (by omega) (by omega) (by omega) s1.2
    rw [w64 (by omega) (by omega)] at hW
    refine fin n.size.toNat (by omega) (by omega) ?_
    rw [Int.toNat_of_nonneg (by omega), hW, hB]
  · have d1 := hwd (.inr hk)
    rw [hk] at hW hB
    simp at hW hB
    have m1 := mul_le n.wid 16 v 16 (by omega) d1.2 (by omega) (by omega)
    rw [w64 (by omega) (by omega)] at hW
    refine fin v.toNat (by omega) (by omega) ?_
    rw [Int.toNat_of_nonneg (by omega), hW, hB]
set_option maxRecDepth 100000
/-! along an order: what is told of a node goes by what is told of its inputs -/
section
variable {α : Type}
def ga (d : α) (l : List α) (i : Int) : α := l.getD i.toNat d
theorem ga_set {d : α} {l : List α} {i j : Int} {v : α} (hi : 0 ≤ i) (hi2 : i < l.length) (hj : 0 ≤ j) : ga d (l.set i.toNat v) j = if j = i then v else ga d l j := by
  unfold ga
  rw [List.getD_eq_getElem?_getD, List.getD_eq_getElem?_getD, List.getElem?_set]
  by_cases e : j = i
  · subst e
    rw [if_pos rfl, if_pos rfl, if_pos (by omega)]; rfl
  · rw [if_neg (by omega), if_neg e]
def ordL (d : α) (f : (Int → α) → α → Int → α) : List Int → List α → List α
  | [], out => out
  | i :: r, out => ordL d f r (out.set i.toNat (f (ga d out) (ga d out i) i))
theorem ordL_len (d : α) (f : (Int → α) → α → Int → α) : ∀ (r : List Int) (out : List α), (ordL d f r out).length = out.length
  | [], _ => rfl
  | i :: r, out => by rw [ordL, ordL_len d f r]; simp
theorem ordL_fix {d : α} {f : (Int → α) → α → Int → α} {ns : List Nd} (hf : ∀ (u v : Int → α) (s : α) (i : Int), (∀ j ∈ (nd ns (i - 1)).inn, u j = v j) → f u s i = f v s i) (out0 : List α) :
    ∀ (r o : List Int) (out : List α), order ns = o ++ r → out.length = ns.length + 1 → (∀ x : Int, 0 ≤ x → x ∉ o → ga d out x = ga d out0 x) → (∀ x ∈ o, ga d out x = f (ga d out) (ga d out0 x) x) →
      (∀ x : Int, 0 ≤ x → x ∉ o ++ r → ga d (ordL d f r out) x = ga d out0 x) ∧ ∀ x ∈ o ++ r, ga d (ordL d f r out) x = f (ga d (ordL d f r out)) (ga d out0 x) x
  | [], o, out, ho, hl, h1, h2 => ⟨by simpa [Aw.ordL] using h1, by simpa [Aw.ordL] using h2⟩
  | i :: r, o, out, ho, hl, h1, h2 => by
    obtain ⟨hm, _, i1, i2⟩ := order_top ns o i r ho
    obtain ⟨hio, hin⟩ := mayO_iff.1 hm
    have hpre : ∀ x ∈ o, ∀ j ∈ (nd ns (x - 1)).inn, j = 0 ∨ j ∈ o := fun x hx j hj => by
      obtain ⟨s, t, e⟩ := List.append_of_mem hx
      obtain ⟨hm2, _⟩ := order_top ns s x (t ++ i :: r) (by rw [ho, e]; simp)
      rcases (mayO_iff.1 hm2).2 j hj with h | h
      · exact .inl h
      · exact .inr (by rw [e]; exact List.mem_append_left _ h)
    have hpos : ∀ x ∈ o, 1 ≤ x := fun x hx => (ordR_range (ns := ns) (k := ns.length) (o := []) (by simp) x (show x ∈ order ns by rw [ho]; exact List.mem_append_left _ hx)).1
    have hin0 : ∀ x : Int, (x = 0 ∨ x ∈ o) → 0 ≤ x ∧ x ≠ i := fun x hx => by
      rcases hx with rfl | hx
      · omega
      · exact ⟨by have := hpos x hx; omega, fun e => hio (e ▸ hx)⟩
    have key := ordL_fix hf out0 r (o ++ [i]) (out.set i.toNat (f (ga d out) (ga d out i) i)) (by rw [ho]; simp) (by simpa using hl) (fun x x0 hx => by
      simp only [List.mem_append, List.mem_singleton, not_or] at hx
      rw [ga_set (by omega) (by omega) x0, if_neg hx.2]
      exact h1 x x0 hx.1) (fun x hx => by
      have hsame : ∀ j : Int, (j = 0 ∨ j ∈ o) → ga d out j = ga d (out.set i.toNat (f (ga d out) (ga d out i) i)) j := fun j hj => by
        have := hin0 j hj
        rw [ga_set (by omega) (by omega) this.1, if_neg this.2]
      rcases List.mem_append.1 hx with hx | hx
      · rw [← hsame x (.inr hx), h2 x hx]
        exact hf _ _ _ _ fun j hj => hsame j (hpre x hx j hj)
      · simp only [List.mem_singleton] at hx
        subst hx
        have e1 : ga d (out.set x.toNat (f (ga d out) (ga d out x) x)) x = f (ga d out) (ga d out x) x := by rw [ga_set (by omega) (by omega) (by omega), if_pos rfl]
        rw [e1]
        refine (hf _ _ _ _ fun j hj => hsame j (hin j hj)).trans ?_
        rw [h1 x (by omega) hio])
    rw [ordL]
    simpa using key
theorem GG.ordL {wd : Int} {ns : List Nd} {W R : Int → Int} {rk : Int → Nat} (h : GG wd ns W R rk) {d : α} {f : (Int → α) → α → Int → α} (hf : ∀ (u v : Int → α) (s : α) (i : Int), (∀ j ∈ (nd ns (i - 1)).inn, u j = v j) → f u s i = f v s i) (out0 : List α) (hl : out0.length = ns.length + 1) :
    ga d (ordL d f (order ns) out0) 0 = ga d out0 0 ∧ ∀ x : Int, 1 ≤ x → x ≤ ns.length → ga d (ordL d f (order ns) out0) x = f (ga d (ordL d f (order ns) out0)) (ga d out0 x) x := by
  obtain ⟨a, b⟩ := ordL_fix hf out0 (order ns) [] out0 rfl hl (fun _ _ _ => rfl) (by simp)
  refine ⟨a 0 (by omega) fun hm => ?_, fun x x1 x2 => b x (by simpa using h.mem_order x x1 x2)⟩
  have := ordR_range (ns := ns) (k := ns.length) (o := []) (by simp) 0 (show (0 : Int) ∈ order ns by simpa using hm)
  omega
end
/-! windows of nodes that are made -/
structure WF (n : Nd) : Prop where
  st : 1 ≤ n.rStp ∧ n.rStp ≤ 3
  sp : 1 ≤ n.rSpan ∧ n.rSpan ≤ 10
  lf : 0 ≤ n.rLeft ∧ n.rLeft < n.rSpan
  rt : 0 ≤ n.rRight ∧ n.rRight < n.rSpan
  one : rWin n.k = false → n.rSpan = 1 ∧ n.rStp = 1 ∧ n.rLeft = 0 ∧ n.rRight = 0
theorem wf_of {n : Nd} {v : Int} (hs : n.sized v = true) (h1 : 1 ≤ n.rStp ∧ n.rStp ≤ 3) (h2 : 1 ≤ n.rSpan ∧ n.rSpan ≤ 10) : WF n := by
  have h10 : n.s10 = false := by
    unfold Nd.sized at hs
    cases e : n.s10 with
    | false => rfl
    | true => rw [e] at hs; simp at hs
  unfold Nd.s10 at h10
  have hone : rWin n.k = false → n.rSpan = 1 ∧ n.rStp = 1 ∧ n.rLeft = 0 ∧ n.rRight = 0 := fun hw => by
    rw [rWin_four] at hw
    simp only [Bool.or_eq_false_iff] at hw
    unfold Nd.rSpan Nd.rStp Nd.rLeft Nd.rRight
    rw [rWin_four, hw.1, hw.2]
    exact ⟨rfl, rfl, rfl, rfl⟩
  refine ⟨h1, h2, ?_, ?_, hone⟩
  · cases e12 : (n.k == 12) with
    | true =>
      have e1 : n.rSpan = n.size := by unfold Nd.rSpan; rw [e12]; rfl
      have e2 : n.rLeft = wrap64 (n.size - 1) := by unfold Nd.rLeft; rw [e12]; rfl
      rw [e1] at h2 ⊢
      rw [e2, w64 (by omega) (by omega)]
      omega
    | false =>
      have e2 : n.rLeft = if rFour n.k = true then n.left else 0 := by unfold Nd.rLeft; rw [e12]; rfl
      rw [e2]
      cases e4 : rFour n.k with
      | true =>
        rw [e4] at h10
        simp only [Bool.true_and, Bool.or_eq_false_iff, decide_eq_false_iff_not] at h10
        rw [if_pos rfl]; omega
      | false => rw [if_neg (by decide)]; omega
  · unfold Nd.rRight
    cases e4 : rFour n.k with
    | true =>
      rw [e4] at h10
      simp only [Bool.true_and, Bool.or_eq_false_iff, decide_eq_false_iff_not] at h10
      rw [if_pos rfl]; omega
    | false => rw [if_neg (by decide)]; omega
theorem NodeG.wf {N : Int} {n : Nd} {W R : Int → Int} {rk : Int → Nat} {i : Int} (h : NodeG N n W R rk i) : WF n := by
  obtain ⟨_, _, _, _, hs, _⟩ := rchk_unpack h.chk
  exact wf_of hs ⟨h.st0, h.st1⟩ ⟨h.sp0, h.sp1⟩
/-! how many frames there are -/
def Nd.rEnds (n : Nd) (t : Int) : Int := if t ≤ wrap64 (wrap64 (n.rSpan - 1) - n.rLeft) then 0 else wrap64 (wrap64 (Int.tdiv (wrap64 (wrap64 (t - 1) - wrap64 (wrap64 (n.rSpan - 1) - n.rLeft))) n.rStp) + 1)
def Nd.rReady (n : Nd) (l : List Int) : Int := if (rWin n.k && decide (0 < fewestV l)) = true then n.rEnds (fewestV l) else if (n.k == 5) = true then 0 else fewestV l
def Nd.rCount (n : Nd) (l : List Int) : Int := if (rWin n.k && decide (0 < fewestV l)) = true then n.rEnds (wrap64 (fewestV l + n.rRight)) else if (n.k == 5 && decide (0 < fewestV l)) = true then 1 else fewestV l
theorem WF.ends {n : Nd} (h : WF n) {t : Int} (h0 : 0 ≤ t) (h1 : t ≤ 4611686018427387999) : n.rEnds t = if t ≤ n.rSpan - 1 - n.rLeft then 0 else (t - 1 - (n.rSpan - 1 - n.rLeft)) / n.rStp + 1 := by
  obtain ⟨a, b, c, _, _⟩ := h
  unfold Nd.rEnds
  rw [w64 (x := n.rSpan - 1) (by omega) (by omega), w64 (x := n.rSpan - 1 - n.rLeft) (by omega) (by omega)]
  by_cases ht : t ≤ n.rSpan - 1 - n.rLeft
  · rw [if_pos ht, if_pos ht]
  · rw [if_neg ht, if_neg ht, w64 (x := t - 1) (by omega) (by omega), w64 (x := t - 1 - (n.rSpan - 1 - n.rLeft)) (by omega) (by omega), Int.tdiv_eq_ediv_of_nonneg (by omega)]
    have d1 := Int.ediv_nonneg (a := t - 1 - (n.rSpan - 1 - n.rLeft)) (b := n.rStp) (by omega) (by omega)
    have d2 := Int.ediv_le_self (a := t - 1 - (n.rSpan - 1 - n.rLeft)) n.rStp (by omega)
    generalize (t - 1 - (n.rSpan - 1 - n.rLeft)) / n.rStp = q at *
    rw [w64 (x := q) (by omega) (by omega), w64 (by omega) (by omega)]
theorem ends_eqW (n : Nd) (h : WF n) (t : Int) : n.ends t = n.rEnds t := by
  have hf : n.first 0 = -n.rLeft := by
    have := h.lf
    have := h.sp
    rw [first_eqW]
    unfold Nd.rFirst
    rw [Int.zero_mul, w64 (x := 0) (by omega) (by omega), w64 (by omega) (by omega)]; omega
  obtain ⟨a, b, c, _, _⟩ := h
  unfold Nd.ends Nd.rEnds
  rw [hf, span_eqW, stp_eqW, w64 (x := -n.rLeft + n.rSpan) (by omega) (by omega), w64 (x := -n.rLeft + n.rSpan - 1) (by omega) (by omega), w64 (x := n.rSpan - 1) (by omega) (by omega), w64 (x := n.rSpan - 1 - n.rLeft) (by omega) (by omega), show -n.rLeft + n.rSpan - 1 = n.rSpan - 1 - n.rLeft by omega]
/-! what a graph needs -/
def leastL (l : List Int) : Int := l.foldl mn (rd l 0)
def mostL (l : List Int) : Int := l.foldl mx (rd l 0)
def loF (ns : List Nd) (R : List Int) (u : Int → Int) (s : Int) (i : Int) : Int := if (rd R i == 0) = true then s else wrap64 (leastL ((nd ns (i - 1)).inn.map u) - wrap64 (rd R (rd (nd ns (i - 1)).inn 0) * (nd ns (i - 1)).rLeft))
def hiF (ns : List Nd) (R : List Int) (u : Int → Int) (s : Int) (i : Int) : Int := if (rd R i == 0) = true then s else wrap64 (mostL ((nd ns (i - 1)).inn.map u) + wrap64 (rd R (rd (nd ns (i - 1)).inn 0) * wrap64 (wrap64 ((nd ns (i - 1)).rSpan - 1) - (nd ns (i - 1)).rLeft)))
def cntF (ns : List Nd) (g : Nd → List Int → Int) (u : Int → Int) (_ : Int) (i : Int) : Int := g (nd ns (i - 1)) ((nd ns (i - 1)).inn.map u)
def loL (ns : List Nd) (R : List Int) : List Int := ordL 0 (loF ns R) (order ns) (List.replicate (ns.length + 1) 0)
def hiL (ns : List Nd) (R : List Int) : List Int := ordL 0 (hiF ns R) (order ns) (List.replicate (ns.length + 1) 0)
def cntL (ns : List Nd) (g : Nd → List Int → Int) (N : Int) : List Int := ordL 0 (cntF ns g) (order ns) (N :: List.replicate ns.length 0)
theorem cntF_loc {ns : List Nd} {g : Nd → List Int → Int} (u v : Int → Int) (s i : Int) (h : ∀ j ∈ (nd ns (i - 1)).inn, u j = v j) : cntF ns g u s i = cntF ns g v s i := by
  unfold cntF; rw [List.map_congr_left h]
end Go.Proofs.YtgomeljgbjgbkaaGreatDoor.Aw
namespace Go.Proofs.YtgomeljgbjgbkaaGreatDoor.Aw
open Go.RowKit
attribute [local go_sem_proc] Nat.reduceAdd Nat.reduceMul Nat.reduceSub Nat.reduceEqDiff Nat.reduceLeDiff Nat.reduceBEq Nat.reduceBNe Int.reduceToNat reduceIte reduceCtorEq
attribute [local go_sem] initT SQ so pe he ev lk constS stp stc gdS nth pickS pickD loadS cellsAt okAt fieldAddrS fieldS partS indexAddrS indexS extractS binS binD binI isShift unS convS lenS sliceS bndI bndC mmS mm2 mmD builtS fillS okCells cellsS splS solid aliveL alive okS boxS allocS makeS bsliceS elemsOf dcells stF frzW storeS frzA frzK oneS1 srcR rwsOf hdO appR frz frzT frzS frzL frzO frzH appS srcS appVC killS killT killC killH killO k1 k2 S.has S.hasL St.add St.upd dropH lh cond_or cond_and rw_intC rw_intC0 rw_set rw_app rw_apps rw_rep rw_slice wr64 cond_true cond_false true_and and_true List.map_cons List.map_nil List.length_cons List.length_nil List.drop_succ_cons List.drop_zero List.take_succ_cons List.take_zero List.nil_append List.cons_append List.getD_cons_zero List.getD_cons_succ List.headD_cons List.length_map ite_true ite_false if_true if_false Bool.false_eq_true and_self forall_const List.drop_nil List.take_nil List.append_nil Option.map_some Option.map_none List.mapM_cons List.mapM_nil Option.bind_eq_bind Option.bind_some Option.pure_def knows resL resV oneS freshS freshL cv cvL stpL stcL or_true true_or or_false false_or List.all_cons List.all_nil Bool.and_self Bool.or_self Bool.true_and Bool.and_true Bool.or_false Bool.false_or implies_true flatD allm_nil allm_cons List.getElem?_cons_zero List.getElem?_cons_succ Nd.cs Nd.ds ml mln Option.isSome_some Option.isSome_none eq_self Int.toNat_natCast AP ldOk isLd inL subL crt chg chgS chgP idxs aliveW Option.toList_some Option.toList_none Option.toList RetG Nd.win frzA offK keepH aliveK nkH closedH closedO keysK inH St.upd rowO List.contains_cons List.contains_nil Bool.or_self Option.isNone_none Option.isNone_some Bool.not_true Bool.not_false gcs rowN e0N frzC
attribute [local go_sem] sz2 ag2 ok2 kk2 iu2 zc2 zd2 by2 sz3 ag3 ok3 kk3 iu3 zc3 zd3 by3 sz4 ag4 ok4 bo4 zc4 zd4 by4 sz5 ag5 ok5 kk5 iu5 zc5 zd5 by5 sz9 ag9 ok9 st9 zc9 zd9 by9 sz12 ag12 ok12 kk12 iu12 zc12 zd12 by12 sz15 ag15 ok15 zc15 by15 sz16 ag16 ok16 zc16 by16 sz21 ag21 ok21 kk21 iu21 zc21 zd21 by21 sz22 ag22 ok22 sl22 zc22 zd22 by22 sz23 ag23 ok23 zc23 zd23 pl23 by23 fl23_0 fl23_1 fl23_2 sz24 ag24 ok24 zc24 zd24 pl24 by24 fl24_0 fl24_1 fl24_2 sz26 ag26 ok26 sl26 zc26 zd26 by26 sz27 ag27 ok27 zc27 zd27 pl27 by27 fl27_0 fl27_1 fl27_2 fl27_3 fl27_4 sz28 ag28 ok28 zc28 zd28 pl28 by28 fl28_0 fl28_1 fl28_2 fl28_3 fl28_4 sz29 ag29 ok29 sl29 zc29 zd29 by29 sz32 ag32 ok32 sl32 zc32 zd32 by32 sz33 ag33 ok33 kk33 iu33 zc33 zd33 by33 sz36 ag36 ok36 zc36 zd36 pl36 by36 fl36_0 fl36_1 sz37 ag37 ok37 zc37 zd37 pl37 by37 fl37_0 fl37_1 sz49 ag49 ok49 zc49 zd49 pl49 by49 fl49_0 fl49_1 fl49_2 fl49_3 fl49_4 fl49_5 fl49_6 fl49_7 fl49_8 fl49_9 fl49_10 fl49_11 fl49_12 fl49_13 fl49_14 sz50 ag50 ok50 zc50 zd50 pl50 by50 fl50_0 fl50_1 fl50_2 fl50_3 fl50_4 fl50_5 fl50_6 fl50_7 fl50_8 fl50_9 fl50_10 fl50_11 fl50_12 fl50_13 fl50_14 sz53 ag53 ok53 zc53 by53 sz55 ag55 ok55 zc55 zd55 pl55 by55 fl55_0 fl55_1 fl55_2 sz56 ag56 ok56 zc56 zd56 pl56 by56 fl56_0 fl56_1 fl56_2 sz58 ag58 ok58 zc58 zd58 pl58 by58 fl58_0 fl58_1 fl58_2 fl58_3 sz59 ag59 ok59 zc59 zd59 pl59 by59 fl59_0 fl59_1 fl59_2 fl59_3 sz66 ag66 ok66 zc66 zd66 pl66 by66 fl66_0 fl66_1 fl66_2 sz67 ag67 ok67 zc67 zd67 pl67 by67 fl67_0 fl67_1 fl67_2 sz79 ag79 ok79 zc79 by79 sz80 ag80 ok80 zc80 zd80 pl80 by80 fl80_0 fl80_1 sz81 ag81 ok81 zc81 zd81 pl81 by81 fl81_0 fl81_1 sz105 ag105 ok105 sl105 ar105 zc105 zd105 pl105 by105 sz108 ag108 ok108 sl108 ar108 zc108 zd108 pl108 by108 sz109 ag109 ok109 zc109 by109 sz115 ag115 ok115 zc115 zd115 pl115 by115 fl115_0 fl115_1 sz116 ag116 ok116 zc116 zd116 pl116 by116 fl116_0 fl116_1 sz120 ag120 ok120 zc120 zd120 pl120 by120 fl120_0 fl120_1 sz121 ag121 ok121 sl121 ar121 zc121 zd121 pl121 by121 sz124 ag124 ok124 kk124 iu124 zc124 zd124 by124 sz133 ag133 ok133 kk133 iu133 zc133 zd133 by133 sz137 ag137 ok137 zc137 by137
/-! how many frames there are: the document's, and kind's -/
theorem Left_w {T : World → Prop} (Tm : TP T) (n : Nd) : Ct Go.Proofs.Tryz.prog T 88 [.agg n.cs] true (fun r => r = .d (.i .i64 n.rLeft)) := by
  refine Ct_of Tm Go.Proofs.Tryz.func88 rfl rfl Go.Proofs.Tryz.ntmps88 (by simp) (rs := [.tmp 2]) rfl fun E hP hn hT => ?_
  unfold Nd.rLeft
  (repeat refine TS.imp ?_)
  refine TR.imp ?_; intro K hK; simp only [go_sem, hP, hn]; (repeat refine vc ?_); refine hK _ ?_; clear K hK
  (repeat refine TS.imp ?_)
  refine TR.imp ?_; intro K hK; simp only [go_sem, hP, hn]; (repeat refine vc ?_); refine hK _ ?_; clear K hK
  (repeat refine TS.imp ?_)
  refine Tr.cond rfl (fun h1 => ?_) (fun h1 => ?_)
  · rw [if_pos h1]
    (repeat (first | (refine TR.imp ?_; intro K hK; simp only [go_sem, hP, hn]; (repeat refine vc ?_); refine hK _ ?_; clear K hK) | refine TS.imp ?_))
    simp only [RetQ, go_sem]
  rw [if_neg (by rw [h1]; decide)]
  (repeat refine TS.imp ?_)
  refine TR.imp ?_; intro K hK; simp only [go_sem, hP, hn]; (repeat refine vc ?_); refine c1 (by rw [hP, hT]; exact four_r Tm n.k) rfl rfl rfl trivial (by simp only [go_sem, hP, hn]; try trivial) (by simp only [go_sem, hP, hn]; try rfl) (by rw [hn]; decide) (by rfl) ?_; simp only [go_sem, hP, hn]; (repeat refine vc ?_); refine hK _ ?_; clear K hK
  (repeat refine TS.imp ?_)
  refine TR.imp ?_; intro K hK; simp only [go_sem, hP, hn]; (repeat refine vc ?_); refine hK _ ?_; clear K hK
  (repeat refine TS.imp ?_)
  refine Tr.cond rfl (fun h2 => ?_) (fun h2 => ?_)
  · rw [if_pos h2]
    (repeat (first | (refine TR.imp ?_; intro K hK; simp only [go_sem, hP, hn]; (repeat refine vc ?_); refine hK _ ?_; clear K hK) | refine TS.imp ?_))
    simp only [RetQ, go_sem]
  · rw [if_neg (by rw [h2]; decide)]
    (repeat (first | (refine TR.imp ?_; intro K hK; simp only [go_sem, hP, hn]; (repeat refine vc ?_); refine hK _ ?_; clear K hK) | refine TS.imp ?_))
    simp only [RetQ, go_sem]
theorem Right_w {T : World → Prop} (Tm : TP T) (n : Nd) : Ct Go.Proofs.Tryz.prog T 87 [.agg n.cs] true (fun r => r = .d (.i .i64 n.rRight)) := by
  refine Ct_of Tm Go.Proofs.Tryz.func87 rfl rfl Go.Proofs.Tryz.ntmps87 (by simp) (rs := [.tmp 2]) rfl fun E hP hn hT => ?_
  unfold Nd.rRight
  (repeat refine TS.imp ?_)
  refine TR.imp ?_; intro K hK; simp only [go_sem, hP, hn]; (repeat refine vc ?_); refine hK _ ?_; clear K hK
  (repeat refine TS.imp ?_)
  refine TR.imp ?_; intro K hK; simp only [go_sem, hP, hn]; (repeat refine vc ?_); refine c1 (by rw [hP, hT]; exact four_r Tm n.k) rfl rfl rfl trivial (by simp only [go_sem, hP, hn]; try trivial) (by simp only [go_sem, hP, hn]; try rfl) (by rw [hn]; decide) (by rfl) ?_; simp only [go_sem, hP, hn]; (repeat refine vc ?_); refine hK _ ?_; clear K hK
  (repeat refine TS.imp ?_)
  refine TR.imp ?_; intro K hK; simp only [go_sem, hP, hn]; (repeat refine vc ?_); refine hK _ ?_; clear K hK
  (repeat refine TS.imp ?_)
  refine Tr.cond rfl (fun h2 => ?_) (fun h2 => ?_)
  · rw [if_pos h2]
    (repeat (first | (refine TR.imp ?_; intro K hK; simp only [go_sem, hP, hn]; (repeat refine vc ?_); refine hK _ ?_; clear K hK) | refine TS.imp ?_))
    simp only [RetQ, go_sem]
  · rw [if_neg (by rw [h2]; decide)]
    (repeat (first | (refine TR.imp ?_; intro K hK; simp only [go_sem, hP, hn]; (repeat refine vc ?_); refine hK _ ?_; clear K hK) | refine TS.imp ?_))
    simp only [RetQ, go_sem]
theorem Pads_w {T : World → Prop} (Tk : KT T) (n : Nd) : Ct Go.Proofs.Tryz.prog T 54 [.agg n.cs] true (fun r => r = .tup [.d (.i .i64 n.padL), .d (.i .i64 n.padR)]) := by
  refine Ct_of Tk.m Go.Proofs.Tryz.func54 rfl rfl Go.Proofs.Tryz.ntmps54 (by simp) (rs := [.tmp 2, .tmp 3]) rfl fun E hP hn hT => ?_
  (repeat refine TS.imp ?_)
  refine TR.imp ?_; intro K hK; simp only [go_sem, hP, hn]; (repeat refine vc ?_); refine hK _ ?_; clear K hK
  (repeat refine TS.imp ?_)
  refine TR.imp ?_; intro K hK; simp only [go_sem, hP, hn]; (repeat refine vc ?_); refine c1 (by rw [hP, hT]; exact has_k Tk n 1) rfl rfl rfl trivial (by simp only [go_sem, hP, hn]; try trivial) (by simp only [go_sem, hP, hn]; try rfl) (by rw [hn]; decide) (by rfl) ?_; simp only [go_sem, hP, hn]; (repeat refine vc ?_); refine hK _ ?_; clear K hK
  (repeat refine TS.imp ?_)
  refine Tr.cond rfl (fun h1 => ?_) (fun h1 => ?_)
  · (repeat refine TS.imp ?_)
    refine d5 (.p true 0 (.p true 1 (.p true 2 (.p true 3 (.p true 4 (.p true 5 .nil)))))) [] (by rw [hP]; kernel_rfl) (by kernel_rfl) (by simp only [go_sem, hP, hn]; try simp) (by exact fun _ _ h => h) ?_; intro K hK; simp only [go_sem, hP, hn]; (repeat refine vc ?_); refine hK _ ?_; clear K hK
    (repeat (first | (refine TR.imp ?_; intro K hK; simp only [go_sem, hP, hn]; (repeat refine vc ?_); refine hK _ ?_; clear K hK) | refine TS.imp ?_))
    simp only [RetQ, go_sem]
    unfold Nd.padL Nd.padR; rw [h1]; simp
  · (repeat refine TS.imp ?_)
    refine TR.imp ?_; intro K hK; simp only [go_sem, hP, hn]; (repeat refine vc ?_); refine c1 (by rw [hP, hT]; exact has_k Tk n 16) rfl rfl rfl trivial (by simp only [go_sem, hP, hn]; try trivial) (by simp only [go_sem, hP, hn]; try rfl) (by rw [hn]; decide) (by rfl) ?_; simp only [go_sem, hP, hn]; (repeat refine vc ?_); refine hK _ ?_; clear K hK
    (repeat refine TS.imp ?_)
    refine Tr.cond rfl (fun h2 => ?_) (fun h2 => ?_)
    · (repeat (first | (refine TR.imp ?_; intro K hK; simp only [go_sem, hP, hn]; (repeat refine vc ?_); refine hK _ ?_; clear K hK) | refine TS.imp ?_))
      simp only [RetQ, go_sem]
      unfold Nd.padL Nd.padR; rw [h1, h2]; simp
    · (repeat (first | (refine TR.imp ?_; intro K hK; simp only [go_sem, hP, hn]; (repeat refine vc ?_); refine hK _ ?_; clear K hK) | refine TS.imp ?_))
      simp only [RetQ, go_sem]
      unfold Nd.padL Nd.padR; rw [h1, h2]; simp
theorem First_r {T : World → Prop} (Tm : TP T) (n : Nd) (i : Int) : Ct Go.Proofs.Tryz.prog T 45 [.agg n.cs, .d (.i .i64 i)] true (fun r => r = .d (.i .i64 (n.rFirst i))) := by
  refine Ct_of Tm Go.Proofs.Tryz.func45 rfl rfl Go.Proofs.Tryz.ntmps45 (by simp) (rs := [.tmp 4]) rfl fun E hP hn hT => ?_
  (repeat refine TS.imp ?_)
  refine TR.imp ?_; intro K hK; simp only [go_sem, hP, hn]; (repeat refine vc ?_); refine hK _ ?_; clear K hK
  (repeat refine TS.imp ?_)
  refine d5 (.p true 0 (.p true 1 (.p true 4 (.alt 2 (.p false 3 (.alt 5 (.p false 6 (.p false 7 .nil)) .nil)) .nil)))) [] (by rw [hP]; kernel_rfl) (by kernel_rfl) (by simp only [go_sem, hP, hn]; try simp) (by exact fun _ _ h => h) ?_; intro K hK; simp only [go_sem, hP, hn]; (repeat refine vc ?_); refine p1 (by rw [hP, hT]; exact Step_r Tm n) rfl rfl rfl trivial (by simp only [go_sem, hP, hn]; try trivial) (by simp only [go_sem, hP, hn]; try rfl) (by rw [hn]; decide) (by rfl) ?_; simp only [go_sem, hP, hn]; (repeat refine vc ?_); refine p1 (by rw [hP, hT]; exact Left_w Tm n) rfl rfl rfl trivial (by simp only [go_sem, hP, hn]; try trivial) (by simp only [go_sem, hP, hn]; try rfl) (by rw [hn]; decide) (by rfl) ?_; simp only [go_sem, hP, hn]; (repeat refine vc ?_); refine hK _ ?_; clear K hK
  (repeat (first | (refine TR.imp ?_; intro K hK; simp only [go_sem, hP, hn]; (repeat refine vc ?_); refine hK _ ?_; clear K hK) | refine TS.imp ?_))
  simp only [RetQ, go_sem]
  rfl
theorem First_k {T : World → Prop} (Tk : KT T) (n : Nd) (i : Int) : Ct Go.Proofs.Tryz.prog T 76 [.agg n.cs, .d (.i .i64 i)] true (fun r => r = .d (.i .i64 (n.first i))) := by
  refine Ct_of Tk.m Go.Proofs.Tryz.func76 rfl rfl Go.Proofs.Tryz.ntmps76 (by simp) (rs := [.tmp 4]) rfl fun E hP hn hT => ?_
  (repeat refine TS.imp ?_)
  refine TR.imp ?_; intro K hK; simp only [go_sem, hP, hn]; (repeat refine vc ?_); refine hK _ ?_; clear K hK
  (repeat refine TS.imp ?_)
  refine TR.imp ?_; intro K hK; simp only [go_sem, hP, hn]; (repeat refine vc ?_); refine c1 (by rw [hP, hT]; exact Pads_w Tk n) rfl rfl rfl trivial (by simp only [go_sem, hP, hn]; try trivial) (by simp only [go_sem, hP, hn]; try rfl) (by rw [hn]; decide) (by rfl) ?_; simp only [go_sem, hP, hn]; (repeat refine vc ?_); refine hK _ ?_; clear K hK
  (repeat refine TS.imp ?_)
  refine TR.imp ?_; intro K hK; simp only [go_sem, hP, hn]; (repeat refine vc ?_); refine c1 (by rw [hP, hT]; exact Step_k Tk n) rfl rfl rfl trivial (by simp only [go_sem, hP, hn]; try trivial) (by simp only [go_sem, hP, hn]; try rfl) (by rw [hn]; decide) (by rfl) ?_; simp only [go_sem, hP, hn]; (repeat refine vc ?_); refine hK _ ?_; clear K hK
  (repeat (first | (refine TR.imp ?_; intro K hK; simp only [go_sem, hP, hn]; (repeat refine vc ?_); refine hK _ ?_; clear K hK) | refine TS.imp ?_))
  simp only [RetQ, go_sem]
  rfl
theorem ends_r {T : World → Prop} (Tm : TP T) (n : Nd) (t : Int) (h : 1 ≤ n.rStp) : Ct Go.Proofs.Tryz.prog T 86 [.agg n.cs, .d (.i .i64 t)] true (fun r => r = .d (.i .i64 (n.rEnds t))) := by
  have hnz : n.rStp ≠ 0 := by omega
  refine Ct_of Tm Go.Proofs.Tryz.func86 rfl rfl Go.Proofs.Tryz.ntmps86 (by simp) (rs := [.tmp 4]) rfl fun E hP hn hT => ?_
  (repeat refine TS.imp ?_)
  refine TR.imp ?_; intro K hK; simp only [go_sem, hP, hn]; (repeat refine vc ?_); refine hK _ ?_; clear K hK
  (repeat refine TS.imp ?_)
  refine d5 (.p true 0 (.p true 3 (.alt 1 (.p false 2 (.alt 4 (.p false 5 (.p false 6 .nil)) .nil)) .nil))) [] (by rw [hP]; kernel_rfl) (by kernel_rfl) (by simp only [go_sem, hP, hn]; try simp) (by exact fun _ _ h => h) ?_; intro K hK; simp only [go_sem, hP, hn]; (repeat refine vc ?_); refine p1 (by rw [hP, hT]; exact Span_r Tm n) rfl rfl rfl trivial (by simp only [go_sem, hP, hn]; try trivial) (by simp only [go_sem, hP, hn]; try rfl) (by rw [hn]; decide) (by rfl) ?_; simp only [go_sem, hP, hn]; (repeat refine vc ?_); refine p1 (by rw [hP, hT]; exact Left_w Tm n) rfl rfl rfl trivial (by simp only [go_sem, hP, hn]; try trivial) (by simp only [go_sem, hP, hn]; try rfl) (by rw [hn]; decide) (by rfl) ?_; simp only [go_sem, hP, hn]; (repeat refine vc ?_); refine hK _ ?_; clear K hK
  unfold Nd.rEnds
  (repeat refine TS.imp ?_)
  refine TR.imp ?_; intro K hK; simp only [go_sem, hP, hn]; (repeat refine vc ?_); refine hK _ ?_; clear K hK
  (repeat refine TS.imp ?_)
  refine Tr.cond rfl (fun hb => ?_) (fun hb => ?_)
  · rw [if_pos (by simpa using hb)]
    (repeat (first | (refine TR.imp ?_; intro K hK; simp only [go_sem, hP, hn]; (repeat refine vc ?_); refine hK _ ?_; clear K hK) | refine TS.imp ?_))
    simp only [RetQ, go_sem]
  · rw [if_neg (by simpa using hb)]
    (repeat refine TS.imp ?_)
    refine TR.imp ?_; intro K hK; simp only [go_sem, hP, hn]; (repeat refine vc ?_); refine c1 (by rw [hP, hT]; exact Step_r Tm n) rfl rfl rfl trivial (by simp only [go_sem, hP, hn]; try trivial) (by simp only [go_sem, hP, hn]; try rfl) (by rw [hn]; decide) (by rfl) ?_; simp only [go_sem, hP, hn]; (repeat refine vc ?_); refine hK _ ?_; clear K hK
    (repeat (first | (refine TR.imp ?_; intro K hK; simp only [go_sem, hP, hn]; (repeat refine vc ?_); refine hK _ ?_; clear K hK) | refine TS.imp ?_))
    simp only [RetQ, go_sem]
theorem kends_k {T : World → Prop} (Tk : KT T) (n : Nd) (t : Int) (h : 1 ≤ n.stp) : Ct Go.Proofs.Tryz.prog T 55 [.agg n.cs, .d (.i .i64 t)] true (fun r => r = .d (.i .i64 (n.ends t))) := by
  have hnz : n.stp ≠ 0 := by omega
  refine Ct_of Tk.m Go.Proofs.Tryz.func55 rfl rfl Go.Proofs.Tryz.ntmps55 (by simp) (rs := [.tmp 4]) rfl fun E hP hn hT => ?_
  (repeat refine TS.imp ?_)
  refine TR.imp ?_; intro K hK; simp only [go_sem, hP, hn]; (repeat refine vc ?_); refine hK _ ?_; clear K hK
  (repeat refine TS.imp ?_)
  refine d5 (.p true 0 (.p true 2 (.alt 1 (.alt 3 (.p false 4 (.p false 5 (.p false 6 .nil))) .nil) .nil))) [] (by rw [hP]; kernel_rfl) (by kernel_rfl) (by simp only [go_sem, hP, hn]; try simp) (by exact fun _ _ h => h) ?_; intro K hK; simp only [go_sem, hP, hn]; (repeat refine vc ?_); refine p1 (by rw [hP, hT]; exact First_k Tk n 0) rfl rfl rfl trivial (by simp only [go_sem, hP, hn]; try trivial) (by simp only [go_sem, hP, hn]; try rfl) (by rw [hn]; decide) (by rfl) ?_; simp only [go_sem, hP, hn]; (repeat refine vc ?_); refine p1 (by rw [hP, hT]; exact Span_k Tk n) rfl rfl rfl trivial (by simp only [go_sem, hP, hn]; try trivial) (by simp only [go_sem, hP, hn]; try rfl) (by rw [hn]; decide) (by rfl) ?_; simp only [go_sem, hP, hn]; (repeat refine vc ?_); refine hK _ ?_; clear K hK
  unfold Nd.ends
  (repeat refine TS.imp ?_)
  refine TR.imp ?_; intro K hK; simp only [go_sem, hP, hn]; (repeat refine vc ?_); refine hK _ ?_; clear K hK
  (repeat refine TS.imp ?_)
  refine Tr.cond rfl (fun hb => ?_) (fun hb => ?_)
  · rw [if_pos (by simpa using hb)]
    (repeat (first | (refine TR.imp ?_; intro K hK; simp only [go_sem, hP, hn]; (repeat refine vc ?_); refine hK _ ?_; clear K hK) | refine TS.imp ?_))
    simp only [RetQ, go_sem]
  · rw [if_neg (by simpa using hb)]
    (repeat refine TS.imp ?_)
    refine TR.imp ?_; intro K hK; simp only [go_sem, hP, hn]; (repeat refine vc ?_); refine c1 (by rw [hP, hT]; exact Step_k Tk n) rfl rfl rfl trivial (by simp only [go_sem, hP, hn]; try trivial) (by simp only [go_sem, hP, hn]; try rfl) (by rw [hn]; decide) (by rfl) ?_; simp only [go_sem, hP, hn]; (repeat refine vc ?_); refine hK _ ?_; clear K hK
    (repeat (first | (refine TR.imp ?_; intro K hK; simp only [go_sem, hP, hn]; (repeat refine vc ?_); refine hK _ ?_; clear K hK) | refine TS.imp ?_))
    simp only [RetQ, go_sem]
theorem fewest_ne {l : List Int} (h : l.length ≠ 0) : fewestV l = mx (l.foldl mn (rd l 0)) 0 := by
  cases l with
  | nil => simp at h
  | cons x l => rfl
theorem take_mn {l : List Int} {j : Int} (h0 : 0 ≤ j) (h1 : j < l.length) (f : Int → Int → Int) (a : Int) : (l.take (j + 1).toNat).foldl f a = f ((l.take j.toNat).foldl f a) (rd l j) := by
  rw [take_rd h0 h1, List.foldl_append]; rfl
theorem least_r {T : World → Prop} (Tm : TP T) (l : List Int) (hl : l.length ≤ 65536) : Ct Go.Proofs.Tryz.prog T 85 [.d (.row [.i .i64 0] (l.map intC))] true (fun r => r = .d (.i .i64 (fewestV l))) := by
  refine Ct_of Tm Go.Proofs.Tryz.func85 rfl rfl Go.Proofs.Tryz.ntmps85 (by simp) (rs := [.tmp 2]) rfl fun E hP hn hT => ?_
  (repeat (first | (refine TR.imp ?_; intro K hK; simp only [go_sem, hP, hn]; (repeat refine vc ?_); refine hK _ ?_; clear K hK) | refine TS.imp ?_))
  refine Tr.cond rfl (fun h1 => ?_) (fun h1 => ?_)
  · obtain rfl : l = [] := by simpa using h1
    (repeat (first | (refine TR.imp ?_; intro K hK; simp only [go_sem, hP, hn]; (repeat refine vc ?_); refine hK _ ?_; clear K hK) | refine TS.imp ?_))
    simp only [RetQ, go_sem]
    rfl
  have hn : l.length ≠ 0 := by
    have : ¬ (l.length : Int) = 0 := by simpa using h1
    omega
  rw [fewest_ne hn]
  clear h1
  (repeat refine TS.imp ?_)
  refine TR.imp ?_; intro K hK; simp only [go_sem, hP, hn]; (repeat refine vc ?_); refine hK _ ?_; clear K hK
  (repeat refine TS.imp ?_)
  refine TR.imp ?_; intro K hK; simp only [go_sem, hP, hn]; (repeat refine vc ?_); refine hK _ ?_; clear K hK
  (repeat refine TS.imp ?_)
  refine Tr.le (Le.keep [0, 3, 4]) ?_; simp only [List.map_cons, List.map_nil, lk, Nat.reduceEqDiff, reduceIte]
  refine Tr.loop (fun q s => ∃ j : Int, s = ⟨[(0, .d (.row [.i .i64 0] (l.map intC))), (3, .d (.i .i64 ((l.take j.toNat).foldl mn (rd l 0)))), (4, .d (.i .i64 j))], []⟩ ∧ 0 ≤ j ∧ j + q = l.length) l.length ⟨_, (Le.mv (by simp only [go_sem, hP, hn]; first | done | (simp; done) | (simp [intC]; done) | (repeat (first | rfl | constructor))) (by simp only [go_sem, hP, hn]; first | done | (simp; done) | (simp [intC]; done) | (repeat (first | rfl | constructor)))), 0, rfl, by omega, by omega⟩ ?_
  rintro q s ⟨j, rfl, j0, jq⟩
  (repeat refine TS.imp ?_)
  refine TR.imp ?_; intro K hK; simp only [go_sem, hP, hn]; (repeat refine vc ?_); refine hK _ ?_; clear K hK
  (repeat refine TS.imp ?_)
  refine Tr.cond rfl (fun hb => ?_) (fun hb => ?_)
  · have hj : j < l.length := by simpa using hb
    have ht := take_mn j0 hj mn (rd l 0)
    generalize (l.take j.toNat).foldl mn (rd l 0) = t at *
    clear hb
    unfold mn at ht
    (repeat refine TS.imp ?_)
    refine TR.imp ?_; intro K hK; simp only [go_sem, hP, hn]; (repeat refine vc ?_); refine hK _ ?_; clear K hK
    (repeat refine TS.imp ?_)
    refine Tr.cond rfl (fun hc => ?_) (fun hc => ?_)
    · rw [if_pos (by simpa using hc)] at ht
      (repeat refine TS.imp ?_)
      refine TR.imp ?_; intro K hK; simp only [go_sem, hP, hn]; (repeat refine vc ?_); refine hK _ ?_; clear K hK
      (repeat refine TS.imp ?_)
      refine TR.imp ?_; intro K hK; simp only [go_sem, hP, hn]; (repeat refine vc ?_); refine hK _ ?_; clear K hK
      (repeat refine TS.imp ?_)
      rw [w64 (x := j + 1) (by omega) (by omega)]
      refine ⟨q - 1, _, by omega, ?_, j + 1, rfl, by omega, by omega⟩
      unfold mn
      rw [ht]
      exact (Le.mv (by simp only [go_sem, hP, hn]; first | done | (simp; done) | (simp [intC]; done) | (repeat (first | rfl | constructor))) (by simp only [go_sem, hP, hn]; first | done | (simp; done) | (simp [intC]; done) | (repeat (first | rfl | constructor))))
    · rw [if_neg (by simpa using hc)] at ht
      (repeat refine TS.imp ?_)
      refine TR.imp ?_; intro K hK; simp only [go_sem, hP, hn]; (repeat refine vc ?_); refine hK _ ?_; clear K hK
      (repeat refine TS.imp ?_)
      rw [w64 (x := j + 1) (by omega) (by omega)]
      refine ⟨q - 1, _, by omega, ?_, j + 1, rfl, by omega, by omega⟩
      unfold mn
      rw [ht]
      exact (Le.mv (by simp only [go_sem, hP, hn]; first | done | (simp; done) | (simp [intC]; done) | (repeat (first | rfl | constructor))) (by simp only [go_sem, hP, hn]; first | done | (simp; done) | (simp [intC]; done) | (repeat (first | rfl | constructor))))
  · rw [List.take_of_length_le (by have := of_decide_eq_false hb; omega)]
    generalize l.foldl mn (rd l 0) = t
    (repeat refine TS.imp ?_)
    refine TR.imp ?_; intro K hK; simp only [go_sem, hP, hn]; (repeat refine vc ?_); refine hK _ ?_; clear K hK
    (repeat refine TS.imp ?_)
    unfold mx
    refine Tr.cond rfl (fun hc => ?_) (fun hc => ?_)
    · have : t < 0 := by simpa using hc
      rw [if_pos (by omega)]
      (repeat (first | (refine TR.imp ?_; intro K hK; simp only [go_sem, hP, hn]; (repeat refine vc ?_); refine hK _ ?_; clear K hK) | refine TS.imp ?_))
      simp only [RetQ, go_sem]
    · have : ¬ t < 0 := by simpa using hc
      rw [if_neg (by omega)]
      (repeat (first | (refine TR.imp ?_; intro K hK; simp only [go_sem, hP, hn]; (repeat refine vc ?_); refine hK _ ?_; clear K hK) | refine TS.imp ?_))
      simp only [RetQ, go_sem]
theorem fewest_k {T : World → Prop} (Tm : TP T) (l : List Int) (hl : l.length ≤ 65536) : Ct Go.Proofs.Tryz.prog T 52 [.d (.row [.i .i64 0] (l.map intC))] true (fun r => r = .d (.i .i64 (fewestV l))) := by
  refine Ct_of Tm Go.Proofs.Tryz.func52 rfl rfl Go.Proofs.Tryz.ntmps52 (by simp) (rs := [.tmp 2]) rfl fun E hP hn hT => ?_
  (repeat (first | (refine TR.imp ?_; intro K hK; simp only [go_sem, hP, hn]; (repeat refine vc ?_); refine hK _ ?_; clear K hK) | refine TS.imp ?_))
  refine Tr.cond rfl (fun h1 => ?_) (fun h1 => ?_)
  · obtain rfl : l = [] := by simpa using h1
    (repeat (first | (refine TR.imp ?_; intro K hK; simp only [go_sem, hP, hn]; (repeat refine vc ?_); refine hK _ ?_; clear K hK) | refine TS.imp ?_))
    simp only [RetQ, go_sem]
    rfl
  have hn : l.length ≠ 0 := by
    have : ¬ (l.length : Int) = 0 := by simpa using h1
    omega
  rw [fewest_ne hn]
  clear h1
  (repeat refine TS.imp ?_)
  refine TR.imp ?_; intro K hK; simp only [go_sem, hP, hn]; (repeat refine vc ?_); refine hK _ ?_; clear K hK
  (repeat refine TS.imp ?_)
  refine TR.imp ?_; intro K hK; simp only [go_sem, hP, hn]; (repeat refine vc ?_); refine hK _ ?_; clear K hK
  (repeat refine TS.imp ?_)
  refine Tr.le (Le.keep [3, 12, 13, 14]) ?_; simp only [List.map_cons, List.map_nil, lk, Nat.reduceEqDiff, reduceIte]
  refine Tr.loop (fun q s => ∃ j : Int, s = ⟨[(3, .d (.i .i64 ((l.take j.toNat).foldl mn (rd l 0)))), (12, .d (.row [.i .i64 0] (l.map intC))), (13, .d (.i .i64 l.length)), (14, .d (.i .i64 j))], []⟩ ∧ 0 ≤ j ∧ j + q = l.length) l.length ⟨_, (Le.mv (by simp only [go_sem, hP, hn]; first | done | (simp; done) | (simp [intC]; done) | (repeat (first | rfl | constructor))) (by simp only [go_sem, hP, hn]; first | done | (simp; done) | (simp [intC]; done) | (repeat (first | rfl | constructor)))), 0, rfl, by omega, by omega⟩ ?_
  rintro q s ⟨j, rfl, j0, jq⟩
  (repeat refine TS.imp ?_)
  refine TR.imp ?_; intro K hK; simp only [go_sem, hP, hn]; (repeat refine vc ?_); refine hK _ ?_; clear K hK
  (repeat refine TS.imp ?_)
  refine Tr.cond rfl (fun hb => ?_) (fun hb => ?_)
  · have hj : j < l.length := by simpa using hb
    have ht := take_mn j0 hj mn (rd l 0)
    rw [show ∀ a b : Int, mn a b = if b < a then b else a from fun _ _ => rfl] at ht
    generalize (l.take j.toNat).foldl mn (rd l 0) = t at *
    clear hb
    (repeat refine TS.imp ?_)
    refine TR.imp ?_; intro K hK; simp only [go_sem, hP, hn]; (repeat refine vc ?_); refine hK _ ?_; clear K hK
    (repeat refine TS.imp ?_)
    refine TR.imp ?_; intro K hK; simp only [go_sem, hP, hn]; (repeat refine vc ?_); refine hK _ ?_; clear K hK
    (repeat refine TS.imp ?_)
    refine TR.imp ?_; intro K hK; simp only [go_sem, hP, hn]; (repeat refine vc ?_); refine hK _ ?_; clear K hK
    (repeat refine TS.imp ?_)
    rw [w64 (x := j + 1) (by omega) (by omega)]
    refine ⟨q - 1, _, by omega, ?_, j + 1, rfl, by omega, by omega⟩
    rw [ht]
    exact (Le.mv (by simp only [go_sem, hP, hn]; first | done | (simp; done) | (simp [intC]; done) | (repeat (first | rfl | constructor))) (by simp only [go_sem, hP, hn]; first | done | (simp; done) | (simp [intC]; done) | (repeat (first | rfl | constructor))))
  · rw [List.take_of_length_le (by have := of_decide_eq_false hb; omega)]
    generalize l.foldl mn (rd l 0) = t
    (repeat (first | (refine TR.imp ?_; intro K hK; simp only [go_sem, hP, hn]; (repeat refine vc ?_); refine hK _ ?_; clear K hK) | refine TS.imp ?_))
    simp only [RetQ, go_sem]
    rfl
theorem Count_r {T : World → Prop} (Tm : TP T) (n : Nd) (l : List Int) (hl : l.length ≤ 65536) (h : rWin n.k = true → 1 ≤ n.rStp) : Ct Go.Proofs.Tryz.prog T 43 [.agg n.cs, .d (.row [.i .i64 0] (l.map intC))] true (fun r => r = .d (.i .i64 (n.rCount l))) := by
  refine Ct_of Tm Go.Proofs.Tryz.func43 rfl rfl Go.Proofs.Tryz.ntmps43 (by simp) (rs := [.tmp 4]) rfl fun E hP hn hT => ?_
  (repeat refine TS.imp ?_)
  refine TR.imp ?_; intro K hK; simp only [go_sem, hP, hn]; (repeat refine vc ?_); refine hK _ ?_; clear K hK
  (repeat refine TS.imp ?_)
  refine TR.imp ?_; intro K hK; simp only [go_sem, hP, hn]; (repeat refine vc ?_); refine c1 (by rw [hP, hT]; exact least_r Tm l hl) rfl rfl rfl trivial (by simp only [go_sem, hP, hn]; try trivial) (by simp only [go_sem, hP, hn]; try rfl) (by rw [hn]; decide) (by rfl) ?_; simp only [go_sem, hP, hn]; (repeat refine vc ?_); refine hK _ ?_; clear K hK
  (repeat refine TS.imp ?_)
  refine TR.imp ?_; intro K hK; simp only [go_sem, hP, hn]; (repeat refine vc ?_); refine c1 (by rw [hP, hT]; exact Windows_r Tm n.k) rfl rfl rfl trivial (by simp only [go_sem, hP, hn]; try trivial) (by simp only [go_sem, hP, hn]; try rfl) (by rw [hn]; decide) (by rfl) ?_; simp only [go_sem, hP, hn]; (repeat refine vc ?_); refine hK _ ?_; clear K hK
  unfold Nd.rCount
  generalize fewestV l = t
  (repeat refine TS.imp ?_)
  refine TR.imp ?_; intro K hK; simp only [go_sem, hP, hn]; (repeat refine vc ?_); refine hK _ ?_; clear K hK
  (repeat refine TS.imp ?_)
  refine Tr.cond rfl (fun hb => ?_) (fun hb => ?_)
  · rw [if_pos hb]
    simp only [Bool.and_eq_true] at hb
    (repeat refine TS.imp ?_)
    refine d5 (.p true 0 (.p true 1 (.p true 2 (.alt 3 (.p false 4 (.alt 5 (.p false 6 .nil) .nil)) .nil)))) [] (by rw [hP]; kernel_rfl) (by kernel_rfl) (by simp only [go_sem, hP, hn]; try simp) (by exact fun _ _ h => h) ?_; intro K hK; simp only [go_sem, hP, hn]; (repeat refine vc ?_); refine p1 (by rw [hP, hT]; exact Right_w Tm n) rfl rfl rfl trivial (by simp only [go_sem, hP, hn]; try trivial) (by simp only [go_sem, hP, hn]; try rfl) (by rw [hn]; decide) (by rfl) ?_; simp only [go_sem, hP, hn]; (repeat refine vc ?_); refine p1 (by rw [hP, hT]; exact ends_r Tm n (wrap64 (t + n.rRight)) (h hb.1)) rfl rfl rfl trivial (by simp only [go_sem, hP, hn]; try trivial) (by simp only [go_sem, hP, hn]; try rfl) (by rw [hn]; decide) (by rfl) ?_; simp only [go_sem, hP, hn]; (repeat refine vc ?_); refine hK _ ?_; clear K hK
    (repeat (first | (refine TR.imp ?_; intro K hK; simp only [go_sem, hP, hn]; (repeat refine vc ?_); refine hK _ ?_; clear K hK) | refine TS.imp ?_))
    simp only [RetQ, go_sem]
  rw [if_neg (by rw [hb]; decide)]
  (repeat refine TS.imp ?_)
  refine TR.imp ?_; intro K hK; simp only [go_sem, hP, hn]; (repeat refine vc ?_); refine hK _ ?_; clear K hK
  (repeat refine TS.imp ?_)
  refine Tr.cond rfl (fun hc => ?_) (fun hc => ?_)
  · rw [if_pos hc]
    (repeat (first | (refine TR.imp ?_; intro K hK; simp only [go_sem, hP, hn]; (repeat refine vc ?_); refine hK _ ?_; clear K hK) | refine TS.imp ?_))
    simp only [RetQ, go_sem]
  · rw [if_neg (by rw [hc]; decide)]
    (repeat (first | (refine TR.imp ?_; intro K hK; simp only [go_sem, hP, hn]; (repeat refine vc ?_); refine hK _ ?_; clear K hK) | refine TS.imp ?_))
    simp only [RetQ, go_sem]
theorem kReady_k {T : World → Prop} (Tk : KT T) (n : Nd) (l : List Int) (hl : l.length ≤ 65536) (h : n.has 17 = true → 1 ≤ n.stp) : Ct Go.Proofs.Tryz.prog T 32 [.agg n.cs, .d (.row [.i .i64 0] (l.map intC))] true (fun r => r = .d (.i .i64 (n.ready l))) := by
  refine Ct_of Tk.m Go.Proofs.Tryz.func32 rfl rfl Go.Proofs.Tryz.ntmps32 (by simp) (rs := [.tmp 4]) rfl fun E hP hn hT => ?_
  (repeat refine TS.imp ?_)
  refine TR.imp ?_; intro K hK; simp only [go_sem, hP, hn]; (repeat refine vc ?_); refine hK _ ?_; clear K hK
  (repeat refine TS.imp ?_)
  refine TR.imp ?_; intro K hK; simp only [go_sem, hP, hn]; (repeat refine vc ?_); refine c1 (by rw [hP, hT]; exact fewest_k Tk.m l hl) rfl rfl rfl trivial (by simp only [go_sem, hP, hn]; try trivial) (by simp only [go_sem, hP, hn]; try rfl) (by rw [hn]; decide) (by rfl) ?_; simp only [go_sem, hP, hn]; (repeat refine vc ?_); refine hK _ ?_; clear K hK
  unfold Nd.ready
  generalize fewestV l = t
  (repeat refine TS.imp ?_)
  refine TR.imp ?_; intro K hK; simp only [go_sem, hP, hn]; (repeat refine vc ?_); refine hK _ ?_; clear K hK
  (repeat refine TS.imp ?_)
  refine Tr.cond rfl (fun hb => ?_) (fun hb => ?_)
  · rw [if_pos hb]
    (repeat (first | (refine TR.imp ?_; intro K hK; simp only [go_sem, hP, hn]; (repeat refine vc ?_); refine hK _ ?_; clear K hK) | refine TS.imp ?_))
    simp only [RetQ, go_sem]
  rw [if_neg (by rw [hb]; decide)]
  (repeat refine TS.imp ?_)
  refine TR.imp ?_; intro K hK; simp only [go_sem, hP, hn]; (repeat refine vc ?_); refine c2 (fun hg => by rw [hP, hT]; exact has_k Tk n 17) rfl rfl rfl (fun hg => trivial) (fun hg => by clear hK; revert hg; simp only [go_sem, hP, hn]; first | trivial | omega | (simp; done) | (simp +contextual; done) | grind) (fun hg => by simp only [go_sem, hP, hn]; try rfl) (by rw [hn]; decide) (by rfl) ?_; simp only [go_sem, hP, hn]; (repeat refine vc ?_); refine hK _ ?_; clear K hK
  (repeat refine TS.imp ?_)
  refine Tr.cond rfl (fun hc => ?_) (fun hc => ?_)
  · rw [if_pos hc]
    simp only [Bool.and_eq_true] at hc
    (repeat refine TS.imp ?_)
    refine TR.imp ?_; intro K hK; simp only [go_sem, hP, hn]; (repeat refine vc ?_); refine c1 (by rw [hP, hT]; exact kends_k Tk n t (h hc.2)) rfl rfl rfl trivial (by simp only [go_sem, hP, hn]; try trivial) (by simp only [go_sem, hP, hn]; try rfl) (by rw [hn]; decide) (by rfl) ?_; simp only [go_sem, hP, hn]; (repeat refine vc ?_); refine hK _ ?_; clear K hK
    (repeat (first | (refine TR.imp ?_; intro K hK; simp only [go_sem, hP, hn]; (repeat refine vc ?_); refine hK _ ?_; clear K hK) | refine TS.imp ?_))
    simp only [RetQ, go_sem]
  · rw [if_neg (by rw [hc]; decide)]
    (repeat (first | (refine TR.imp ?_; intro K hK; simp only [go_sem, hP, hn]; (repeat refine vc ?_); refine hK _ ?_; clear K hK) | refine TS.imp ?_))
    simp only [RetQ, go_sem]
theorem kCount_k {T : World → Prop} (Tk : KT T) (n : Nd) (l : List Int) (hl : l.length ≤ 65536) (h : n.has 17 = true → 1 ≤ n.stp) : Ct Go.Proofs.Tryz.prog T 30 [.agg n.cs, .d (.row [.i .i64 0] (l.map intC))] true (fun r => r = .d (.i .i64 (n.count l))) := by
  refine Ct_of Tk.m Go.Proofs.Tryz.func30 rfl rfl Go.Proofs.Tryz.ntmps30 (by simp) (rs := [.tmp 4]) rfl fun E hP hn hT => ?_
  (repeat refine TS.imp ?_)
  refine TR.imp ?_; intro K hK; simp only [go_sem, hP, hn]; (repeat refine vc ?_); refine hK _ ?_; clear K hK
  (repeat refine TS.imp ?_)
  refine TR.imp ?_; intro K hK; simp only [go_sem, hP, hn]; (repeat refine vc ?_); refine c1 (by rw [hP, hT]; exact fewest_k Tk.m l hl) rfl rfl rfl trivial (by simp only [go_sem, hP, hn]; try trivial) (by simp only [go_sem, hP, hn]; try rfl) (by rw [hn]; decide) (by rfl) ?_; simp only [go_sem, hP, hn]; (repeat refine vc ?_); refine hK _ ?_; clear K hK
  unfold Nd.count
  generalize fewestV l = t
  (repeat refine TS.imp ?_)
  refine TR.imp ?_; intro K hK; simp only [go_sem, hP, hn]; (repeat refine vc ?_); refine hK _ ?_; clear K hK
  (repeat refine TS.imp ?_)
  refine Tr.cond rfl (fun hb => ?_) (fun hb => ?_)
  · rw [if_pos hb]
    (repeat (first | (refine TR.imp ?_; intro K hK; simp only [go_sem, hP, hn]; (repeat refine vc ?_); refine hK _ ?_; clear K hK) | refine TS.imp ?_))
    simp only [RetQ, go_sem]
  rw [if_neg (by rw [hb]; decide)]
  (repeat refine TS.imp ?_)
  refine TR.imp ?_; intro K hK; simp only [go_sem, hP, hn]; (repeat refine vc ?_); refine c1 (by rw [hP, hT]; exact has_k Tk n 17) rfl rfl rfl trivial (by simp only [go_sem, hP, hn]; try trivial) (by simp only [go_sem, hP, hn]; try rfl) (by rw [hn]; decide) (by rfl) ?_; simp only [go_sem, hP, hn]; (repeat refine vc ?_); refine hK _ ?_; clear K hK
  (repeat refine TS.imp ?_)
  refine Tr.cond rfl (fun hc => ?_) (fun hc => ?_)
  · rw [if_pos hc]
    (repeat refine TS.imp ?_)
    refine TR.imp ?_; intro K hK; simp only [go_sem, hP, hn]; (repeat refine vc ?_); refine c1 (by rw [hP, hT]; exact Pads_w Tk n) rfl rfl rfl trivial (by simp only [go_sem, hP, hn]; try trivial) (by simp only [go_sem, hP, hn]; try rfl) (by rw [hn]; decide) (by rfl) ?_; simp only [go_sem, hP, hn]; (repeat refine vc ?_); refine hK _ ?_; clear K hK
    (repeat refine TS.imp ?_)
    refine TR.imp ?_; intro K hK; simp only [go_sem, hP, hn]; (repeat refine vc ?_); refine c1 (by rw [hP, hT]; exact kends_k Tk n (wrap64 (t + n.padR)) (h hc)) rfl rfl rfl trivial (by simp only [go_sem, hP, hn]; try trivial) (by simp only [go_sem, hP, hn]; try rfl) (by rw [hn]; decide) (by rfl) ?_; simp only [go_sem, hP, hn]; (repeat refine vc ?_); refine hK _ ?_; clear K hK
    (repeat (first | (refine TR.imp ?_; intro K hK; simp only [go_sem, hP, hn]; (repeat refine vc ?_); refine hK _ ?_; clear K hK) | refine TS.imp ?_))
    simp only [RetQ, go_sem]
  rw [if_neg (by rw [hc]; decide)]
  (repeat refine TS.imp ?_)
  refine TR.imp ?_; intro K hK; simp only [go_sem, hP, hn]; (repeat refine vc ?_); refine hK _ ?_; clear K hK
  (repeat refine TS.imp ?_)
  refine Tr.cond rfl (fun hd => ?_) (fun hd => ?_)
  · rw [if_pos hd]
    (repeat (first | (refine TR.imp ?_; intro K hK; simp only [go_sem, hP, hn]; (repeat refine vc ?_); refine hK _ ?_; clear K hK) | refine TS.imp ?_))
    simp only [RetQ, go_sem]
  · rw [if_neg (by rw [hd]; decide)]
    (repeat (first | (refine TR.imp ?_; intro K hK; simp only [go_sem, hP, hn]; (repeat refine vc ?_); refine hK _ ?_; clear K hK) | refine TS.imp ?_))
    simp only [RetQ, go_sem]

section
attribute [local go_sem] rtup
/-- a graph whose nodes may be counted -/
structure CO (ns : List Nd) (os : List Int) : Prop where
  nd : ∀ i ∈ os, (1 ≤ i ∧ i ≤ ns.length) ∧ (∀ j ∈ (Aw.nd ns (i - 1)).inn, 0 ≤ j ∧ j ≤ ns.length) ∧ 1 ≤ (Aw.nd ns (i - 1)).rStp
  le : os.length ≤ 65536
def many62 (N : Int) : Bool := decide (N < 0) || decide (4611686018427387904 < N)
def cntO (ns : List Nd) (os : List Int) (g : Nd → List Int → Int) (N : Int) : List Int := if many62 N = true then [] else ordL 0 (cntF ns g) os (N :: List.replicate ns.length 0)
end
section
/-- a graph whose nodes may be walked in order -/
structure RO (ns : List Nd) (os : List Int) : Prop where
  nd : ∀ i ∈ os, (1 ≤ i ∧ i ≤ ns.length) ∧ (∀ j ∈ (Aw.nd ns (i - 1)).inn, 0 ≤ j ∧ j ≤ ns.length) ∧ 1 ≤ (Aw.nd ns (i - 1)).inn.length
  le : os.length ≤ ns.length
attribute [local go_sem] prmT
end
section
/-! kernel.each, with closures -/
def col (fs : List (List Int)) (k : Int) : List Int := fs.map fun f => rd f k
def eachL (g : List Int → Int) (fs : List (List Int)) (w : Nat) : List Int := (List.range w).map fun k => g (col fs (k : Nat))
theorem eachL_take (g : List Int → Int) (fs : List (List Int)) (k : Nat) : eachL g fs (k + 1) = eachL g fs k ++ [g (col fs k)] := by
  unfold eachL
  rw [List.range_succ, List.map_append]; rfl
theorem F1_c {T : World → Prop} (Tm : TP T) (xs : List Int) (l0 : 1 ≤ xs.length) (hl : xs.length ≤ 65536) : Ct Go.Proofs.Tryz.prog T 66 [.d (.row [.i .i64 0] (xs.map intC))] true (fun r => r = .d (.i .i64 (rd xs (mostV xs)))) := by
  have hb := mostN_b xs l0 xs.length (Nat.le_refl _)
  refine Ct_of Tm Go.Proofs.Tryz.func66 rfl rfl Go.Proofs.Tryz.ntmps66 (by simp) (rs := [.tmp 2]) rfl fun E hP hn hT => ?_
  (repeat refine TS.imp ?_)
  refine TR.imp ?_; intro K hK; simp only [go_sem, hP, hn]; (repeat refine vc ?_); refine hK _ ?_; clear K hK
  (repeat refine TS.imp ?_)
  refine TR.imp ?_; intro K hK; simp only [go_sem, hP, hn]
  (repeat refine vc ?_)
  refine c1 (by rw [hP, hT]; exact most_c Tm xs l0 hl) rfl rfl rfl trivial (by simp only [go_sem, hP, hn]; try trivial) (by simp only [go_sem, hP, hn]; try rfl) (by rw [hn]; decide) (by rfl) ?_; simp only [go_sem, hP, hn]; (repeat refine vc ?_)
  have hb1 : 0 ≤ mostV xs ∧ mostV xs < xs.length := hb
  (repeat refine vc ?_)
  refine hK _ ?_; clear K hK
  (repeat (first | (refine TR.imp ?_; intro K hK; simp only [go_sem, hP, hn]; (repeat refine vc ?_); refine hK _ ?_; clear K hK) | refine TS.imp ?_))
  simp only [RetQ, go_sem]
theorem F2_c {T : World → Prop} (Tm : TP T) (xs : List Int) (l0 : 1 ≤ xs.length) (hl : xs.length ≤ 65536) (hx : ∀ x ∈ xs, in32 x) : Ct Go.Proofs.Tryz.prog T 68 [.d (.row [.i .i64 0] (xs.map intC))] true (fun r => r = .d (.i .i64 (meanV xs))) := by
  refine Ct_of Tm Go.Proofs.Tryz.func68 rfl rfl Go.Proofs.Tryz.ntmps68 (by simp) (rs := [.tmp 2]) rfl fun E hP hn hT => ?_
  (repeat refine TS.imp ?_)
  refine TR.imp ?_; intro K hK; simp only [go_sem, hP, hn]; (repeat refine vc ?_); refine hK _ ?_; clear K hK
  (repeat refine TS.imp ?_)
  refine TR.imp ?_; intro K hK; simp only [go_sem, hP, hn]; (repeat refine vc ?_); refine c1 (by rw [hP, hT]; exact (Mean_c Tm xs l0 hl hx).ct (num_ct _ _)) rfl rfl rfl trivial (by simp only [go_sem, hP, hn]; try trivial) (by simp only [go_sem, hP, hn]; try rfl) (by rw [hn]; decide) (by rfl) ?_; simp only [go_sem, hP, hn]; (repeat refine vc ?_); refine hK _ ?_; clear K hK
  (repeat refine TS.imp ?_)
  simp only [RetQ, go_sem]
theorem F3_c {T : World → Prop} (Tm : TP T) (xs : List Int) (hl : xs.length ≤ 65536) (hx : ∀ x ∈ xs, in32 x) : Ct Go.Proofs.Tryz.prog T 70 [.d (.row [.i .i64 0] (xs.map intC))] true (fun r => r = .d (.i .i64 (addV xs))) := by
  refine Ct_of Tm Go.Proofs.Tryz.func70 rfl rfl Go.Proofs.Tryz.ntmps70 (by simp) (rs := [.tmp 2]) rfl fun E hP hn hT => ?_
  (repeat refine TS.imp ?_)
  refine TR.imp ?_; intro K hK; simp only [go_sem, hP, hn]; (repeat refine vc ?_); refine hK _ ?_; clear K hK
  (repeat refine TS.imp ?_)
  refine TR.imp ?_; intro K hK; simp only [go_sem, hP, hn]; (repeat refine vc ?_); refine c1 (by rw [hP, hT]; exact (Add_c Tm xs hl hx).ct (num_ct _ _)) rfl rfl rfl trivial (by simp only [go_sem, hP, hn]; try trivial) (by simp only [go_sem, hP, hn]; try rfl) (by rw [hn]; decide) (by rfl) ?_; simp only [go_sem, hP, hn]; (repeat refine vc ?_); refine hK _ ?_; clear K hK
  (repeat refine TS.imp ?_)
  simp only [RetQ, go_sem]
def OB2 (n : Nd) (xs : List Int) : Hp := [(1000, .box 50 n.cs), (1001, .row 3 [.i .i64 0] (xs.map intC))]
attribute [local go_sem] OB2
theorem F4_c {T : World → Prop} (Tm : TP T) (n : Nd) (xs : List Int) (l0 : 1 ≤ xs.length) : Cg Go.Proofs.Tryz.prog T 72 (OB2 n xs) [.own 1001, .ptr 1000 0] (fun r H => H = OB2 n xs ∧ r = .d (.i .i64 (clampV (rd xs 0) n.low n.high))) := by
  refine Cg_of [1000, 1001] Tm Go.Proofs.Tryz.func72 rfl rfl Go.Proofs.Tryz.ntmps72 (by simp) rfl (rs := [.tmp 3]) rfl fun E hP hn hT hpn => ?_
  (repeat refine TS.imp ?_)
  refine TR.imp ?_; intro K hK; simp only [go_sem, hP, hn]; (repeat refine vc ?_); refine hK _ ?_; clear K hK
  (repeat refine TS.imp ?_)
  refine d5 (.p true 0 (.p true 1 (.p true 2 (.p true 3 (.p true 4 (.p true 5 (.p true 6 (.alt 7 (.p false 8 .nil) .nil)))))))) [] (by rw [hP]; kernel_rfl) (by kernel_rfl) (by simp only [go_sem, hP, hn]; try simp) (by exact fun _ _ h => h) ?_; intro K hK; simp only [go_sem, hP, hn]; (repeat refine vc ?_); refine p1 (by rw [hP, hT]; exact Clamp_c Tm (rd xs 0) n.low n.high) rfl rfl rfl trivial (by simp only [go_sem, hP, hn]; try trivial) (by simp only [go_sem, hP, hn]; try rfl) (by rw [hn]; decide) (by rfl) ?_; simp only [go_sem, hP, hn]; (repeat refine vc ?_); refine hK _ ?_; clear K hK
  (repeat refine TS.imp ?_)
  simp only [RetG, go_sem]; (repeat with_reducible refine vc ?_)
theorem F5_c {T : World → Prop} (Tm : TP T) (n : Nd) (xs : List Int) (l0 : 1 ≤ xs.length) (hx : in32 (rd xs 0)) : Cg Go.Proofs.Tryz.prog T 74 (OB2 n xs) [.own 1001, .ptr 1000 0] (fun r H => H = OB2 n xs ∧ r = .d (.i .i64 (scaleV (rd xs 0) n.mult n.shift))) := by
  refine Cg_of [1000, 1001] Tm Go.Proofs.Tryz.func74 rfl rfl Go.Proofs.Tryz.ntmps74 (by simp) rfl (rs := [.tmp 3]) rfl fun E hP hn hT hpn => ?_
  (repeat refine TS.imp ?_)
  refine TR.imp ?_; intro K hK; simp only [go_sem, hP, hn]; (repeat refine vc ?_); refine hK _ ?_; clear K hK
  (repeat refine TS.imp ?_)
  refine d5 (.p true 0 (.p true 1 (.p true 2 (.p true 3 (.p true 4 (.p true 5 (.p true 6 (.alt 7 (.p false 8 .nil) .nil)))))))) [] (by rw [hP]; kernel_rfl) (by kernel_rfl) (by simp only [go_sem, hP, hn]; try simp) (by exact fun _ _ h => h) ?_; intro K hK; simp only [go_sem, hP, hn]; (repeat refine vc ?_); refine p1 (by rw [hP, hT]; exact (Scale_c Tm (rd xs 0) n.mult n.shift hx).ct (num_ct _ _)) rfl rfl rfl trivial (by simp only [go_sem, hP, hn]; try trivial) (by simp only [go_sem, hP, hn]; try rfl) (by rw [hn]; decide) (by rfl) ?_; simp only [go_sem, hP, hn]; (repeat refine vc ?_); refine hK _ ?_; clear K hK
  (repeat refine TS.imp ?_)
  simp only [RetG, go_sem]; (repeat with_reducible refine vc ?_)
end
end Go.Proofs.YtgomeljgbjgbkaaGreatDoor.Aw
