/- The abstract walk, and contracts of Go functions: each call returns what the Lean function named tells. Conditions: those that each theorem names, none else. -/
import Derived.Test.YtgomeljgbjgbkaaDoorZFieldReach3
import Derived.RangeFuncNested
import Derived.Sort.LoopGhostIn
import Derived.OrdersIn
import Derived.TacticsIn
set_option linter.unusedVariables false
set_option linter.unusedSimpArgs false
set_option maxRecDepth 100000
set_option linter.unusedSectionVars false
set_option maxHeartbeats 4000000
namespace Go.Proofs.YtgomeljgbjgbkaaDoor.Aw
open Go.RowKit
attribute [local go_sem_proc] Nat.reduceAdd Nat.reduceMul Nat.reduceSub Nat.reduceEqDiff Nat.reduceLeDiff Nat.reduceBEq Nat.reduceBNe Int.reduceToNat reduceIte reduceCtorEq
attribute [local go_sem] initT SQ so pe he ev lk constS stp stc gdS nth pickS pickD loadS cellsAt okAt fieldAddrS fieldS partS indexAddrS indexS extractS binS binD binI isShift unS convS lenS sliceS bndI bndC mmS mm2 mmD builtS fillS okCells cellsS splS solid aliveL alive okS boxS allocS makeS bsliceS elemsOf dcells stF storeS frzA frz frzT frzS frzL frzO frzH appS srcS appVC killS killT killC killH killO k1 k2 S.has S.hasL St.add St.upd dropH lh cond_or cond_and rw_intC rw_intC0 rw_set rw_app rw_apps rw_rep rw_slice wr64 cond_true cond_false true_and and_true List.map_cons List.map_nil List.length_cons List.length_nil List.drop_succ_cons List.drop_zero List.take_succ_cons List.take_zero List.nil_append List.cons_append List.getD_cons_zero List.getD_cons_succ List.headD_cons List.length_map ite_true ite_false if_true if_false Bool.false_eq_true and_self forall_const List.drop_nil List.take_nil List.append_nil Option.map_some Option.map_none List.mapM_cons List.mapM_nil Option.bind_eq_bind Option.bind_some Option.pure_def knows resL resV oneS freshS freshL cv cvL stpL stcL or_true true_or or_false false_or List.all_cons List.all_nil Bool.and_self Bool.or_self Bool.true_and Bool.and_true Bool.or_false Bool.false_or implies_true flatD allm_nil allm_cons List.getElem?_cons_zero List.getElem?_cons_succ Nd.cs Nd.ds ml mln Option.isSome_some Option.isSome_none eq_self Int.toNat_natCast AP ldOk isLd inL subL crt chg chgS chgP idxs aliveW Option.toList_some Option.toList_none Option.toList RetG Nd.win frzA offK keepH aliveK nkH closedH closedO keysK inH St.upd rowO List.contains_cons List.contains_nil Bool.or_self Option.isNone_none Option.isNone_some Bool.not_true Bool.not_false gcs rowN e0N frzC
attribute [local go_sem] sz2 ag2 ok2 kk2 iu2 zc2 zd2 by2 sz3 ag3 ok3 kk3 iu3 zc3 zd3 by3 sz4 ag4 ok4 bo4 zc4 zd4 by4 sz5 ag5 ok5 kk5 iu5 zc5 zd5 by5 sz9 ag9 ok9 st9 zc9 zd9 by9 sz12 ag12 ok12 kk12 iu12 zc12 zd12 by12 sz15 ag15 ok15 zc15 by15 sz16 ag16 ok16 zc16 by16 sz21 ag21 ok21 kk21 iu21 zc21 zd21 by21 sz22 ag22 ok22 sl22 zc22 zd22 by22 sz24 ag24 ok24 sl24 zc24 zd24 by24 sz25 ag25 ok25 zc25 zd25 pl25 by25 fl25_0 fl25_1 fl25_2 fl25_3 fl25_4 sz26 ag26 ok26 zc26 zd26 pl26 by26 fl26_0 fl26_1 fl26_2 fl26_3 fl26_4 sz30 ag30 ok30 sl30 ar30 zc30 zd30 pl30 by30 sz31 ag31 ok31 sl31 ar31 zc31 zd31 pl31 by31 sz32 ag32 ok32 sl32 zc32 zd32 by32 sz36 ag36 ok36 kk36 iu36 zc36 zd36 by36 sz37 ag37 ok37 zc37 zd37 pl37 by37 fl37_0 fl37_1 fl37_2 fl37_3 sz38 ag38 ok38 zc38 zd38 pl38 by38 fl38_0 fl38_1 fl38_2 fl38_3 sz40 ag40 ok40 sl40 zc40 zd40 by40 sz41 ag41 ok41 zc41 zd41 pl41 by41 fl41_0 fl41_1 sz42 ag42 ok42 zc42 zd42 pl42 by42 fl42_0 fl42_1 sz44 ag44 ok44 kk44 iu44 zc44 zd44 by44 sz49 ag49 ok49 zc49 zd49 pl49 by49 fl49_0 fl49_1 fl49_2 fl49_3 fl49_4 fl49_5 fl49_6 fl49_7 fl49_8 fl49_9 fl49_10 fl49_11 fl49_12 fl49_13 fl49_14 sz50 ag50 ok50 zc50 zd50 pl50 by50 fl50_0 fl50_1 fl50_2 fl50_3 fl50_4 fl50_5 fl50_6 fl50_7 fl50_8 fl50_9 fl50_10 fl50_11 fl50_12 fl50_13 fl50_14 sz55 ag55 ok55 zc55 zd55 pl55 by55 fl55_0 fl55_1 fl55_2 sz56 ag56 ok56 zc56 zd56 pl56 by56 fl56_0 fl56_1 fl56_2 sz65 ag65 ok65 sl65 zc65 zd65 by65 sz68 ag68 ok68 zc68 by68 sz81 ag81 ok81 zc81 zd81 pl81 by81 fl81_0 fl81_1 fl81_2 fl81_3 sz82 ag82 ok82 zc82 zd82 pl82 by82 fl82_0 fl82_1 fl82_2 fl82_3 sz87 ag87 ok87 zc87 by87 sz88 ag88 ok88 zc88 zd88 pl88 by88 fl88_0 fl88_1 fl88_2 sz89 ag89 ok89 zc89 zd89 pl89 by89 fl89_0 fl89_1 fl89_2 sz92 ag92 ok92 zc92 by92 sz93 ag93 ok93 zc93 zd93 pl93 by93 fl93_0 fl93_1 sz94 ag94 ok94 zc94 zd94 pl94 by94 fl94_0 fl94_1 sz98 ag98 ok98 zc98 zd98 pl98 by98 fl98_0 fl98_1 fl98_2 sz99 ag99 ok99 zc99 zd99 pl99 by99 fl99_0 fl99_1 fl99_2 sz112 ag112 ok112 sl112 ar112 zc112 zd112 pl112 by112 sz113 ag113 ok113 sl113 ar113 zc113 zd113 pl113 by113 sz124 ag124 ok124 zc124 zd124 pl124 by124 fl124_0 fl124_1 sz125 ag125 ok125 sl125 ar125 zc125 zd125 pl125 by125 sz126 ag126 ok126 zc126 by126 sz130 ag130 ok130 zc130 by130 sz132 ag132 ok132 zc132 zd132 pl132 by132 fl132_0 fl132_1 sz133 ag133 ok133 zc133 zd133 pl133 by133 fl133_0 fl133_1 sz151 ag151 ok151 kk151 iu151 zc151 zd151 by151 sz155 ag155 ok155 zc155 by155
theorem cons0 (o : List Int) (x : Int) : (0 :: o).contains x = (x == 0 || o.contains x) := by simp only [List.contains_cons]
theorem order_r {T : World → Prop} (Tm : TP T) (wd lo hi out : Int) (ns : List Nd) (hns : ns.length ≤ 12) (hin : ∀ n ∈ ns, n.inn.length ≤ 65536) : Cg Go.Proofs.Tryd.prog T 41 [] [.agg (gcs wd lo hi out (.d (rowN ns)))] (fun r H => H = [] ∧ r = .d (.row [.i .i64 0] ((order ns).map intC))) := by
  refine Cg_of [] Tm Go.Proofs.Tryd.func41 rfl rfl Go.Proofs.Tryd.ntmps41 (by simp) rfl (rs := [.tmp 2]) rfl fun E hP hn hT hpn => ?_
  (repeat (first | (refine TR.imp ?_; intro K hK; simp only [go_sem, hP, hn]; (repeat refine vc ?_); refine hK _ ?_; clear K hK) | refine TS.imp ?_ | refine n9 (by decide) ?_))
  refine Tr.le (Le.keep [1, 3, 4]) ?_; simp only [List.map_cons, List.map_nil, lk, Nat.reduceEqDiff, reduceIte]
  refine Tr.le (Le.ren 9 3001 (by rw [hpn] <;> rfl) rfl rfl) ?_; simp only [renT, renH, renO, renS, renL, rn, go_sem, hP, hn]
  refine Tr.loop (fun m s => ∃ (k : Int) (o : List Int), s = ⟨[(1, .ptr 1 0), (3, .own 3001), (4, .d (.i .i64 k))], [(1, .box 26 (gcs wd lo hi out (.d (rowN ns)))), (3001, .row 3 [.i .i64 0] ((0 :: o).map intC))]⟩ ∧ 0 ≤ k ∧ k + m = ns.length ∧ order ns = ordR ns m o ∧ (o.length : Int) ≤ k) ns.length ⟨_, (Le.mv (by simp only [go_sem, hP, hn]; first | done | (simp; done) | (simp [intC]; done) | (repeat (first | rfl | constructor))) (by simp only [go_sem, hP, hn]; first | done | (simp; done) | (simp [intC]; done) | (repeat (first | rfl | constructor)))), 0, [], rfl, by omega, by omega, rfl, by simp⟩ ?_
  rintro m s ⟨k, o, rfl, hk0, hkm, hord, hok⟩
  (repeat (first | (refine TR.imp ?_; intro K hK; simp only [go_sem, hP, hn]; (repeat refine vc ?_); refine hK _ ?_; clear K hK) | refine TS.imp ?_ | refine n9 (by decide) ?_))
  refine Tr.cond rfl (fun hb => ?_) (fun hb => ?_)
  · have hk : k < ns.length := by simpa using hb
    have hnx0 : order ns = match nextO ns o ns.length 1 with
      | none => ordR ns (m - 1) o
      | some i => ordR ns (m - 1) (o ++ [i]) := by
      rw [hord]
      obtain ⟨m', rfl⟩ : ∃ m', m = m' + 1 := ⟨m - 1, by omega⟩
      rfl
    (repeat (first | (refine TR.imp ?_; intro K hK; simp only [go_sem, hP, hn]; (repeat refine vc ?_); refine hK _ ?_; clear K hK) | refine TS.imp ?_ | refine n9 (by decide) ?_))
    refine Tr.le (Le.keep [1, 3, 4, 5]) ?_; simp only [List.map_cons, List.map_nil, lk, Nat.reduceEqDiff, reduceIte]
    refine Tr.loop (fun m2 s => ∃ (i : Int), s = ⟨[(1, .ptr 1 0), (3, .own 3001), (4, .d (.i .i64 k)), (5, .d (.i .i64 i))], [(1, .box 26 (gcs wd lo hi out (.d (rowN ns)))), (3001, .row 3 [.i .i64 0] ((0 :: o).map intC))]⟩ ∧ 1 ≤ i ∧ i + m2 = ns.length + 1 ∧ nextO ns o ns.length 1 = nextO ns o m2 i) ns.length ⟨_, (Le.mv (by simp only [go_sem, hP, hn]; first | done | (simp; done) | (simp [intC]; done) | (repeat (first | rfl | constructor))) (by simp only [go_sem, hP, hn]; first | done | (simp; done) | (simp [intC]; done) | (repeat (first | rfl | constructor)))), 1, rfl, by omega, by omega, rfl⟩ ?_
    rintro m2 s ⟨i, rfl, hi0, him, hnx⟩
    (repeat (first | (refine TR.imp ?_; intro K hK; simp only [go_sem, hP, hn]; (repeat refine vc ?_); refine hK _ ?_; clear K hK) | refine TS.imp ?_ | refine n9 (by decide) ?_))
    refine Tr.cond rfl (fun hc => ?_) (fun hc => ?_)
    · have hi1 : i ≤ ns.length := by simpa using hc
      obtain ⟨m3, rfl⟩ : ∃ m3, m2 = m3 + 1 := ⟨m2 - 1, by omega⟩
      have hiw : wrap64 (i - 1) = i - 1 := w64 (by omega) (by omega)
      have hnd := rw_nd ns (i - 1) (by omega) (by omega)
      have hq := hin _ (nd_mem (ns := ns) (i := i - 1) (by omega) (by omega))
      have hmay : mayO ns o i = (!(0 :: o).contains i && (nd ns (i - 1)).inn.all fun j => (0 :: o).contains j) := by
        unfold mayO
        simp only [cons0, show (i == (0 : Int)) = false by simpa using (by omega : i ≠ 0), Bool.false_or]
      have hol : (0 :: o).length ≤ 4096 := by simp; omega
      (repeat (first | refine TS.imp ?_ | refine n9 (by decide) ?_))
      refine TR.imp ?_; intro K hK; simp only [go_sem, hP, hn]
      (repeat refine vc ?_)
      refine c1 (by rw [hP, hT]; exact has_c Tm (0 :: o) i hol) rfl rfl rfl trivial (by simp only [go_sem, hP, hn]; try trivial) (by simp only [go_sem, hP, hn]; try rfl) (by rw [hn]; decide) (by rfl) ?_; simp only [go_sem, hP, hn]; (repeat refine vc ?_)
      refine hK _ ?_; clear K hK
      refine Tr.le (Le.keep [1, 3, 4, 5, 6]) ?_; simp only [List.map_cons, List.map_nil, lk, Nat.reduceEqDiff, reduceIte]
      (repeat (first | refine TS.imp ?_ | refine n9 (by decide) ?_))
      refine TR.imp ?_; intro K hK; simp only [hiw, hnd, go_sem, hP, hn]; (repeat refine vc ?_); refine hK _ ?_; clear K hK
      generalize nd ns (i - 1) = q at hq hmay ⊢
      (repeat (first | (refine TR.imp ?_; intro K hK; simp only [go_sem, hP, hn]; (repeat refine vc ?_); refine hK _ ?_; clear K hK) | refine TS.imp ?_ | refine n9 (by decide) ?_))
      refine Tr.le (Le.keep [1, 3, 4, 5, 6, 7, 8]) ?_; simp only [List.map_cons, List.map_nil, lk, Nat.reduceEqDiff, reduceIte]
      refine Tr.loop (fun m4 s => ∃ (j : Int) (mv : Bool), s = ⟨[(1, .ptr 1 0), (3, .own 3001), (4, .d (.i .i64 k)), (5, .d (.i .i64 i)), (6, .d (.b mv)), (7, .d (.row [.i .i64 0] (q.inn.map intC))), (8, .d (.i .i64 j))], [(1, .box 26 (gcs wd lo hi out (.d (rowN ns)))), (3001, .row 3 [.i .i64 0] ((0 :: o).map intC))]⟩ ∧ 0 ≤ j ∧ j + m4 = q.inn.length ∧ mayO ns o i = (mv && (q.inn.drop j.toNat).all fun j => (0 :: o).contains j)) q.inn.length ⟨_, (Le.mv (by simp only [go_sem, hP, hn]; first | done | (simp; done) | (simp [intC]; done) | (repeat (first | rfl | constructor))) (by simp only [go_sem, hP, hn]; first | done | (simp; done) | (simp [intC]; done) | (repeat (first | rfl | constructor)))), 0, _, rfl, by omega, by omega, hmay⟩ ?_
      rintro m4 s ⟨j, mv, rfl, hj0, hjm, hmv⟩
      (repeat (first | (refine TR.imp ?_; intro K hK; simp only [go_sem, hP, hn]; (repeat refine vc ?_); refine hK _ ?_; clear K hK) | refine TS.imp ?_ | refine n9 (by decide) ?_))
      refine Tr.cond rfl (fun hd => ?_) (fun hd => ?_)
      · have hj : j < q.inn.length := by simpa using hd
        rw [drop_rd hj0 hj, List.all_cons, ← Bool.and_assoc] at hmv
        (repeat (first | refine TS.imp ?_ | refine n9 (by decide) ?_))
        refine TR.imp ?_; intro K hK; simp only [go_sem, hP, hn]
        (repeat refine vc ?_)
        refine c2 (fun hg => by rw [hP, hT]; exact has_c Tm (0 :: o) (rd q.inn j) hol) rfl rfl rfl (fun hg => trivial) (fun hg => by clear hK; revert hg; simp only [go_sem, hP, hn]; first | trivial | omega | (simp; done) | (simp +contextual; done) | grind) (fun hg => by simp only [go_sem, hP, hn]; try rfl) (by rw [hn]; decide) (by rfl) ?_; simp only [go_sem, hP, hn]; (repeat refine vc ?_)
        (repeat refine vc ?_)
        refine hK _ ?_; clear K hK
        (repeat (first | (refine TR.imp ?_; intro K hK; simp only [go_sem, hP, hn]; (repeat refine vc ?_); refine hK _ ?_; clear K hK) | refine TS.imp ?_ | refine n9 (by decide) ?_))
        rw [w64 (x := j + 1) (by omega) (by omega)]
        refine ⟨m4 - 1, _, by omega, ?_, j + 1, (mv && (0 :: o).contains (rd q.inn j)), rfl, by omega, by omega, hmv⟩
        exact (Le.mv (by simp only [go_sem, hP, hn]; first | done | (simp; done) | (simp [intC]; done) | (repeat (first | rfl | constructor))) (by simp only [go_sem, hP, hn]; first | done | (simp; done) | (simp [intC]; done) | (repeat (first | rfl | constructor))))
      · rw [drop_end (by simpa using hd)] at hmv
        have hmv2 : mayO ns o i = mv := by rw [hmv]; simp
        (repeat (first | (refine TR.imp ?_; intro K hK; simp only [go_sem, hP, hn]; (repeat refine vc ?_); refine hK _ ?_; clear K hK) | refine TS.imp ?_ | refine n9 (by decide) ?_))
        refine Tr.cond rfl (fun he => ?_) (fun he => ?_)
        · subst he
          (repeat (first | (refine TR.imp ?_; intro K hK; simp only [go_sem, hP, hn]; (repeat refine vc ?_); refine hK _ ?_; clear K hK) | refine TS.imp ?_ | refine n9 (by decide) ?_))
          rw [w64 (x := k + 1) (by omega) (by omega)]
          refine ⟨m - 1, _, by omega, ?_, k + 1, o ++ [i], rfl, by omega, by omega, ?_, by simp; omega⟩
          · refine Le.trans (b := ⟨[(1, .ptr 1 0), (3, .own 54), (4, .d (.i .i64 (k + 1)))], [(1, .box 26 (gcs wd lo hi out (.d (rowN ns)))), (54, .row 3 [.i .i64 0] ((0 :: (o ++ [i])).map intC))]⟩) (Le.mv (by simp only [go_sem, hP, hn]; first | done | (simp; done) | (simp [intC]; done) | (repeat (first | rfl | constructor))) (by simp only [go_sem, hP, hn]; first | done | (simp; done) | (simp [intC]; done) | (repeat (first | rfl | constructor)))) ?_
            refine Le.trans (Le.ren 54 3001 (by rw [hpn] <;> rfl) rfl rfl) ?_; simp only [renT, renH, renO, renS, renL, rn, go_sem, hP, hn]
            exact (Le.mv (by simp only [go_sem, hP, hn]; first | done | (simp; done) | (simp [intC]; done) | (repeat (first | rfl | constructor))) (by simp only [go_sem, hP, hn]; first | done | (simp; done) | (simp [intC]; done) | (repeat (first | rfl | constructor))))
          · rw [hnx0, hnx]; show (match (if mayO ns o i = true then some i else _) with | none => _ | some i => _) = _; rw [if_pos hmv2]
        · subst he
          (repeat (first | (refine TR.imp ?_; intro K hK; simp only [go_sem, hP, hn]; (repeat refine vc ?_); refine hK _ ?_; clear K hK) | refine TS.imp ?_ | refine n9 (by decide) ?_))
          rw [w64 (x := i + 1) (by omega) (by omega)]
          refine ⟨m3, _, by omega, ?_, i + 1, rfl, by omega, by omega, ?_⟩
          · exact (Le.mv (by simp only [go_sem, hP, hn]; first | done | (simp; done) | (simp [intC]; done) | (repeat (first | rfl | constructor))) (by simp only [go_sem, hP, hn]; first | done | (simp; done) | (simp [intC]; done) | (repeat (first | rfl | constructor))))
          · rw [hnx]; show (if mayO ns o i = true then _ else _) = _; rw [if_neg (by rw [hmv2]; decide)]
    · have hm2 : m2 = 0 := by have := of_decide_eq_false hc; omega
      subst hm2
      (repeat (first | (refine TR.imp ?_; intro K hK; simp only [go_sem, hP, hn]; (repeat refine vc ?_); refine hK _ ?_; clear K hK) | refine TS.imp ?_ | refine n9 (by decide) ?_))
      rw [w64 (x := k + 1) (by omega) (by omega)]
      refine ⟨m - 1, _, by omega, ?_, k + 1, o, rfl, by omega, by omega, ?_, by omega⟩
      · exact (Le.mv (by simp only [go_sem, hP, hn]; first | done | (simp; done) | (simp [intC]; done) | (repeat (first | rfl | constructor))) (by simp only [go_sem, hP, hn]; first | done | (simp; done) | (simp [intC]; done) | (repeat (first | rfl | constructor))))
      · rw [hnx0, hnx]; rfl
  · have hm : m = 0 := by have := of_decide_eq_false hb; omega
    subst hm
    refine Tr.le (Le.freeze 3001) ?_
    simp only [go_sem, hP, hn]
    (repeat (first | refine TS.imp ?_ | refine n9 (by decide) ?_))
    refine TR.imp ?_; intro K hK; simp only [go_sem, hP, hn]; (repeat refine vc ?_); refine hK _ ?_; clear K hK
    (repeat (first | refine TS.imp ?_ | refine n9 (by decide) ?_))
    simp only [RetG, go_sem]; (repeat with_reducible refine vc ?_)
    rw [hord, List.take_of_length_le (by simp)]; rfl
/-- what ref16.Look tells, walking along an order -/
def lookM (ns : List Nd) : List Int → List Int → List Int → Int × List Int × List Int
  | [], W, R => (0, W, R)
  | i :: r, W, R =>
    if ((nd ns (i - 1)).rchk ((nd ns (i - 1)).inn.map (rd W)) != 0) = true then ((nd ns (i - 1)).rchk ((nd ns (i - 1)).inn.map (rd W)), [], [])
    else if decide ((nd ns (i - 1)).rate ((nd ns (i - 1)).inn.map (rd R)) < 0) = true then (15, [], [])
    else lookM ns r (W.set i.toNat ((nd ns (i - 1)).rwide ((nd ns (i - 1)).inn.map (rd W)))) (R.set i.toNat ((nd ns (i - 1)).rate ((nd ns (i - 1)).inn.map (rd R))))
def lookR (wd lo hi out : Int) (ns : List Nd) : Int × List Int × List Int × List Int :=
  if (mayG wd lo hi out ns != 0) = true then (mayG wd lo hi out ns, [], [], [])
  else if decide (((order ns).length : Int) < ns.length) = true then (13, [], [], [])
  else match lookM ns (order ns) (wd :: List.replicate ns.length 0) (1 :: List.replicate ns.length 0) with
    | (e, W, R) => if (e != 0) = true then (e, [], [], []) else (0, order ns, W, R)
theorem lookM_cons (ns : List Nd) (i : Int) (r W R : List Int) : lookM ns (i :: r) W R = if ((nd ns (i - 1)).rchk ((nd ns (i - 1)).inn.map (rd W)) != 0) = true then ((nd ns (i - 1)).rchk ((nd ns (i - 1)).inn.map (rd W)), [], [])
    else if decide ((nd ns (i - 1)).rate ((nd ns (i - 1)).inn.map (rd R)) < 0) = true then (15, [], [])
    else lookM ns r (W.set i.toNat ((nd ns (i - 1)).rwide ((nd ns (i - 1)).inn.map (rd W)))) (R.set i.toNat ((nd ns (i - 1)).rate ((nd ns (i - 1)).inn.map (rd R)))) := rfl
def rtup (q : Int × List Int × List Int × List Int) : S := .agg [.d (.row [.i .i64 0] (q.2.1.map intC)), .d (.row [.i .i64 0] (q.2.2.1.map intC)), .d (.row [.i .i64 0] (q.2.2.2.map intC)), .d (.i .i64 q.1)]
theorem rd_set_same {l : List Int} {i v : Int} (hi : 0 ≤ i) (hi2 : i < l.length) : rd (l.set i.toNat v) i = v := by
  unfold rd
  rw [List.getD_eq_getElem?_getD, List.getElem?_set, if_pos rfl, if_pos (by omega)]; rfl
theorem Look_r {T : World → Prop} (Tm : TP T) (wd lo hi out : Int) (ns : List Nd) (hns : ns.length ≤ 65536) (hin : ∀ n ∈ ns, n.inn.length ≤ 4096 ∧ n.ws.length ≤ 65536 ∧ n.bs.length ≤ 65536) : Cg Go.Proofs.Tryd.prog T 16 [] [.agg (gcs wd lo hi out (.d (rowN ns)))] (fun r H => H = [] ∧ r = rtup (lookR wd lo hi out ns)) := by
  refine Cg_of [] Tm Go.Proofs.Tryd.func16 rfl rfl Go.Proofs.Tryd.ntmps16 (by simp) rfl (rs := [.cell 2 38]) rfl fun E hP hn hT hpn => ?_
  (repeat (first | refine TS.imp ?_ | refine n9 (by decide) ?_))
  refine TR.imp ?_; intro K hK; simp only [go_sem, hP, hn]; (repeat refine vc ?_); refine hK _ ?_; clear K hK
  (repeat (first | refine TS.imp ?_ | refine n9 (by decide) ?_))
  refine TR.imp ?_; intro K hK; simp only [go_sem, hP, hn]
  (repeat refine vc ?_)
  refine c1 (by rw [hP, hT]; exact first_r Tm wd lo hi out ns hns (fun n h => by have := hin n h; omega)) rfl rfl rfl trivial (by simp only [go_sem, hP, hn]; try trivial) (by simp only [go_sem, hP, hn]; try rfl) (by rw [hn]; decide) (by rfl) ?_; simp only [go_sem, hP, hn]; (repeat refine vc ?_)
  refine hK _ ?_; clear K hK
  (repeat (first | (refine TR.imp ?_; intro K hK; simp only [go_sem, hP, hn]; (repeat refine vc ?_); refine hK _ ?_; clear K hK) | refine TS.imp ?_ | refine n9 (by decide) ?_))
  refine Tr.cond rfl (fun h1 => ?_) (fun h1 => ?_)
  · (repeat (first | refine TS.imp ?_ | refine n9 (by decide) ?_))
    refine TR.imp ?_; intro K hK; simp only [go_sem, hP, hn]; (repeat refine vc ?_); refine hK _ ?_; clear K hK
    refine Tr.le (Le.wbox 2 [.d (.row [.i .i64 0] []), .d (.row [.i .i64 0] []), .d (.row [.i .i64 0] []), _] rfl ⟨.inr ⟨rfl, _, rfl⟩, .inr ⟨rfl, _, rfl⟩, .inr ⟨rfl, _, rfl⟩, .inl rfl, trivial⟩) ?_; simp only [go_sem, hP, hn]
    (repeat (first | (refine TR.imp ?_; intro K hK; simp only [go_sem, hP, hn]; (repeat refine vc ?_); refine hK _ ?_; clear K hK) | refine TS.imp ?_ | refine n9 (by decide) ?_))
    simp only [RetG, go_sem]; (repeat with_reducible refine vc ?_)
    rw [show lookR wd lo hi out ns = (mayG wd lo hi out ns, [], [], []) from if_pos h1]; rfl
  have hmay : mayG wd lo hi out ns = 0 := bne_eq_false_iff_eq.mp h1
  have hLG : lookR wd lo hi out ns = if decide (((order ns).length : Int) < ns.length) = true then (13, [], [], []) else match lookM ns (order ns) (wd :: List.replicate ns.length 0) (1 :: List.replicate ns.length 0) with | (e, W, R) => if (e != 0) = true then (e, [], [], []) else (0, order ns, W, R) := by
    unfold lookR; rw [if_neg (by rw [h1]; decide)]
  have hN := mayG_ok hmay
  clear h1
  (repeat (first | refine TS.imp ?_ | refine n9 (by decide) ?_))
  refine TR.imp ?_; intro K hK; simp only [go_sem, hP, hn]
  (repeat refine vc ?_)
  refine CallN_cs (Hi := [] ) (by rw [hP, hT]; exact  order_r Tm wd lo hi out ns hN.2.1 (fun n h => by have := hin n h; omega)) rfl rfl rfl trivial (by simp only [go_sem, hP, hn]; try trivial) (by simp only [go_sem, hP, hn]; try rfl) (by simp only [inH, go_sem, hP, hn]; try simp) (by rw [hn]; decide) ?_; simp only [go_sem, hP, hn]; (repeat refine vc ?_)
  refine hK _ ?_; clear K hK
  (repeat (first | (refine TR.imp ?_; intro K hK; simp only [go_sem, hP, hn]; (repeat refine vc ?_); refine hK _ ?_; clear K hK) | refine TS.imp ?_ | refine n9 (by decide) ?_))
  refine Tr.cond rfl (fun h2 => ?_) (fun h2 => ?_)
  · (repeat (first | refine TS.imp ?_ | refine n9 (by decide) ?_))
    refine TR.imp ?_; intro K hK; simp only [go_sem, hP, hn]; (repeat refine vc ?_); refine hK _ ?_; clear K hK
    refine Tr.le (Le.wbox 2 [.d (.row [.i .i64 0] []), .d (.row [.i .i64 0] []), .d (.row [.i .i64 0] []), _] rfl ⟨.inr ⟨rfl, _, rfl⟩, .inr ⟨rfl, _, rfl⟩, .inr ⟨rfl, _, rfl⟩, .inl rfl, trivial⟩) ?_; simp only [go_sem, hP, hn]
    (repeat (first | (refine TR.imp ?_; intro K hK; simp only [go_sem, hP, hn]; (repeat refine vc ?_); refine hK _ ?_; clear K hK) | refine TS.imp ?_ | refine n9 (by decide) ?_))
    simp only [RetG, go_sem]; (repeat with_reducible refine vc ?_)
    rw [hLG, if_pos h2]; rfl
  rw [if_neg (by rw [h2]; decide)] at hLG
  have hle := (ordR_length (ns := ns) ns.length []).2
  have hol : (order ns).length = ns.length := by
    have := of_decide_eq_false h2
    have h3 : (order ns).length ≤ ns.length := by
      show (ordR ns ns.length []).length ≤ _
      simpa using hle
    omega
  have hor : ∀ x ∈ order ns, 1 ≤ x ∧ x ≤ ns.length := ordR_range (by simp)
  clear h2 hle
  generalize hos : order ns = os at hLG hol hor ⊢
  (repeat (first | refine TS.imp ?_ | refine n9 (by decide) ?_))
  refine Tr.le (Le.keep [1, 2, 4]) ?_; simp only [List.map_cons, List.map_nil, lk, Nat.reduceEqDiff, reduceIte]
  refine Tr.meet (fun s => s = ⟨[(1, .ptr 1 0), (2, .ptr 2 0), (4, .d (.row [.i .i64 0] (os.map intC))), (5, .ptr 5 0)], [(1, .box 26 (gcs wd lo hi out (.d (rowN ns)))), (2, .box 38 [.d .nil, .d .nil, .d .nil, .d (.i .i64 0)]), (5, .box 38 [.d (.row [.i .i64 0] (os.map intC)), .own 32, .own 37, .d (.i .i64 0)]), (32, .row 3 [.i .i64 0] ((List.replicate (ns.length + 1) 0).map intC)), (37, .row 3 [.i .i64 0] ((List.replicate (ns.length + 1) 0).map intC))]⟩) ?_ ?_
  rotate_left
  · (first | refine d1 (.p true 0 (.p true 1 (.p true 2 (.p true 3 (.p true 4 (.p true 6 (.p true 7 (.p true 8 (.p true 9 (.alt 5 (.alt 10 (.p false 11 (.alt 12 (.alt 13 .nil .nil) .nil)) (.alt 12 (.alt 10 (.p false 11 (.alt 13 .nil .nil)) .nil) .nil)) (.alt 10 (.alt 5 (.p false 11 (.alt 12 (.alt 13 .nil .nil) .nil)) (.alt 12 (.alt 5 (.p false 11 (.alt 13 .nil .nil)) .nil) .nil)) (.alt 12 (.alt 5 (.alt 10 (.p false 11 (.alt 13 .nil .nil)) .nil) (.alt 10 (.alt 5 (.p false 11 (.alt 13 .nil .nil)) .nil) .nil)) .nil)))))))))))) [] (by rw [hP]; kernel_rfl) (by kernel_rfl) (by simp only [go_sem, hP, hn]; try simp) (fun _ _ h => h) fun K hK => ?_ | refine d2 (.p true 0 (.p true 1 (.p true 2 (.p true 3 (.p true 4 (.p true 6 (.p true 7 (.p true 8 (.p true 9 (.alt 5 (.alt 10 (.p false 11 (.alt 12 (.alt 13 .nil .nil) .nil)) (.alt 12 (.alt 10 (.p false 11 (.alt 13 .nil .nil)) .nil) .nil)) (.alt 10 (.alt 5 (.p false 11 (.alt 12 (.alt 13 .nil .nil) .nil)) (.alt 12 (.alt 5 (.p false 11 (.alt 13 .nil .nil)) .nil) .nil)) (.alt 12 (.alt 5 (.alt 10 (.p false 11 (.alt 13 .nil .nil)) .nil) (.alt 10 (.alt 5 (.p false 11 (.alt 13 .nil .nil)) .nil) .nil)) .nil)))))))))))) [] (by rw [hP]; kernel_rfl) (by kernel_rfl) (by simp only [go_sem, hP, hn]; try simp) (fun _ _ h => h) fun K hK => ?_ | refine d4 (.p true 0 (.p true 1 (.p true 2 (.p true 3 (.p true 4 (.p true 6 (.p true 7 (.p true 8 (.p true 9 (.alt 5 (.alt 10 (.p false 11 (.alt 12 (.alt 13 .nil .nil) .nil)) (.alt 12 (.alt 10 (.p false 11 (.alt 13 .nil .nil)) .nil) .nil)) (.alt 10 (.alt 5 (.p false 11 (.alt 12 (.alt 13 .nil .nil) .nil)) (.alt 12 (.alt 5 (.p false 11 (.alt 13 .nil .nil)) .nil) .nil)) (.alt 12 (.alt 5 (.alt 10 (.p false 11 (.alt 13 .nil .nil)) .nil) (.alt 10 (.alt 5 (.p false 11 (.alt 13 .nil .nil)) .nil) .nil)) .nil)))))))))))) [] (by rw [hP]; kernel_rfl) (by kernel_rfl) (by simp only [go_sem, hP, hn]; try simp) (fun _ _ h => h) fun K hK => ?_); simp only [go_sem, hP, hn]
    simp only [show wrap64 ((ns.length : Int) + 1) = ((ns.length + 1 : Nat) : Int) from w64 (by omega) (by omega), Int.toNat_natCast]
    (repeat' (refine And.intro ?_ ?_)); all_goals (first | (refine hK _ ?_; (refine ⟨_, ?_, rfl⟩; exact (Le.mv (by simp only [go_sem, hP, hn]; first | done | (simp; done) | (simp [intC]; done) | (repeat (first | rfl | constructor))) (by simp only [go_sem, hP, hn]; first | done | (simp; done) | (simp [intC]; done) | (repeat (first | rfl | constructor)))))) | (first | trivial | omega | (simp <;> omega) | (simp +contextual; done) | (clear hK; grind)))
  rintro s rfl
  (repeat (first | (refine TR.imp ?_; intro K hK; simp only [go_sem, hP, hn]; (repeat refine vc ?_); refine hK _ ?_; clear K hK) | refine TS.imp ?_ | refine n9 (by decide) ?_))
  rw [show (List.replicate (ns.length + 1) (0 : Int)).set 0 1 = 1 :: List.replicate ns.length 0 from rfl, show (List.replicate (ns.length + 1) (0 : Int)).set 0 wd = wd :: List.replicate ns.length 0 from rfl]
  refine Tr.le (Le.keep [1, 2, 4, 5, 6]) ?_; simp only [List.map_cons, List.map_nil, lk, Nat.reduceEqDiff, reduceIte]
  refine Tr.loop (fun m s => ∃ (k : Int) (W R : List Int), s = ⟨[(1, .ptr 1 0), (2, .ptr 2 0), (4, .d (.row [.i .i64 0] (os.map intC))), (5, .ptr 5 0), (6, .d (.i .i64 k))], [(1, .box 26 (gcs wd lo hi out (.d (rowN ns)))), (2, .box 38 [.d .nil, .d .nil, .d .nil, .d (.i .i64 0)]), (5, .box 38 [.d (.row [.i .i64 0] (os.map intC)), .own 32, .own 37, .d (.i .i64 0)]), (32, .row 3 [.i .i64 0] (W.map intC)), (37, .row 3 [.i .i64 0] (R.map intC))]⟩ ∧ 0 ≤ k ∧ k + m = os.length ∧ W.length = ns.length + 1 ∧ R.length = ns.length + 1 ∧ lookM ns os (wd :: List.replicate ns.length 0) (1 :: List.replicate ns.length 0) = lookM ns (os.drop k.toNat) W R) os.length ⟨_, (Le.mv (by simp only [go_sem, hP, hn]; first | done | (simp; done) | (simp [intC]; done) | (repeat (first | rfl | constructor))) (by simp only [go_sem, hP, hn]; first | done | (simp; done) | (simp [intC]; done) | (repeat (first | rfl | constructor)))), 0, wd :: List.replicate ns.length 0, 1 :: List.replicate ns.length 0, rfl, by omega, by omega, by simp, by simp, rfl⟩ ?_
  rintro m s ⟨k, W, R, rfl, hk0, hkm, hWl, hRl, hL⟩
  (repeat (first | (refine TR.imp ?_; intro K hK; simp only [go_sem, hP, hn]; (repeat refine vc ?_); refine hK _ ?_; clear K hK) | refine TS.imp ?_ | refine n9 (by decide) ?_))
  refine Tr.cond rfl (fun hb => ?_) (fun hb => ?_)
  · have hk1 : k < os.length := by simpa using hb
    rw [drop_rd hk0 hk1, lookM_cons] at hL
    have hiB := hor _ (rd_mem hk0 hk1)
    have hiw : wrap64 (rd os k - 1) = rd os k - 1 := w64 (by omega) (by omega)
    have hnd := rw_nd ns (rd os k - 1) (by omega) (by omega)
    have hmem := nd_mem (ns := ns) (i := rd os k - 1) (by omega) (by omega)
    have hq := hin _ hmem
    have hqi := hN.2.2 _ hmem
    (repeat (first | refine TS.imp ?_ | refine n9 (by decide) ?_))
    refine Tr.meet (fun s => s = ⟨[(1, .ptr 1 0), (2, .ptr 2 0), (4, .d (.row [.i .i64 0] (os.map intC))), (5, .ptr 5 0), (6, .d (.i .i64 k)), (7, .ptr 7 0)], [(7, .box 50 (nd ns (rd os k - 1)).cs), (1, .box 26 (gcs wd lo hi out (.d (rowN ns)))), (2, .box 38 [.d .nil, .d .nil, .d .nil, .d (.i .i64 0)]), (5, .box 38 [.d (.row [.i .i64 0] (os.map intC)), .own 32, .own 37, .d (.i .i64 0)]), (32, .row 3 [.i .i64 0] (W.map intC)), (37, .row 3 [.i .i64 0] (R.map intC))]⟩) ?_ ?_
    rotate_left
    · (first | refine d1 (.p true 0 (.p true 1 (.p true 2 (.p true 3 (.p true 4 (.p true 5 (.p true 6 (.p true 7 (.p true 8 (.alt 9 (.alt 10 .nil .nil) .nil)))))))))) [] (by rw [hP]; kernel_rfl) (by kernel_rfl) (by simp only [go_sem, hP, hn]; try simp) (fun _ _ h => h) fun K hK => ?_ | refine d2 (.p true 0 (.p true 1 (.p true 2 (.p true 3 (.p true 4 (.p true 5 (.p true 6 (.p true 7 (.p true 8 (.alt 9 (.alt 10 .nil .nil) .nil)))))))))) [] (by rw [hP]; kernel_rfl) (by kernel_rfl) (by simp only [go_sem, hP, hn]; try simp) (fun _ _ h => h) fun K hK => ?_ | refine d4 (.p true 0 (.p true 1 (.p true 2 (.p true 3 (.p true 4 (.p true 5 (.p true 6 (.p true 7 (.p true 8 (.alt 9 (.alt 10 .nil .nil) .nil)))))))))) [] (by rw [hP]; kernel_rfl) (by kernel_rfl) (by simp only [go_sem, hP, hn]; try simp) (fun _ _ h => h) fun K hK => ?_); simp only [go_sem, hP, hn]
      simp only [hiw, hnd, go_sem, hP, hn]
      (repeat' (refine And.intro ?_ ?_)); all_goals (first | (refine hK _ ?_; (refine ⟨_, ?_, rfl⟩; exact (Le.mv (by simp only [go_sem, hP, hn]; first | done | (simp; done) | (simp [intC]; done) | (repeat (first | rfl | constructor))) (by simp only [go_sem, hP, hn]; first | done | (simp; done) | (simp [intC]; done) | (repeat (first | rfl | constructor)))))) | (first | trivial | omega | (simp <;> omega) | (simp +contextual; done) | (clear hK; grind)))
    rintro s rfl
    clear hiw hnd hmem
    generalize nd ns (rd os k - 1) = q at hq hqi hL ⊢
    have hqW : ∀ x ∈ q.inn, (0 ≤ x ∧ x < W.length) ∧ x < R.length := fun x hx => by have := hqi x hx; omega
    have hml : (q.inn.map (rd W)).length ≤ 65536 := by rw [List.length_map]; omega
    have hmr : (q.inn.map (rd R)).length ≤ 65536 := by rw [List.length_map]; omega
    (repeat (first | refine TS.imp ?_ | refine n9 (by decide) ?_))
    refine TR.imp ?_; intro K hK; simp only [go_sem, hP, hn]; (repeat refine vc ?_); refine hK _ ?_; clear K hK
    (repeat (first | refine TS.imp ?_ | refine n9 (by decide) ?_))
    refine TR.imp ?_; intro K hK; simp only [go_sem, hP, hn]; (repeat refine vc ?_); refine hK _ ?_; clear K hK
    (repeat (first | refine TS.imp ?_ | refine n9 (by decide) ?_))
    refine TR.imp ?_; intro K hK; simp only [go_sem, hP, hn]; (repeat refine vc ?_); refine hK _ ?_; clear K hK
    (repeat (first | refine TS.imp ?_ | refine n9 (by decide) ?_))
    refine Tr.le (Le.keep [1, 2, 4, 5, 6, 7, 8, 9, 10]) ?_; simp only [List.map_cons, List.map_nil, lk, Nat.reduceEqDiff, reduceIte]
    refine Tr.le (Le.nilslot 3001 8 3 [.i .i64 0] rfl (by rw [hpn] <;> rfl) rfl rfl) ?_
    refine Tr.le (Le.nilslot 3002 9 3 [.i .i64 0] rfl (by rw [hpn] <;> rfl) rfl rfl) ?_
    refine Tr.loop (fun m2 s => ∃ (j : Int), s = ⟨[(1, .ptr 1 0), (2, .ptr 2 0), (4, .d (.row [.i .i64 0] (os.map intC))), (5, .ptr 5 0), (6, .d (.i .i64 k)), (7, .ptr 7 0), (8, .own 3001), (9, .own 3002), (10, .d (.i .i64 j))], [(3001, .row 3 [.i .i64 0] (((q.inn.take j.toNat).map (rd W)).map intC)), (3002, .row 3 [.i .i64 0] (((q.inn.take j.toNat).map (rd R)).map intC)), (7, .box 50 q.cs), (1, .box 26 (gcs wd lo hi out (.d (rowN ns)))), (2, .box 38 [.d .nil, .d .nil, .d .nil, .d (.i .i64 0)]), (5, .box 38 [.d (.row [.i .i64 0] (os.map intC)), .own 32, .own 37, .d (.i .i64 0)]), (32, .row 3 [.i .i64 0] (W.map intC)), (37, .row 3 [.i .i64 0] (R.map intC))]⟩ ∧ 0 ≤ j ∧ j + m2 = q.inn.length) q.inn.length ⟨_, (Le.mv (by simp only [go_sem, hP, hn]; first | done | (simp; done) | (simp [intC]; done) | (repeat (first | rfl | constructor))) (by simp only [go_sem, hP, hn]; first | done | (simp; done) | (simp [intC]; done) | (repeat (first | rfl | constructor)))), 0, rfl, by omega, by omega⟩ ?_
    rintro m2 s ⟨j, rfl, hj0, hjm⟩
    (repeat (first | (refine TR.imp ?_; intro K hK; simp only [go_sem, hP, hn]; (repeat refine vc ?_); refine hK _ ?_; clear K hK) | refine TS.imp ?_ | refine n9 (by decide) ?_))
    refine Tr.cond rfl (fun hc => ?_) (fun hc => ?_)
    · have hj : j < q.inn.length := by simpa using hc
      have hjx := hqW _ (rd_mem hj0 hj)
      have htl : (q.inn.take j.toNat).length = j.toNat := by simp; omega
      refine Tr.le (Le.keep [1, 2, 4, 5, 6, 7, 8, 9, 10]) ?_; simp only [List.map_cons, List.map_nil, lk, Nat.reduceEqDiff, reduceIte]
      (repeat (first | refine TS.imp ?_ | refine n9 (by decide) ?_))
      (first | refine d1 (.p true 0 (.p true 1 (.p true 2 (.p true 3 (.p true 4 (.p true 5 (.p true 6 (.p true 7 (.p true 8 (.p true 9 (.alt 10 (.alt 11 (.p false 12 .nil) .nil) .nil))))))))))) [3001] (by rw [hP]; kernel_rfl) (by kernel_rfl) (by simp only [go_sem, hP, hn]; try simp) (fun _ _ h => h) fun K hK => ?_ | refine d2 (.p true 0 (.p true 1 (.p true 2 (.p true 3 (.p true 4 (.p true 5 (.p true 6 (.p true 7 (.p true 8 (.p true 9 (.alt 10 (.alt 11 (.p false 12 .nil) .nil) .nil))))))))))) [3001] (by rw [hP]; kernel_rfl) (by kernel_rfl) (by simp only [go_sem, hP, hn]; try simp) (fun _ _ h => h) fun K hK => ?_ | refine d4 (.p true 0 (.p true 1 (.p true 2 (.p true 3 (.p true 4 (.p true 5 (.p true 6 (.p true 7 (.p true 8 (.p true 9 (.alt 10 (.alt 11 (.p false 12 .nil) .nil) .nil))))))))))) [3001] (by rw [hP]; kernel_rfl) (by kernel_rfl) (by simp only [go_sem, hP, hn]; try simp) (fun _ _ h => h) fun K hK => ?_); simp only [go_sem, hP, hn]
      simp only [htl]
      (repeat refine vc ?_)
      refine hK _ ?_; clear K hK
      refine Tr.le (Le.keep [1, 2, 4, 5, 6, 7, 8, 9, 10]) ?_; simp only [List.map_cons, List.map_nil, lk, Nat.reduceEqDiff, reduceIte]
      (repeat (first | refine TS.imp ?_ | refine n9 (by decide) ?_))
      (first | refine d1 (.p true 0 (.p true 1 (.p true 2 (.p true 3 (.p true 4 (.p true 5 (.p true 6 (.p true 7 (.p true 8 (.p true 9 (.alt 10 (.alt 11 (.p false 12 .nil) .nil) .nil))))))))))) [3002] (by rw [hP]; kernel_rfl) (by kernel_rfl) (by simp only [go_sem, hP, hn]; try simp) (fun _ _ h => h) fun K hK => ?_ | refine d2 (.p true 0 (.p true 1 (.p true 2 (.p true 3 (.p true 4 (.p true 5 (.p true 6 (.p true 7 (.p true 8 (.p true 9 (.alt 10 (.alt 11 (.p false 12 .nil) .nil) .nil))))))))))) [3002] (by rw [hP]; kernel_rfl) (by kernel_rfl) (by simp only [go_sem, hP, hn]; try simp) (fun _ _ h => h) fun K hK => ?_ | refine d4 (.p true 0 (.p true 1 (.p true 2 (.p true 3 (.p true 4 (.p true 5 (.p true 6 (.p true 7 (.p true 8 (.p true 9 (.alt 10 (.alt 11 (.p false 12 .nil) .nil) .nil))))))))))) [3002] (by rw [hP]; kernel_rfl) (by kernel_rfl) (by simp only [go_sem, hP, hn]; try simp) (fun _ _ h => h) fun K hK => ?_); simp only [go_sem, hP, hn]
      simp only [htl]
      (repeat refine vc ?_)
      refine hK _ ?_; clear K hK
      (repeat (first | (refine TR.imp ?_; intro K hK; simp only [go_sem, hP, hn]; (repeat refine vc ?_); refine hK _ ?_; clear K hK) | refine TS.imp ?_ | refine n9 (by decide) ?_))
      rw [w64 (x := j + 1) (by omega) (by omega)]
      have htk : (q.inn.take (j + 1).toNat).map (rd W) = (q.inn.take j.toNat).map (rd W) ++ [rd W (rd q.inn j)] := by rw [take_rd hj0 hj, List.map_append]; rfl
      have htk2 : (q.inn.take (j + 1).toNat).map (rd R) = (q.inn.take j.toNat).map (rd R) ++ [rd R (rd q.inn j)] := by rw [take_rd hj0 hj, List.map_append]; rfl
      refine ⟨m2 - 1, _, by omega, ?_, j + 1, rfl, by omega, by omega⟩
      rw [htk, htk2]
      refine Le.trans (b := ⟨[(1, .ptr 1 0), (2, .ptr 2 0), (4, .d (.row [.i .i64 0] (os.map intC))), (5, .ptr 5 0), (6, .d (.i .i64 k)), (7, .ptr 7 0), (8, .own 80), (9, .own 92), (10, .d (.i .i64 (j + 1)))], [(80, .row 3 [.i .i64 0] (((q.inn.take j.toNat).map (rd W) ++ [rd W (rd q.inn j)]).map intC)), (92, .row 3 [.i .i64 0] (((q.inn.take j.toNat).map (rd R) ++ [rd R (rd q.inn j)]).map intC)), (7, .box 50 q.cs), (1, .box 26 (gcs wd lo hi out (.d (rowN ns)))), (2, .box 38 [.d .nil, .d .nil, .d .nil, .d (.i .i64 0)]), (5, .box 38 [.d (.row [.i .i64 0] (os.map intC)), .own 32, .own 37, .d (.i .i64 0)]), (32, .row 3 [.i .i64 0] (W.map intC)), (37, .row 3 [.i .i64 0] (R.map intC))]⟩) (Le.mv (by simp only [go_sem, hP, hn]; first | done | (simp; done) | (simp [intC]; done) | (repeat (first | rfl | constructor))) (by simp only [go_sem, hP, hn]; first | done | (simp; done) | (simp [intC]; done) | (repeat (first | rfl | constructor)))) ?_
      refine Le.trans (Le.ren 80 3001 (by rw [hpn] <;> rfl) rfl rfl) ?_; simp only [renT, renH, renO, renS, renL, rn, go_sem, hP, hn]
      refine Le.trans (Le.ren 92 3002 (by rw [hpn] <;> rfl) rfl rfl) ?_; simp only [renT, renH, renO, renS, renL, rn, go_sem, hP, hn]
      exact (Le.mv (by simp only [go_sem, hP, hn]; first | done | (simp; done) | (simp [intC]; done) | (repeat (first | rfl | constructor))) (by simp only [go_sem, hP, hn]; first | done | (simp; done) | (simp [intC]; done) | (repeat (first | rfl | constructor))))
    · rw [List.take_of_length_le (by have := of_decide_eq_false hc; omega)]
      (repeat (first | refine TS.imp ?_ | refine n9 (by decide) ?_))
      refine Tr.le (Le.keep [1, 2, 4, 5, 6, 7, 8, 9]) ?_; simp only [List.map_cons, List.map_nil, lk, Nat.reduceEqDiff, reduceIte]
      (repeat (first | refine TS.imp ?_ | refine n9 (by decide) ?_))
      refine TR.imp ?_; intro K hK; simp only [go_sem, hP, hn]; (repeat refine vc ?_); refine c1 (by rw [hP, hT]; exact Check_r Tm q (q.inn.map (rd W)) (by omega) (by omega) hml (by omega)) rfl rfl rfl trivial (by simp only [go_sem, hP, hn]; try trivial) (by simp only [go_sem, hP, hn]; try rfl) (by rw [hn]; decide) (by rfl) ?_; simp only [go_sem, hP, hn]; (repeat refine vc ?_); refine hK _ ?_; clear K hK
      (repeat (first | (refine TR.imp ?_; intro K hK; simp only [go_sem, hP, hn]; (repeat refine vc ?_); refine hK _ ?_; clear K hK) | refine TS.imp ?_ | refine n9 (by decide) ?_))
      refine Tr.cond rfl (fun hd => ?_) (fun hd => ?_)
      · rw [if_pos hd] at hL
        (repeat (first | refine TS.imp ?_ | refine n9 (by decide) ?_))
        refine TR.imp ?_; intro K hK; simp only [go_sem, hP, hn]; (repeat refine vc ?_); refine hK _ ?_; clear K hK
        refine Tr.le (Le.wbox 2 [.d (.row [.i .i64 0] []), .d (.row [.i .i64 0] []), .d (.row [.i .i64 0] []), _] rfl ⟨.inr ⟨rfl, _, rfl⟩, .inr ⟨rfl, _, rfl⟩, .inr ⟨rfl, _, rfl⟩, .inl rfl, trivial⟩) ?_; simp only [go_sem, hP, hn]
        (repeat (first | (refine TR.imp ?_; intro K hK; simp only [go_sem, hP, hn]; (repeat refine vc ?_); refine hK _ ?_; clear K hK) | refine TS.imp ?_ | refine n9 (by decide) ?_))
        simp only [RetG, go_sem]; (repeat with_reducible refine vc ?_)
        rw [hLG, hL]; simp only [if_pos hd]; rfl
      rw [if_neg (by rw [hd]; decide)] at hL
      have hc0 : q.rchk (q.inn.map (rd W)) = 0 := bne_eq_false_iff_eq.mp hd
      have hpos : 0 < q.inn.length := by
        rcases Nat.eq_zero_or_pos q.inn.length with h | h
        · rw [List.eq_nil_of_length_eq_zero h, ← chk_eq] at hc0; exact absurd hc0 (Nd.chk_ne q)
        · exact h
      (repeat (first | refine TS.imp ?_ | refine n9 (by decide) ?_))
      refine Tr.le (Le.keep [1, 2, 4, 5, 6, 7, 8, 9]) ?_; simp only [List.map_cons, List.map_nil, lk, Nat.reduceEqDiff, reduceIte]
      (first | refine d1 (.p true 0 (.p true 1 (.p true 2 (.p true 3 (.p true 4 (.p true 5 (.p true 6 (.p true 7 (.alt 8 (.p true 9 (.alt 10 .nil .nil)) .nil))))))))) [32] (by rw [hP]; kernel_rfl) (by kernel_rfl) (by simp only [go_sem, hP, hn]; try simp) (fun _ _ h => h) fun K hK => ?_ | refine d2 (.p true 0 (.p true 1 (.p true 2 (.p true 3 (.p true 4 (.p true 5 (.p true 6 (.p true 7 (.alt 8 (.p true 9 (.alt 10 .nil .nil)) .nil))))))))) [32] (by rw [hP]; kernel_rfl) (by kernel_rfl) (by simp only [go_sem, hP, hn]; try simp) (fun _ _ h => h) fun K hK => ?_ | refine d4 (.p true 0 (.p true 1 (.p true 2 (.p true 3 (.p true 4 (.p true 5 (.p true 6 (.p true 7 (.alt 8 (.p true 9 (.alt 10 .nil .nil)) .nil))))))))) [32] (by rw [hP]; kernel_rfl) (by kernel_rfl) (by simp only [go_sem, hP, hn]; try simp) (fun _ _ h => h) fun K hK => ?_); simp only [go_sem, hP, hn]
      (repeat refine vc ?_)
      refine p1 (by rw [hP, hT]; exact Width_r Tm q (q.inn.map (rd W)) (by omega) (by omega) hml (by omega)) rfl rfl rfl trivial (by simp only [go_sem, hP, hn]; try trivial) (by simp only [go_sem, hP, hn]; try rfl) (by rw [hn]; decide) (by rfl) ?_; simp only [go_sem, hP, hn]; (repeat refine vc ?_)
      refine hK _ ?_; clear K hK
      refine Tr.le (Le.keep [1, 2, 4, 5, 6, 7, 8, 9]) ?_; simp only [List.map_cons, List.map_nil, lk, Nat.reduceEqDiff, reduceIte]
      (first | refine d1 (.p true 0 (.p true 1 (.p true 2 (.p true 3 (.p true 4 (.p true 5 (.p true 6 (.p true 7 (.alt 8 (.p true 9 (.alt 10 .nil .nil)) .nil))))))))) [37] (by rw [hP]; kernel_rfl) (by kernel_rfl) (by simp only [go_sem, hP, hn]; try simp) (fun _ _ h => h) fun K hK => ?_ | refine d2 (.p true 0 (.p true 1 (.p true 2 (.p true 3 (.p true 4 (.p true 5 (.p true 6 (.p true 7 (.alt 8 (.p true 9 (.alt 10 .nil .nil)) .nil))))))))) [37] (by rw [hP]; kernel_rfl) (by kernel_rfl) (by simp only [go_sem, hP, hn]; try simp) (fun _ _ h => h) fun K hK => ?_ | refine d4 (.p true 0 (.p true 1 (.p true 2 (.p true 3 (.p true 4 (.p true 5 (.p true 6 (.p true 7 (.alt 8 (.p true 9 (.alt 10 .nil .nil)) .nil))))))))) [37] (by rw [hP]; kernel_rfl) (by kernel_rfl) (by simp only [go_sem, hP, hn]; try simp) (fun _ _ h => h) fun K hK => ?_); simp only [go_sem, hP, hn]
      (repeat refine vc ?_)
      refine p1 (by rw [hP, hT]; exact rate16_r Tm q (q.inn.map (rd R)) (by simpa using hpos) hmr) rfl rfl rfl trivial (by simp only [go_sem, hP, hn]; try trivial) (by simp only [go_sem, hP, hn]; try rfl) (by rw [hn]; decide) (by rfl) ?_; simp only [go_sem, hP, hn]; (repeat refine vc ?_)
      refine hK _ ?_; clear K hK
      refine Tr.le (Le.keep [1, 2, 4, 5, 6, 7, 8, 9]) ?_; simp only [List.map_cons, List.map_nil, lk, Nat.reduceEqDiff, reduceIte]
      (first | refine d1 (.p true 0 (.p true 1 (.p true 2 (.p true 3 (.p true 4 (.p true 5 (.p true 6 (.p true 7 (.p true 8 .nil))))))))) [] (by rw [hP]; kernel_rfl) (by kernel_rfl) (by simp only [go_sem, hP, hn]; try simp) (fun _ _ h => h) fun K hK => ?_ | refine d2 (.p true 0 (.p true 1 (.p true 2 (.p true 3 (.p true 4 (.p true 5 (.p true 6 (.p true 7 (.p true 8 .nil))))))))) [] (by rw [hP]; kernel_rfl) (by kernel_rfl) (by simp only [go_sem, hP, hn]; try simp) (fun _ _ h => h) fun K hK => ?_ | refine d4 (.p true 0 (.p true 1 (.p true 2 (.p true 3 (.p true 4 (.p true 5 (.p true 6 (.p true 7 (.p true 8 .nil))))))))) [] (by rw [hP]; kernel_rfl) (by kernel_rfl) (by simp only [go_sem, hP, hn]; try simp) (fun _ _ h => h) fun K hK => ?_); simp only [go_sem, hP, hn]
      simp only [List.length_set]
      (repeat refine vc ?_)
      rw [rd_set_same (by omega) (by omega)]
      refine hK _ ?_; clear K hK
      refine Tr.cond rfl (fun he => ?_) (fun he => ?_)
      · rw [if_pos he] at hL
        (repeat (first | refine TS.imp ?_ | refine n9 (by decide) ?_))
        refine TR.imp ?_; intro K hK; simp only [go_sem, hP, hn]; (repeat refine vc ?_); refine hK _ ?_; clear K hK
        refine Tr.le (Le.wbox 2 [.d (.row [.i .i64 0] []), .d (.row [.i .i64 0] []), .d (.row [.i .i64 0] []), _] rfl ⟨.inr ⟨rfl, _, rfl⟩, .inr ⟨rfl, _, rfl⟩, .inr ⟨rfl, _, rfl⟩, .inl rfl, trivial⟩) ?_; simp only [go_sem, hP, hn]
        (repeat (first | (refine TR.imp ?_; intro K hK; simp only [go_sem, hP, hn]; (repeat refine vc ?_); refine hK _ ?_; clear K hK) | refine TS.imp ?_ | refine n9 (by decide) ?_))
        simp only [RetG, go_sem]; (repeat with_reducible refine vc ?_)
        rw [hLG, hL]; rfl
      rw [if_neg (by rw [he]; decide)] at hL
      (repeat (first | (refine TR.imp ?_; intro K hK; simp only [go_sem, hP, hn]; (repeat refine vc ?_); refine hK _ ?_; clear K hK) | refine TS.imp ?_ | refine n9 (by decide) ?_))
      rw [w64 (x := k + 1) (by omega) (by omega)]
      refine ⟨m - 1, _, by omega, ?_, k + 1, W.set (rd os k).toNat (q.rwide (q.inn.map (rd W))), R.set (rd os k).toNat (q.rate (q.inn.map (rd R))), rfl, by omega, by omega, by simpa using hWl, by simpa using hRl, hL⟩
      exact (Le.mv (by simp only [go_sem, hP, hn]; first | done | (simp; done) | (simp [intC]; done) | (repeat (first | rfl | constructor))) (by simp only [go_sem, hP, hn]; first | done | (simp; done) | (simp [intC]; done) | (repeat (first | rfl | constructor))))
  rw [drop_end (by simpa using hb)] at hL
  (repeat (first | (refine TR.imp ?_; intro K hK; simp only [go_sem, hP, hn]; (repeat refine vc ?_); refine hK _ ?_; clear K hK) | refine TS.imp ?_ | refine n9 (by decide) ?_))
  simp only [RetG, go_sem]; (repeat with_reducible refine vc ?_)
  rw [hLG, hL]; rfl
section
def turnN (N : Int) (n : Nd) : Nd := { n with inn := n.inn.map fun x => if 0 < x then N + 1 - x else x }
attribute [local go_sem] turnN
theorem turned_c {T : World → Prop} (Tm : TP T) (wd lo hi out : Int) (ns : List Nd) (hn0 : 1 ≤ ns.length) (hn : ns.length ≤ 12) (ho : 0 ≤ out ∧ out ≤ ns.length) (hin : ∀ n ∈ ns, n.inn.length ≤ 4096 ∧ ∀ j ∈ n.inn, 0 ≤ j ∧ j ≤ ns.length) :
    Cg Go.Proofs.Tryd.prog T 61 [] [.agg (gcs wd lo hi out (.d (rowN ns)))] (fun r H => r = .agg (gcs wd lo hi (ns.length + 1 - out) (.own 2000)) ∧ H = [(2000, .row 50 e0N ((ns.map (turnN ns.length)).reverse.map Nd.ds))]) := by
  refine Cg_of [2000] Tm Go.Proofs.Tryd.func61 rfl rfl Go.Proofs.Tryd.ntmps61 (by simp) rfl (rs := [.cell 2 26]) rfl fun E hP hn hT hpn => ?_
  (repeat (first | (refine TR.imp ?_; intro K hK; simp only [go_sem, hP, hn]; (repeat refine vc ?_); refine hK _ ?_; clear K hK) | refine TS.imp ?_ | refine n9 (by decide) ?_))
  rw [w64 (x := (ns.length : Int) + 1) (by omega) (by omega), w64 (x := (ns.length : Int) + 1 - out) (by omega) (by omega)]
  refine Tr.le (Le.keep [1, 2, 3, 4, 5]) ?_; simp only [List.map_cons, List.map_nil, lk, Nat.reduceEqDiff, reduceIte]
  refine Tr.loop (fun m s => ∃ (i : Int) (x : S) (X : Hp), s = ⟨[(1, .ptr 1 0), (2, .ptr 2 0), (3, .d (.i .i64 ns.length)), (4, .ptr 4 0), (5, .d (.i .i64 i))], [(4, .box 26 (gcs wd lo hi (ns.length + 1 - out) x)), (2, .box 26 (gcs 0 0 0 0 (.d .nil))), (1, .box 26 (gcs wd lo hi out (.d (rowN ns))))] ++ X⟩ ∧ i = m ∧ i ≤ ns.length ∧ ((i = ns.length ∧ x = .d .nil ∧ X = []) ∨ (i < ns.length ∧ x = .own 66 ∧ X = [(66, .row 50 e0N (((ns.drop i.toNat).map (turnN ns.length)).reverse.map Nd.ds))]))) ns.length ⟨_, (Le.mv (by simp only [go_sem, hP, hn]; first | done | (simp; done) | (simp [intC]; done) | (repeat (first | rfl | constructor))) (by simp only [go_sem, hP, hn]; first | done | (simp; done) | (simp [intC]; done) | (repeat (first | rfl | constructor)))), ns.length, .d .nil, [], rfl, rfl, by omega, .inl ⟨rfl, rfl, rfl⟩⟩ ?_
  rintro m s ⟨i, x, X, rfl, him, hiN, hx⟩
  have hdr : 1 ≤ i → (ns.drop (i - 1).toNat).map (turnN ns.length) = turnN ns.length (nd ns (i - 1)) :: (ns.drop i.toNat).map (turnN ns.length) := fun h1 => by
    rw [drop_nd (show 0 ≤ i - 1 by omega) (by omega), List.map_cons, show i - 1 + 1 = i by omega]
  rcases hx with ⟨hN, rfl, rfl⟩ | ⟨hlt, rfl, rfl⟩
  · (repeat (first | (refine TR.imp ?_; intro K hK; simp only [go_sem, hP, hn]; (repeat refine vc ?_); refine hK _ ?_; clear K hK) | refine TS.imp ?_ | refine n9 (by decide) ?_))
    refine Tr.cond rfl (fun hb => ?_) (fun hb => ?_)
    · have h1 : 1 ≤ i := by simpa using hb
      have hi1 : wrap64 (i - 1) = i - 1 := w64 (by omega) (by omega)
      have hnd := rw_nd ns (i - 1) (by omega) (by omega)
      have hq := hin _ (nd_mem (ns := ns) (i := i - 1) (by omega) (by omega))
      replace hdr := hdr h1
      (repeat (first | refine TS.imp ?_ | refine n9 (by decide) ?_))
      refine TR.imp ?_; intro K hK; simp only [hi1, hnd, go_sem, hP, hn]
      (repeat refine vc ?_)
      generalize nd ns (i - 1) = q at hq hdr ⊢
      refine hK _ ?_; clear K hK
      (repeat (first | (refine TR.imp ?_; intro K hK; simp only [go_sem, hP, hn]; (repeat refine vc ?_); refine hK _ ?_; clear K hK) | refine TS.imp ?_ | refine n9 (by decide) ?_))
      refine Tr.le (Le.keep [1, 2, 3, 4, 5, 6, 7, 8]) ?_; simp only [List.map_cons, List.map_nil, lk, Nat.reduceEqDiff, reduceIte]
      refine Tr.loop (fun m2 s => ∃ (j : Int) (l : List Int), s = ⟨[(1, .ptr 1 0), (2, .ptr 2 0), (3, .d (.i .i64 ns.length)), (4, .ptr 4 0), (5, .d (.i .i64 i)), (6, .ptr 6 0), (7, .own 38), (8, .d (.i .i64 j))], [(38, .row 3 [.i .i64 0] (l.map intC)), (6, .box 50 q.cs), (4, .box 26 (gcs wd lo hi (ns.length + 1 - out) (.d .nil))), (2, .box 26 (gcs 0 0 0 0 (.d .nil))), (1, .box 26 (gcs wd lo hi out (.d (rowN ns))))]⟩ ∧ 0 ≤ j ∧ j + m2 = q.inn.length ∧ l.length = q.inn.length ∧ l.take j.toNat = (q.inn.take j.toNat).map (fun x => if 0 < x then (ns.length : Int) + 1 - x else x) ∧ l.drop j.toNat = q.inn.drop j.toNat) q.inn.length ⟨_, (Le.mv (by simp only [go_sem, hP, hn]; first | done | (simp; done) | (simp [intC]; done) | (repeat (first | rfl | constructor))) (by simp only [go_sem, hP, hn]; first | done | (simp; done) | (simp [intC]; done) | (repeat (first | rfl | constructor)))), 0, q.inn, rfl, by omega, by omega, rfl, by simp, by simp⟩ ?_
      rintro m2 s ⟨j, l, rfl, hj0, hj1, hl, hta, hdo⟩
      (repeat (first | (refine TR.imp ?_; intro K hK; simp only [go_sem, hP, hn]; (repeat refine vc ?_); refine hK _ ?_; clear K hK) | refine TS.imp ?_ | refine n9 (by decide) ?_))
      refine Tr.cond rfl (fun hc => ?_) (fun hc => ?_)
      · have hjl : j < l.length := by simpa using hc
        have hrd : rd l j = rd q.inn j := by
          have e1 := drop_rd hj0 hjl
          have e2 := drop_rd (l := q.inn) hj0 (by omega)
          rw [hdo, e2] at e1
          exact (List.cons.inj e1).1.symm
        have hd1 : l.drop (j + 1).toNat = q.inn.drop (j + 1).toNat := by
          have e1 := drop_rd hj0 hjl
          have e2 := drop_rd (l := q.inn) hj0 (by omega)
          rw [hdo, e2] at e1
          exact (List.cons.inj e1).2.symm
        have hbd := hq.2 _ (rd_mem (l := q.inn) hj0 (by omega))
        (repeat (first | (refine TR.imp ?_; intro K hK; simp only [go_sem, hP, hn]; (repeat refine vc ?_); refine hK _ ?_; clear K hK) | refine TS.imp ?_ | refine n9 (by decide) ?_))
        refine Tr.cond rfl (fun hg => ?_) (fun hg => ?_)
        · have hg1 : 0 < rd l j := by simpa using hg
          (repeat (first | refine TS.imp ?_ | refine n9 (by decide) ?_))
          refine TR.imp ?_; intro K hK; simp only [go_sem, hP, hn]; (repeat refine vc ?_); refine hK _ ?_; clear K hK
          (repeat (first | (refine TR.imp ?_; intro K hK; simp only [go_sem, hP, hn]; (repeat refine vc ?_); refine hK _ ?_; clear K hK) | refine TS.imp ?_ | refine n9 (by decide) ?_))
          rw [w64 (x := j + 1) (by omega) (by omega), w64 (x := (ns.length : Int) + 1) (by omega) (by omega), w64 (x := (ns.length : Int) + 1 - rd l j) (by omega) (by omega)]
          refine ⟨m2 - 1, _, by omega, ?_, j + 1, l.set j.toNat ((ns.length : Int) + 1 - rd l j), rfl, by omega, by omega, by simpa using hl, ?_, ?_⟩
          · exact (Le.mv (by simp only [go_sem, hP, hn]; first | done | (simp; done) | (simp [intC]; done) | (repeat (first | rfl | constructor))) (by simp only [go_sem, hP, hn]; first | done | (simp; done) | (simp [intC]; done) | (repeat (first | rfl | constructor))))
          · rw [take_set hj0 hjl, take_rd hj0 (show j < q.inn.length by omega), hta, List.map_append, List.map_cons, List.map_nil, hrd, if_pos (by omega)]
          · rw [List.drop_set_of_lt (by omega), hd1]
        · have hg1 : ¬ 0 < rd l j := by simpa using hg
          (repeat (first | (refine TR.imp ?_; intro K hK; simp only [go_sem, hP, hn]; (repeat refine vc ?_); refine hK _ ?_; clear K hK) | refine TS.imp ?_ | refine n9 (by decide) ?_))
          rw [w64 (x := j + 1) (by omega) (by omega)]
          refine ⟨m2 - 1, _, by omega, ?_, j + 1, l, rfl, by omega, by omega, hl, ?_, hd1⟩
          · exact (Le.mv (by simp only [go_sem, hP, hn]; first | done | (simp; done) | (simp [intC]; done) | (repeat (first | rfl | constructor))) (by simp only [go_sem, hP, hn]; first | done | (simp; done) | (simp [intC]; done) | (repeat (first | rfl | constructor))))
          · rw [take_rd hj0 hjl, take_rd hj0 (show j < q.inn.length by omega), hta, List.map_append, List.map_cons, List.map_nil, hrd, if_neg (by omega)]
      · have hj : j = q.inn.length := by have := of_decide_eq_false hc; omega
        obtain rfl : l = q.inn.map (fun x => if 0 < x then (ns.length : Int) + 1 - x else x) := by
          rw [List.take_of_length_le (by omega), List.take_of_length_le (by omega)] at hta
          exact hta
        refine Tr.le (Le.freeze 38) ?_
        simp only [go_sem, hP, hn]
        (repeat (first | refine TS.imp ?_ | refine n9 (by decide) ?_))
        refine TR.imp ?_; intro K hK; simp only [go_sem, hP, hn]; (repeat refine vc ?_); refine hK _ ?_; clear K hK
        (repeat (first | refine TS.imp ?_ | refine n9 (by decide) ?_))
        refine TR.imp ?_; intro K hK; simp only [go_sem, hP, hn]; (repeat refine vc ?_); refine hK _ ?_; clear K hK
        (repeat (first | (refine TR.imp ?_; intro K hK; simp only [go_sem, hP, hn]; (repeat refine vc ?_); refine hK _ ?_; clear K hK) | refine TS.imp ?_ | refine n9 (by decide) ?_))
        rw [hi1]
        refine ⟨m - 1, _, by omega, ?_, i - 1, .own 66, [(66, .row 50 e0N ([] ++ [(turnN ns.length q).ds]))], rfl, by omega, by omega, .inr ⟨by omega, rfl, by rw [hdr, List.reverse_cons, List.map_append]; rw [List.drop_eq_nil_of_le (by omega)]; rfl⟩⟩
        exact (Le.mv (by simp only [go_sem, hP, hn]; first | done | (simp; done) | (simp [intC]; done) | (repeat (first | rfl | constructor))) (by simp only [go_sem, hP, hn]; first | done | (simp; done) | (simp [intC]; done) | (repeat (first | rfl | constructor))))
    · exact absurd (of_decide_eq_false hb) (by omega)
  · (repeat (first | (refine TR.imp ?_; intro K hK; simp only [go_sem, hP, hn]; (repeat refine vc ?_); refine hK _ ?_; clear K hK) | refine TS.imp ?_ | refine n9 (by decide) ?_))
    refine Tr.cond rfl (fun hb => ?_) (fun hb => ?_)
    · have h1 : 1 ≤ i := by simpa using hb
      have hi1 : wrap64 (i - 1) = i - 1 := w64 (by omega) (by omega)
      have hnd := rw_nd ns (i - 1) (by omega) (by omega)
      have hq := hin _ (nd_mem (ns := ns) (i := i - 1) (by omega) (by omega))
      replace hdr := hdr h1
      (repeat (first | refine TS.imp ?_ | refine n9 (by decide) ?_))
      refine TR.imp ?_; intro K hK; simp only [hi1, hnd, go_sem, hP, hn]
      (repeat refine vc ?_)
      generalize nd ns (i - 1) = q at hq hdr ⊢
      refine hK _ ?_; clear K hK
      (repeat (first | (refine TR.imp ?_; intro K hK; simp only [go_sem, hP, hn]; (repeat refine vc ?_); refine hK _ ?_; clear K hK) | refine TS.imp ?_ | refine n9 (by decide) ?_))
      refine Tr.le (Le.keep [1, 2, 3, 4, 5, 6, 7, 8]) ?_; simp only [List.map_cons, List.map_nil, lk, Nat.reduceEqDiff, reduceIte]
      refine Tr.loop (fun m2 s => ∃ (j : Int) (l : List Int), s = ⟨[(1, .ptr 1 0), (2, .ptr 2 0), (3, .d (.i .i64 ns.length)), (4, .ptr 4 0), (5, .d (.i .i64 i)), (6, .ptr 6 0), (7, .own 38), (8, .d (.i .i64 j))], [(38, .row 3 [.i .i64 0] (l.map intC)), (6, .box 50 q.cs), (4, .box 26 (gcs wd lo hi (ns.length + 1 - out) (.own 66))), (2, .box 26 (gcs 0 0 0 0 (.d .nil))), (1, .box 26 (gcs wd lo hi out (.d (rowN ns)))), (66, .row 50 e0N (((ns.drop i.toNat).map (turnN ns.length)).reverse.map Nd.ds))]⟩ ∧ 0 ≤ j ∧ j + m2 = q.inn.length ∧ l.length = q.inn.length ∧ l.take j.toNat = (q.inn.take j.toNat).map (fun x => if 0 < x then (ns.length : Int) + 1 - x else x) ∧ l.drop j.toNat = q.inn.drop j.toNat) q.inn.length ⟨_, (Le.mv (by simp only [go_sem, hP, hn]; first | done | (simp; done) | (simp [intC]; done) | (repeat (first | rfl | constructor))) (by simp only [go_sem, hP, hn]; first | done | (simp; done) | (simp [intC]; done) | (repeat (first | rfl | constructor)))), 0, q.inn, rfl, by omega, by omega, rfl, by simp, by simp⟩ ?_
      rintro m2 s ⟨j, l, rfl, hj0, hj1, hl, hta, hdo⟩
      (repeat (first | (refine TR.imp ?_; intro K hK; simp only [go_sem, hP, hn]; (repeat refine vc ?_); refine hK _ ?_; clear K hK) | refine TS.imp ?_ | refine n9 (by decide) ?_))
      refine Tr.cond rfl (fun hc => ?_) (fun hc => ?_)
      · have hjl : j < l.length := by simpa using hc
        have hrd : rd l j = rd q.inn j := by
          have e1 := drop_rd hj0 hjl
          have e2 := drop_rd (l := q.inn) hj0 (by omega)
          rw [hdo, e2] at e1
          exact (List.cons.inj e1).1.symm
        have hd1 : l.drop (j + 1).toNat = q.inn.drop (j + 1).toNat := by
          have e1 := drop_rd hj0 hjl
          have e2 := drop_rd (l := q.inn) hj0 (by omega)
          rw [hdo, e2] at e1
          exact (List.cons.inj e1).2.symm
        have hbd := hq.2 _ (rd_mem (l := q.inn) hj0 (by omega))
        (repeat (first | (refine TR.imp ?_; intro K hK; simp only [go_sem, hP, hn]; (repeat refine vc ?_); refine hK _ ?_; clear K hK) | refine TS.imp ?_ | refine n9 (by decide) ?_))
        refine Tr.cond rfl (fun hg => ?_) (fun hg => ?_)
        · have hg1 : 0 < rd l j := by simpa using hg
          (repeat (first | refine TS.imp ?_ | refine n9 (by decide) ?_))
          refine TR.imp ?_; intro K hK; simp only [go_sem, hP, hn]; (repeat refine vc ?_); refine hK _ ?_; clear K hK
          (repeat (first | (refine TR.imp ?_; intro K hK; simp only [go_sem, hP, hn]; (repeat refine vc ?_); refine hK _ ?_; clear K hK) | refine TS.imp ?_ | refine n9 (by decide) ?_))
          rw [w64 (x := j + 1) (by omega) (by omega), w64 (x := (ns.length : Int) + 1) (by omega) (by omega), w64 (x := (ns.length : Int) + 1 - rd l j) (by omega) (by omega)]
          refine ⟨m2 - 1, _, by omega, ?_, j + 1, l.set j.toNat ((ns.length : Int) + 1 - rd l j), rfl, by omega, by omega, by simpa using hl, ?_, ?_⟩
          · exact (Le.mv (by simp only [go_sem, hP, hn]; first | done | (simp; done) | (simp [intC]; done) | (repeat (first | rfl | constructor))) (by simp only [go_sem, hP, hn]; first | done | (simp; done) | (simp [intC]; done) | (repeat (first | rfl | constructor))))
          · rw [take_set hj0 hjl, take_rd hj0 (show j < q.inn.length by omega), hta, List.map_append, List.map_cons, List.map_nil, hrd, if_pos (by omega)]
          · rw [List.drop_set_of_lt (by omega), hd1]
        · have hg1 : ¬ 0 < rd l j := by simpa using hg
          (repeat (first | (refine TR.imp ?_; intro K hK; simp only [go_sem, hP, hn]; (repeat refine vc ?_); refine hK _ ?_; clear K hK) | refine TS.imp ?_ | refine n9 (by decide) ?_))
          rw [w64 (x := j + 1) (by omega) (by omega)]
          refine ⟨m2 - 1, _, by omega, ?_, j + 1, l, rfl, by omega, by omega, hl, ?_, hd1⟩
          · exact (Le.mv (by simp only [go_sem, hP, hn]; first | done | (simp; done) | (simp [intC]; done) | (repeat (first | rfl | constructor))) (by simp only [go_sem, hP, hn]; first | done | (simp; done) | (simp [intC]; done) | (repeat (first | rfl | constructor))))
          · rw [take_rd hj0 hjl, take_rd hj0 (show j < q.inn.length by omega), hta, List.map_append, List.map_cons, List.map_nil, hrd, if_neg (by omega)]
      · have hj : j = q.inn.length := by have := of_decide_eq_false hc; omega
        obtain rfl : l = q.inn.map (fun x => if 0 < x then (ns.length : Int) + 1 - x else x) := by
          rw [List.take_of_length_le (by omega), List.take_of_length_le (by omega)] at hta
          exact hta
        refine Tr.le (Le.freeze 38) ?_
        simp only [go_sem, hP, hn]
        (repeat (first | refine TS.imp ?_ | refine n9 (by decide) ?_))
        refine TR.imp ?_; intro K hK; simp only [go_sem, hP, hn]; (repeat refine vc ?_); refine hK _ ?_; clear K hK
        (repeat (first | refine TS.imp ?_ | refine n9 (by decide) ?_))
        refine TR.imp ?_; intro K hK; simp only [go_sem, hP, hn]; (repeat refine vc ?_); refine hK _ ?_; clear K hK
        (repeat (first | (refine TR.imp ?_; intro K hK; simp only [go_sem, hP, hn]; (repeat refine vc ?_); refine hK _ ?_; clear K hK) | refine TS.imp ?_ | refine n9 (by decide) ?_))
        rw [hi1]
        refine ⟨m - 1, _, by omega, ?_, i - 1, .own 66, [(66, .row 50 e0N ((((ns.drop i.toNat).map (turnN ns.length)).reverse.map Nd.ds) ++ [(turnN ns.length q).ds]))], rfl, by omega, by omega, .inr ⟨by omega, rfl, by rw [hdr, List.reverse_cons, List.map_append]; rfl⟩⟩
        exact (Le.mv (by simp only [go_sem, hP, hn]; first | done | (simp; done) | (simp [intC]; done) | (repeat (first | rfl | constructor))) (by simp only [go_sem, hP, hn]; first | done | (simp; done) | (simp [intC]; done) | (repeat (first | rfl | constructor))))
    · have h0 : i = 0 := by {have := of_decide_eq_false hb; omega}
      subst h0
      refine Tr.le (Le.ren 66 2000 (by rw [hpn]; rfl) rfl rfl) ?_
      simp only [renT, renH, renO, renS, renL, rn, go_sem, hP, hn]
      (repeat (first | (refine TR.imp ?_; intro K hK; simp only [go_sem, hP, hn]; (repeat refine vc ?_); refine hK _ ?_; clear K hK) | refine TS.imp ?_ | refine n9 (by decide) ?_))

      simp only [RetG, go_sem]; (repeat with_reducible refine vc ?_)
      decide
end
/-- what ref15.Made makes -/
structure GM (wd lo hi out : Int) (ns : List Nd) : Prop where
  wd0 : 1 ≤ wd ∧ wd ≤ 3
  lo0 : -199 ≤ lo ∧ lo ≤ 0
  hi0 : 0 ≤ hi ∧ hi ≤ 199
  n0 : 1 ≤ ns.length ∧ ns.length ≤ 6
  out0 : 1 ≤ out ∧ out ≤ ns.length
  made : ∃ ns0 W R, MadeL wd ns0 W R ∧ (ns = ns0 ∨ ns = (ns0.map (turnN ns0.length)).reverse)
def PMade (r : S) (H : Hp) : Prop := ∃ wd lo hi out ns, r = .agg (gcs wd lo hi out (.own 2000)) ∧ H = [(2000, .row 50 e0N (ns.map Nd.ds))] ∧ GM wd lo hi out ns
theorem Made15_c {T : World → Prop} (Tm : TP T) (l0 : List Int) : Cg Go.Proofs.Tryd.prog T 32 [] [.d (.row [.i .i64 0] (l0.map intC))] PMade := by
  refine Cg_of [2000] Tm Go.Proofs.Tryd.func32 rfl rfl Go.Proofs.Tryd.ntmps32 (by simp) rfl (rs := [.cell 2 26]) rfl fun E hP hn hT hpn => ?_
  (repeat (first | (refine TR.imp ?_; intro K hK; simp only [go_sem, hP, hn]; (repeat refine vc ?_); refine hK _ ?_; clear K hK) | refine TS.imp ?_ | refine n9 (by decide) ?_))
  refine Tr.meet (fun s => ∃ l : List Int, s = ⟨[(0, .d (.row [.i .i64 0] (l.map intC))), (2, .ptr 2 0)], [(2, .box 26 (gcs 0 0 0 0 (.d .nil)))]⟩ ∧ l.length ≤ 240) ?_ ?_
  rotate_left
  · refine Tr.cond rfl (fun h1 => ?_) (fun h1 => ?_)
    · have h2 : 240 < l0.length := by
        have : (240 : Int) < l0.length := by simpa using h1
        omega
      (repeat (first | (refine TR.imp ?_; intro K hK; simp only [go_sem, hP, hn]; (repeat refine vc ?_); refine hK _ ?_; clear K hK) | refine TS.imp ?_ | refine n9 (by decide) ?_))
      exact ⟨_, (Le.mv (by simp only [go_sem, hP, hn]; first | done | (simp; done) | (simp [intC]; done) | (repeat (first | rfl | constructor))) (by simp only [go_sem, hP, hn]; first | done | (simp; done) | (simp [intC]; done) | (repeat (first | rfl | constructor)))), l0.take 240, rfl, by simp; omega⟩
    · have h2 : l0.length ≤ 240 := by
        have : (l0.length : Int) ≤ 240 := by simpa using h1
        omega
      (repeat (first | (refine TR.imp ?_; intro K hK; simp only [go_sem, hP, hn]; (repeat refine vc ?_); refine hK _ ?_; clear K hK) | refine TS.imp ?_ | refine n9 (by decide) ?_))
      exact ⟨_, (Le.mv (by simp only [go_sem, hP, hn]; first | done | (simp; done) | (simp [intC]; done) | (repeat (first | rfl | constructor))) (by simp only [go_sem, hP, hn]; first | done | (simp; done) | (simp [intC]; done) | (repeat (first | rfl | constructor)))), l0, rfl, h2⟩
  rintro s ⟨l, rfl, hl⟩
  (repeat (first | (refine TR.imp ?_; intro K hK; simp only [go_sem, hP, hn]; (repeat refine vc ?_); refine hK _ ?_; clear K hK) | refine TS.imp ?_ | refine n9 (by decide) ?_))
  refine Tr.le (Le.keep [2, 3]) ?_; simp only [List.map_cons, List.map_nil, lk, Nat.reduceEqDiff, reduceIte]
  refine Tr.le (Le.ren 22 1000 (by rw [hpn] <;> rfl) rfl rfl) ?_; simp only [renT, renH, renO, renS, renL, rn, go_sem, hP, hn]
  have h00 : (0 : Int) ≤ 0 := by decide
  have h01 : (0 : Int) ≤ l.length := by omega
  refine TR.imp ?_; intro K hK; simp only [go_sem, hP, hn]
  (repeat refine vc ?_)
  refine CallN_c1 (by rw [hP, hT]; exact Next_c Tm l 0 3 (by omega) h00 h01 (by decide) (by decide) ) rfl rfl rfl trivial (by simp only [go_sem, hP, hn]; try trivial) (by simp only [go_sem, hP, hn]; try rfl) (by simp only [go_sem, hP, hn]; try rfl) (by rw [hn]; decide) (fun r ob' hr => ?_); obtain  ⟨v0, j1, rfl, rfl, v00, v01, j10, j11⟩ := hr; simp only [go_sem, hP, hn]; (repeat refine vc ?_)
  rw [w64 (x := 1 + v0) (by omega) (by omega)]
  refine hK _ ?_; clear K hK
  (repeat (first | refine TS.imp ?_ | refine n9 (by decide) ?_))
  refine TR.imp ?_; intro K hK; simp only [go_sem, hP, hn]
  (repeat refine vc ?_)
  refine CallN_c1 (by rw [hP, hT]; exact Next_c Tm l j1 200 (by omega) j10 j11 (by decide) (by decide) ) rfl rfl rfl trivial (by simp only [go_sem, hP, hn]; try trivial) (by simp only [go_sem, hP, hn]; try rfl) (by simp only [go_sem, hP, hn]; try rfl) (by rw [hn]; decide) (fun r ob' hr => ?_); obtain  ⟨v1, j2, rfl, rfl, v10, v11, j20, j21⟩ := hr; simp only [go_sem, hP, hn]; (repeat refine vc ?_)
  rw [w64 (x := 0 - v1) (by omega) (by omega)]
  refine hK _ ?_; clear K hK
  (repeat (first | refine TS.imp ?_ | refine n9 (by decide) ?_))
  refine TR.imp ?_; intro K hK; simp only [go_sem, hP, hn]
  (repeat refine vc ?_)
  refine CallN_c1 (by rw [hP, hT]; exact Next_c Tm l j2 200 (by omega) j20 j21 (by decide) (by decide) ) rfl rfl rfl trivial (by simp only [go_sem, hP, hn]; try trivial) (by simp only [go_sem, hP, hn]; try rfl) (by simp only [go_sem, hP, hn]; try rfl) (by rw [hn]; decide) (fun r ob' hr => ?_); obtain  ⟨v2, j3, rfl, rfl, v20, v21, j30, j31⟩ := hr; simp only [go_sem, hP, hn]; (repeat refine vc ?_)
  refine hK _ ?_; clear K hK
  (repeat (first | refine TS.imp ?_ | refine n9 (by decide) ?_))
  refine TR.imp ?_; intro K hK; simp only [go_sem, hP, hn]
  (repeat refine vc ?_)
  refine CallN_c1 (by rw [hP, hT]; exact Next_c Tm l j3 2 (by omega) j30 j31 (by decide) (by decide) ) rfl rfl rfl trivial (by simp only [go_sem, hP, hn]; try trivial) (by simp only [go_sem, hP, hn]; try rfl) (by simp only [go_sem, hP, hn]; try rfl) (by rw [hn]; decide) (fun r ob' hr => ?_); obtain  ⟨v3, j4, rfl, rfl, v30, v31, j40, j41⟩ := hr; simp only [go_sem, hP, hn]; (repeat refine vc ?_)
  refine hK _ ?_; clear K hK
  (repeat (first | refine TS.imp ?_ | refine n9 (by decide) ?_))
  refine TR.imp ?_; intro K hK; simp only [go_sem, hP, hn]
  (repeat refine vc ?_)
  refine CallN_c1 (by rw [hP, hT]; exact Next_c Tm l j4 6 (by omega) j40 j41 (by decide) (by decide) ) rfl rfl rfl trivial (by simp only [go_sem, hP, hn]; try trivial) (by simp only [go_sem, hP, hn]; try rfl) (by simp only [go_sem, hP, hn]; try rfl) (by rw [hn]; decide) (fun r ob' hr => ?_); obtain  ⟨v4, j5, rfl, rfl, v40, v41, j50, j51⟩ := hr; simp only [go_sem, hP, hn]; (repeat refine vc ?_)
  rw [w64 (x := 1 + v4) (by omega) (by omega)]
  refine hK _ ?_; clear K hK
  (repeat (first | refine TS.imp ?_ | refine n9 (by decide) ?_))
  (repeat (first | (refine TR.imp ?_; intro K hK; simp only [go_sem, hP, hn]; (repeat refine vc ?_); refine hK _ ?_; clear K hK) | refine TS.imp ?_ | refine n9 (by decide) ?_))
  have hwd : 1 ≤ 1 + v0 ∧ 1 + v0 ≤ 3 := by omega
  have hlo : -199 ≤ 0 - v1 ∧ 0 - v1 ≤ 0 := by omega
  have hmany : 1 ≤ 1 + v4 ∧ 1 + v4 ≤ 6 := by omega
  generalize 1 + v0 = wd at hwd ⊢
  generalize 0 - v1 = lo at hlo ⊢
  generalize 1 + v4 = many at hmany ⊢
  generalize (v3 == 1) = back
  clear v00 v01 v10 v11 v30 v31 v40 v41 h00 h01 j10 j11 j20 j21 j30 j31 j40 j41
  refine Tr.le (Le.keep [2, 3, 4, 5, 6, 7, 8, 9]) ?_; simp only [List.map_cons, List.map_nil, lk, Nat.reduceEqDiff, reduceIte]
  refine Tr.le (Le.ren 42 3001 (by rw [hpn] <;> rfl) rfl rfl) ?_; simp only [renT, renH, renO, renS, renL, rn, go_sem, hP, hn]
  refine Tr.le (Le.ren 43 3002 (by rw [hpn] <;> rfl) rfl rfl) ?_; simp only [renT, renH, renO, renS, renL, rn, go_sem, hP, hn]
  refine Tr.le (Le.nilown 3003 4 50 e0N (gcs wd lo v2 0 (.own 3003)) rfl (by simp [wo, gcs]) (by rw [hpn] <;> rfl) rfl rfl) ?_
  simp only [go_sem, hP, hn]
  refine Tr.loop (fun m s => ∃ (i j : Int) (ns : List Nd) (W R : List Int), s = ⟨[(2, .ptr 2 0), (3, .ptr 1000 0), (4, .ptr 4 0), (5, .d (.b back)), (6, .d (.i .i64 many)), (7, .own 3001), (8, .own 3002), (9, .d (.i .i64 i))], [(1000, rowO l j), (2, .box 26 (gcs 0 0 0 0 (.d .nil))), (4, .box 26 (gcs wd lo v2 0 (.own 3003))), (3001, .row 3 [.i .i64 0] (W.map intC)), (3002, .row 3 [.i .i64 0] (R.map intC)), (3003, .row 50 e0N (ns.map Nd.ds))]⟩ ∧ i = ns.length + 1 ∧ i + m = many + 1 ∧ MadeL wd ns W R ∧ 0 ≤ j ∧ j ≤ l.length) many.toNat ⟨_, (Le.mv (by simp only [go_sem, hP, hn]; first | done | (simp; done) | (simp [intC]; done) | (repeat (first | rfl | constructor))) (by simp only [go_sem, hP, hn]; first | done | (simp; done) | (simp [intC]; done) | (repeat (first | rfl | constructor)))), 1, j5, [], [wd], [1], rfl, by simp, by omega, .base, j50, j51⟩ ?_
  rintro m s ⟨i, j, ns, W, R, rfl, hi, him, hM, hj0, hj1⟩
  have hlen := hM.len
  have hWd := hM.wide ⟨hwd.1, by omega⟩
  (repeat (first | (refine TR.imp ?_; intro K hK; simp only [go_sem, hP, hn]; (repeat refine vc ?_); refine hK _ ?_; clear K hK) | refine TS.imp ?_ | refine n9 (by decide) ?_))
  refine Tr.cond rfl (fun hb => ?_) (fun hb => ?_)
  · have hib : i ≤ many := by simpa using hb
    have hiw : wrap64 (i - 1) = i - 1 := w64 (by omega) (by omega)
    (repeat (first | refine TS.imp ?_ | refine n9 (by decide) ?_))
    refine TR.imp ?_; intro K hK; simp only [hiw, go_sem, hP, hn]; (repeat refine vc ?_); refine hK _ ?_; clear K hK
    (repeat (first | refine TS.imp ?_ | refine n9 (by decide) ?_))
    refine TR.imp ?_; intro K hK; simp only [go_sem, hP, hn]
    (repeat refine vc ?_)
    refine CallN_c1 (by rw [hP, hT]; exact Next_c Tm l j 3 (by omega) hj0 hj1 (by decide) (by decide) ) rfl rfl rfl trivial (by simp only [go_sem, hP, hn]; try trivial) (by simp only [go_sem, hP, hn]; try rfl) (by simp only [go_sem, hP, hn]; try rfl) (by rw [hn]; decide) (fun r ob' hr => ?_); obtain  ⟨u, j', rfl, rfl, u0, u1, hj0', hj1'⟩ := hr; simp only [go_sem, hP, hn]; (repeat refine vc ?_)
    refine hK _ ?_; clear K hK
    (repeat (first | refine TS.imp ?_ | refine n9 (by decide) ?_))
    refine Tr.meet (fun s => ∃ (a j : Int), s = ⟨[(2, .ptr 2 0), (3, .ptr 1000 0), (4, .ptr 4 0), (5, .d (.b back)), (6, .d (.i .i64 many)), (7, .own 3001), (8, .own 3002), (9, .d (.i .i64 i)), (10, .d (.i .i64 a))], [(1000, rowO l j), (2, .box 26 (gcs 0 0 0 0 (.d .nil))), (4, .box 26 (gcs wd lo v2 0 (.own 3003))), (3001, .row 3 [.i .i64 0] (W.map intC)), (3002, .row 3 [.i .i64 0] (R.map intC)), (3003, .row 50 e0N (ns.map Nd.ds))]⟩ ∧ (0 ≤ a ∧ a < i) ∧ 0 ≤ j ∧ j ≤ l.length) ?_ ?_
    rotate_left
    · refine Tr.cond rfl (fun ha => ?_) (fun ha => ?_)
      · (repeat (first | refine TS.imp ?_ | refine n9 (by decide) ?_))
        refine TR.imp ?_; intro K hK; simp only [go_sem, hP, hn]
        (repeat refine vc ?_)
        refine CallN_c1 (by rw [hP, hT]; exact Next_c Tm l j' i (by omega) hj0' hj1' (by omega) (by omega) ) rfl rfl rfl trivial (by simp only [go_sem, hP, hn]; try trivial) (by simp only [go_sem, hP, hn]; try rfl) (by simp only [go_sem, hP, hn]; try rfl) (by rw [hn]; decide) (fun r ob' hr => ?_); obtain  ⟨a, j2, rfl, rfl, a0, a1, hj20, hj21⟩ := hr; simp only [go_sem, hP, hn]; (repeat refine vc ?_)
        refine hK _ ?_; clear K hK
        exact ⟨_, (Le.mv (by simp only [go_sem, hP, hn]; first | done | (simp; done) | (simp [intC]; done) | (repeat (first | rfl | constructor))) (by simp only [go_sem, hP, hn]; first | done | (simp; done) | (simp [intC]; done) | (repeat (first | rfl | constructor)))), a, j2, rfl, ⟨a0, a1⟩, hj20, hj21⟩
      · (repeat (first | (refine TR.imp ?_; intro K hK; simp only [go_sem, hP, hn]; (repeat refine vc ?_); refine hK _ ?_; clear K hK) | refine TS.imp ?_ | refine n9 (by decide) ?_))
        exact ⟨_, (Le.mv (by simp only [go_sem, hP, hn]; first | done | (simp; done) | (simp [intC]; done) | (repeat (first | rfl | constructor))) (by simp only [go_sem, hP, hn]; first | done | (simp; done) | (simp [intC]; done) | (repeat (first | rfl | constructor)))), i - 1, j', rfl, ⟨by omega, by omega⟩, hj0', hj1'⟩
    clear hj0 hj1 hj0' hj1' u0 u1
    rintro s ⟨a, j, rfl, ha, hj0, hj1⟩
    have haW : (0 ≤ a ∧ a < W.length) := by omega
    have haR : (0 ≤ a ∧ a < R.length) := by omega
    (repeat (first | (refine TR.imp ?_; intro K hK; simp only [go_sem, hP, hn]; (repeat refine vc ?_); refine hK _ ?_; clear K hK) | refine TS.imp ?_ | refine n9 (by decide) ?_))
    refine TR.imp ?_; intro K hK; simp only [go_sem, hP, hn]
    (repeat refine vc ?_)
    refine CallN_c1 (by rw [hP, hT]; exact Next_c Tm l j i (by omega) hj0 hj1 (by omega) (by omega) ) rfl rfl rfl trivial (by simp only [go_sem, hP, hn]; try trivial) (by simp only [go_sem, hP, hn]; try rfl) (by simp only [go_sem, hP, hn]; try rfl) (by rw [hn]; decide) (fun r ob' hr => ?_); obtain  ⟨b, j2, rfl, rfl, b0, b1, hj20, hj21⟩ := hr; simp only [go_sem, hP, hn]; (repeat refine vc ?_)
    refine hK _ ?_; clear K hK
    refine Tr.le (Le.keep [2, 3, 4, 5, 6, 7, 8, 9, 10, 11, 12, 13]) ?_; simp only [List.map_cons, List.map_nil, lk, Nat.reduceEqDiff, reduceIte]
    (repeat (first | refine TS.imp ?_ | refine n9 (by decide) ?_))
    (first | refine d1 (.p true 0 (.alt 1 (.p false 2 (.p false 3 (.p true 4 (.p true 5 (.p true 6 (.p true 7 (.p true 8 (.p true 9 (.p true 10 (.p true 11 (.p true 12 (.p false 13 .nil)))))))))))) .nil)) [1000] (by rw [hP]; kernel_rfl) (by kernel_rfl) (by simp only [go_sem, hP, hn]; try simp) (fun _ _ h => h) fun K hK => ?_ | refine d2 (.p true 0 (.alt 1 (.p false 2 (.p false 3 (.p true 4 (.p true 5 (.p true 6 (.p true 7 (.p true 8 (.p true 9 (.p true 10 (.p true 11 (.p true 12 (.p false 13 .nil)))))))))))) .nil)) [1000] (by rw [hP]; kernel_rfl) (by kernel_rfl) (by simp only [go_sem, hP, hn]; try simp) (fun _ _ h => h) fun K hK => ?_ | refine d4 (.p true 0 (.alt 1 (.p false 2 (.p false 3 (.p true 4 (.p true 5 (.p true 6 (.p true 7 (.p true 8 (.p true 9 (.p true 10 (.p true 11 (.p true 12 (.p false 13 .nil)))))))))))) .nil)) [1000] (by rw [hP]; kernel_rfl) (by kernel_rfl) (by simp only [go_sem, hP, hn]; try simp) (fun _ _ h => h) fun K hK => ?_); simp only [go_sem, hP, hn]
    (repeat refine vc ?_)
    refine CallP_c1 (by rw [hP, hT]; exact Next_c Tm l j2 3 (by omega) hj20 hj21 (by decide) (by decide) ) rfl rfl rfl trivial (by simp only [go_sem, hP, hn]; try trivial) (by simp only [go_sem, hP, hn]; try rfl) (by simp only [go_sem, hP, hn]; try rfl) (by rw [hn]; decide) rfl (fun r ob' hr => ?_); obtain  ⟨q, j3, rfl, rfl, q0, q1, hj30, hj31⟩ := hr; simp only [go_sem, hP, hn]; (repeat refine vc ?_)
    refine hK _ ?_; clear K hK
    refine Tr.meet (fun s => ∃ (inn ws : List Int) (j : Int), s = ⟨[(2, .ptr 2 0), (3, .ptr 1000 0), (4, .ptr 4 0), (5, .d (.b back)), (6, .d (.i .i64 many)), (7, .own 3001), (8, .own 3002), (9, .d (.i .i64 i)), (10, .d (.i .i64 a)), (11, .d (.row [.i .i64 0] (inn.map intC))), (12, .d (.row [.i .i64 0] (ws.map intC)))], [(1000, rowO l j), (2, .box 26 (gcs 0 0 0 0 (.d .nil))), (4, .box 26 (gcs wd lo v2 0 (.own 3003))), (3001, .row 3 [.i .i64 0] (W.map intC)), (3002, .row 3 [.i .i64 0] (R.map intC)), (3003, .row 50 e0N (ns.map Nd.ds))]⟩ ∧ ((inn = [a] ∧ ws = [rd W a]) ∨ ∃ b, inn = [a, b] ∧ ws = [rd W a, rd W b] ∧ (0 ≤ b ∧ b < W.length) ∧ rd R b = rd R a) ∧ 0 ≤ j ∧ j ≤ l.length) ?_ ?_
    rotate_left
    · refine Tr.cond rfl (fun hab => ?_) (fun hab => ?_)
      · (repeat (first | (refine TR.imp ?_; intro K hK; simp only [go_sem, hP, hn]; (repeat refine vc ?_); refine hK _ ?_; clear K hK) | refine TS.imp ?_ | refine n9 (by decide) ?_))
        refine ⟨_, ?_, [a, b], [rd W a, rd W b], j3, rfl, .inr ⟨b, rfl, rfl, by omega, ?_⟩, hj30, hj31⟩
        · exact (Le.freeze 84).trans ((Le.freeze 91).trans (Le.mv (by simp only [go_sem, hP, hn]; first | done | (simp; done) | (simp [intC]; done) | (repeat (first | rfl | constructor))) (by simp only [go_sem, hP, hn]; first | done | (simp; done) | (simp [intC]; done) | (repeat (first | rfl | constructor)))))
        · simp only [Bool.and_eq_true, beq_iff_eq] at hab; exact hab.2
      · (repeat (first | (refine TR.imp ?_; intro K hK; simp only [go_sem, hP, hn]; (repeat refine vc ?_); refine hK _ ?_; clear K hK) | refine TS.imp ?_ | refine n9 (by decide) ?_))
        refine ⟨_, ?_, [a], [rd W a], j3, rfl, .inl ⟨rfl, rfl⟩, hj30, hj31⟩
        exact (Le.freeze 58).trans ((Le.freeze 63).trans (Le.mv (by simp only [go_sem, hP, hn]; first | done | (simp; done) | (simp [intC]; done) | (repeat (first | rfl | constructor))) (by simp only [go_sem, hP, hn]; first | done | (simp; done) | (simp [intC]; done) | (repeat (first | rfl | constructor)))))
    clear q0 q1 hj30 hj31 hj20 hj21 b0 b1 hj0 hj1
    rintro s ⟨inn, ws, j, rfl, hio, hj0, hj1⟩
    have hws : ∀ x ∈ ws, 1 ≤ x ∧ x ≤ 16 := by
      rcases hio with ⟨_, rfl⟩ | ⟨b, _, rfl, hb, _⟩
      · intro x hx; simp at hx; subst hx; exact hWd _ (rd_mem haW.1 haW.2)
      · intro x hx; simp at hx; rcases hx with rfl | rfl
        · exact hWd _ (rd_mem haW.1 haW.2)
        · exact hWd _ (rd_mem hb.1 hb.2)
    have hio' : (∃ a w, inn = [a] ∧ ws = [w]) ∨ ∃ a b v w, inn = [a, b] ∧ ws = [v, w] := by
      rcases hio with ⟨rfl, rfl⟩ | ⟨b, rfl, rfl, _⟩
      · exact .inl ⟨_, _, rfl, rfl⟩
      · exact .inr ⟨_, _, _, _, rfl, rfl⟩
    (repeat (first | refine TS.imp ?_ | refine n9 (by decide) ?_))
    refine TR.imp ?_; intro K hK; simp only [go_sem, hP, hn]
    (repeat refine vc ?_)
    refine CallN_c1 (by rw [hP, hT]; exact Made_c Tm l j inn ws (rd R a == 0) (by omega) hj0 hj1 hio' hws ) rfl rfl rfl trivial (by simp only [go_sem, hP, hn]; try trivial) (by simp only [go_sem, hP, hn]; try rfl) (by simp only [go_sem, hP, hn]; try rfl) (by rw [hn]; decide) (fun r ob' hr => ?_); obtain  ⟨n, j', rfl, rfl, hN, hj0', hj1'⟩ := hr; simp only [go_sem, hP, hn]; (repeat refine vc ?_)
    refine hK _ ?_; clear K hK
    refine Tr.le (Le.keep [2, 3, 4, 5, 6, 7, 8, 9, 10, 12, 14]) ?_; simp only [List.map_cons, List.map_nil, lk, Nat.reduceEqDiff, reduceIte]
    (repeat (first | (refine TR.imp ?_; intro K hK; simp only [go_sem, hP, hn]; (repeat refine vc ?_); refine hK _ ?_; clear K hK) | refine TS.imp ?_ | refine n9 (by decide) ?_))
    have hnl : n.inn.length ≤ ws.length ∧ n.inn.length ≤ 2 := by
      rcases hio' with ⟨x, y, rfl, rfl⟩ | ⟨x, y, u, v, rfl, rfl⟩ <;> rcases hN.inn with e | e <;> rw [e] <;> simp
    have hwl := hN.wl
    have hbl := hN.bl
    refine Tr.le (Le.keep [2, 3, 4, 5, 6, 7, 8, 9, 10, 12, 14]) ?_; simp only [List.map_cons, List.map_nil, lk, Nat.reduceEqDiff, reduceIte]
    (first | refine d1 (.p true 0 (.p true 1 (.p true 2 (.p true 3 (.p true 4 (.p true 5 (.p true 6 (.alt 7 (.alt 8 (.alt 9 (.p false 10 .nil) .nil) .nil) .nil)))))))) [3001] (by rw [hP]; kernel_rfl) (by kernel_rfl) (by simp only [go_sem, hP, hn]; try simp) (fun _ _ h => h) fun K hK => ?_ | refine d2 (.p true 0 (.p true 1 (.p true 2 (.p true 3 (.p true 4 (.p true 5 (.p true 6 (.alt 7 (.alt 8 (.alt 9 (.p false 10 .nil) .nil) .nil) .nil)))))))) [3001] (by rw [hP]; kernel_rfl) (by kernel_rfl) (by simp only [go_sem, hP, hn]; try simp) (fun _ _ h => h) fun K hK => ?_ | refine d4 (.p true 0 (.p true 1 (.p true 2 (.p true 3 (.p true 4 (.p true 5 (.p true 6 (.alt 7 (.alt 8 (.alt 9 (.p false 10 .nil) .nil) .nil) .nil)))))))) [3001] (by rw [hP]; kernel_rfl) (by kernel_rfl) (by simp only [go_sem, hP, hn]; try simp) (fun _ _ h => h) fun K hK => ?_); simp only [go_sem, hP, hn]
    (repeat refine vc ?_)
    rw [← List.map_take]
    refine p1 (by rw [hP, hT]; exact Width_r Tm n (ws.take n.inn.length) (by omega) (by omega) (by rw [List.length_take]; omega) (by omega)) rfl rfl rfl trivial (by simp only [go_sem, hP, hn]; try trivial) (by simp only [go_sem, hP, hn]; try rfl) (by rw [hn]; decide) (by rfl) ?_; simp only [go_sem, hP, hn]; (repeat refine vc ?_)
    refine hK _ ?_; clear K hK
    refine Tr.le (Le.keep [2, 3, 4, 5, 6, 7, 8, 9, 10, 12, 14]) ?_; simp only [List.map_cons, List.map_nil, lk, Nat.reduceEqDiff, reduceIte]
    (first | refine d1 (.p true 0 (.p true 1 (.p true 2 (.p true 3 (.p true 4 (.alt 5 (.alt 6 (.alt 7 (.alt 8 (.alt 9 (.p false 10 .nil) .nil) .nil) .nil) .nil) .nil)))))) [3002] (by rw [hP]; kernel_rfl) (by kernel_rfl) (by simp only [go_sem, hP, hn]; try simp) (fun _ _ h => h) fun K hK => ?_ | refine d2 (.p true 0 (.p true 1 (.p true 2 (.p true 3 (.p true 4 (.alt 5 (.alt 6 (.alt 7 (.alt 8 (.alt 9 (.p false 10 .nil) .nil) .nil) .nil) .nil) .nil)))))) [3002] (by rw [hP]; kernel_rfl) (by kernel_rfl) (by simp only [go_sem, hP, hn]; try simp) (fun _ _ h => h) fun K hK => ?_ | refine d4 (.p true 0 (.p true 1 (.p true 2 (.p true 3 (.p true 4 (.alt 5 (.alt 6 (.alt 7 (.alt 8 (.alt 9 (.p false 10 .nil) .nil) .nil) .nil) .nil) .nil)))))) [3002] (by rw [hP]; kernel_rfl) (by kernel_rfl) (by simp only [go_sem, hP, hn]; try simp) (fun _ _ h => h) fun K hK => ?_); simp only [go_sem, hP, hn]
    (repeat refine vc ?_)
    rw [show [[D.i .i64 (rd R a)]] = [rd R a].map intC from rfl]
    refine p1 (by rw [hP, hT]; exact rate15_r Tm n [rd R a] (by simp) (by simp)) rfl rfl rfl trivial (by simp only [go_sem, hP, hn]; try trivial) (by simp only [go_sem, hP, hn]; try rfl) (by rw [hn]; decide) (by rfl) ?_; simp only [go_sem, hP, hn]; (repeat refine vc ?_)
    refine hK _ ?_; clear K hK
    (repeat (first | (refine TR.imp ?_; intro K hK; simp only [go_sem, hP, hn]; (repeat refine vc ?_); refine hK _ ?_; clear K hK) | refine TS.imp ?_ | refine n9 (by decide) ?_))
    rw [w64 (x := i + 1) (by omega) (by omega)]
    have hS := stepN_of hN haW (fun e => by simp [e]) hio
    refine ⟨m - 1, _, by omega, ?_, i + 1, j', ns ++ [n], W ++ [n.rwide (ws.take n.inn.length)], R ++ [n.rate [rd R a]], rfl, by simp; omega, by omega, hM.step hS, hj0', hj1'⟩
    refine Le.trans (b := ⟨[(2, .ptr 2 0), (3, .ptr 1000 0), (4, .ptr 4 0), (5, .d (.b back)), (6, .d (.i .i64 many)), (7, .own 116), (8, .own 126), (9, .d (.i .i64 (i + 1)))], [(1000, rowO l j'), (2, .box 26 (gcs 0 0 0 0 (.d .nil))), (4, .box 26 (gcs wd lo v2 0 (.own 105))), (116, .row 3 [.i .i64 0] ((W ++ [n.rwide (ws.take n.inn.length)]).map intC)), (126, .row 3 [.i .i64 0] ((R ++ [n.rate [rd R a]]).map intC)), (105, .row 50 e0N (ns.map Nd.ds ++ [n.ds]))]⟩) (Le.mv (by simp only [go_sem, hP, hn]; first | done | (simp; done) | (simp [intC]; done) | (repeat (first | rfl | constructor))) (by simp only [go_sem, hP, hn]; first | done | (simp; done) | (simp [intC]; done) | (repeat (first | rfl | constructor)))) ?_
    rw [show ns.map Nd.ds ++ [n.ds] = (ns ++ [n]).map Nd.ds by simp]
    refine Le.trans (Le.ren 116 3001 (by rw [hpn] <;> rfl) rfl rfl) ?_; simp only [renT, renH, renO, renS, renL, rn, go_sem, hP, hn]
    refine Le.trans (Le.ren 126 3002 (by rw [hpn] <;> rfl) rfl rfl) ?_; simp only [renT, renH, renO, renS, renL, rn, go_sem, hP, hn]
    refine Le.trans (Le.ren 105 3003 (by rw [hpn] <;> rfl) rfl rfl) ?_; simp only [renT, renH, renO, renS, renL, rn, go_sem, hP, hn]
    exact (Le.mv (by simp only [go_sem, hP, hn]; first | done | (simp; done) | (simp [intC]; done) | (repeat (first | rfl | constructor))) (by simp only [go_sem, hP, hn]; first | done | (simp; done) | (simp [intC]; done) | (repeat (first | rfl | constructor))))
  · have hmn : many = ns.length := by have := of_decide_eq_false hb; omega
    (repeat (first | (refine TR.imp ?_; intro K hK; simp only [go_sem, hP, hn]; (repeat refine vc ?_); refine hK _ ?_; clear K hK) | refine TS.imp ?_ | refine n9 (by decide) ?_))
    refine TR.imp ?_; intro K hK; simp only [go_sem, hP, hn]
    (repeat refine vc ?_)
    refine CallN_c1 (by rw [hP, hT]; exact Next_c Tm l j 5 (by omega) hj0 hj1 (by decide) (by decide) ) rfl rfl rfl trivial (by simp only [go_sem, hP, hn]; try trivial) (by simp only [go_sem, hP, hn]; try rfl) (by simp only [go_sem, hP, hn]; try rfl) (by rw [hn]; decide) (fun r ob' hr => ?_); obtain  ⟨u, j', rfl, rfl, u0, u1, hj0', hj1'⟩ := hr; simp only [go_sem, hP, hn]; (repeat refine vc ?_)
    refine hK _ ?_; clear K hK
    refine Tr.meet (fun s => ∃ (out : Int), s = ⟨[(2, .ptr 2 0), (4, .ptr 4 0), (5, .d (.b back))], [(2, .box 26 (gcs 0 0 0 0 (.d .nil))), (4, .box 26 (gcs wd lo v2 out (.own 3003))), (3003, .row 50 e0N (ns.map Nd.ds))]⟩ ∧ (1 ≤ out ∧ out ≤ ns.length)) ?_ ?_
    rotate_left
    · refine Tr.cond rfl (fun h5 => ?_) (fun h5 => ?_)
      · (repeat (first | refine TS.imp ?_ | refine n9 (by decide) ?_))
        refine TR.imp ?_; intro K hK; simp only [go_sem, hP, hn]
        (repeat refine vc ?_)
        refine CallN_c1 (by rw [hP, hT]; exact Next_c Tm l j' many (by omega) hj0' hj1' (by omega) (by omega) ) rfl rfl rfl trivial (by simp only [go_sem, hP, hn]; try trivial) (by simp only [go_sem, hP, hn]; try rfl) (by simp only [go_sem, hP, hn]; try rfl) (by rw [hn]; decide) (fun r ob' hr => ?_); obtain  ⟨o', j2, rfl, rfl, o0, o1, hj20, hj21⟩ := hr; simp only [go_sem, hP, hn]; (repeat refine vc ?_)
        rw [w64 (x := 1 + o') (by omega) (by omega)]
        refine hK _ ?_; clear K hK
        exact ⟨_, (Le.mv (by simp only [go_sem, hP, hn]; first | done | (simp; done) | (simp [intC]; done) | (repeat (first | rfl | constructor))) (by simp only [go_sem, hP, hn]; first | done | (simp; done) | (simp [intC]; done) | (repeat (first | rfl | constructor)))), 1 + o', rfl, by omega, by omega⟩
      · (repeat (first | (refine TR.imp ?_; intro K hK; simp only [go_sem, hP, hn]; (repeat refine vc ?_); refine hK _ ?_; clear K hK) | refine TS.imp ?_ | refine n9 (by decide) ?_))
        exact ⟨_, (Le.mv (by simp only [go_sem, hP, hn]; first | done | (simp; done) | (simp [intC]; done) | (repeat (first | rfl | constructor))) (by simp only [go_sem, hP, hn]; first | done | (simp; done) | (simp [intC]; done) | (repeat (first | rfl | constructor)))), many, rfl, by omega, by omega⟩
    rintro s ⟨out, rfl, hout⟩
    (repeat (first | (refine TR.imp ?_; intro K hK; simp only [go_sem, hP, hn]; (repeat refine vc ?_); refine hK _ ?_; clear K hK) | refine TS.imp ?_ | refine n9 (by decide) ?_))
    refine Tr.cond rfl (fun h6 => ?_) (fun h6 => ?_)
    · refine Tr.le (Le.freeze 3003) ?_
      simp only [go_sem, hP, hn]
      (repeat (first | refine TS.imp ?_ | refine n9 (by decide) ?_))
      refine TR.imp ?_; intro K hK; simp only [go_sem, hP, hn]
      (repeat refine vc ?_)
      refine CallN_cx (Hi := []) (by rw [hP, hT]; exact turned_c Tm wd lo v2 out ns (by omega) (by omega) (by omega) (fun n hn => ⟨by have := (hM.inn n hn).1; omega, (hM.inn n hn).2⟩) ) rfl rfl rfl trivial (by simp only [go_sem, hP, hn]; try trivial) (by simp only [go_sem, hP, hn]; try rfl) trivial (by rw [hn]; decide) (fun r Ho hr => ?_); obtain  ⟨rfl, rfl⟩ := hr; refine ⟨fun k _ => hpn k rfl, ?_⟩; simp only [cgS, newK, touK, go_sem, hP, hn]; (repeat refine vc ?_)
      refine hK _ ?_; clear K hK
      (repeat (first | refine TS.imp ?_ | refine n9 (by decide) ?_))
      simp only [RetG, go_sem]; (repeat with_reducible refine vc ?_)
      exact ⟨wd, lo, v2, _, _, rfl, rfl, hwd, hlo, ⟨v20, by omega⟩, by simp; omega, by simp; omega, ns, W, R, hM, .inr rfl⟩
    · refine Tr.le (Le.ren 3003 2000 (by rw [hpn] <;> rfl) rfl rfl) ?_; simp only [renT, renH, renO, renS, renL, rn, go_sem, hP, hn]
      (repeat (first | (refine TR.imp ?_; intro K hK; simp only [go_sem, hP, hn]; (repeat refine vc ?_); refine hK _ ?_; clear K hK) | refine TS.imp ?_ | refine n9 (by decide) ?_))
      simp only [RetG, go_sem]; (repeat with_reducible refine vc ?_)
      exact ⟨wd, lo, v2, out, ns, rfl, rfl, hwd, hlo, ⟨v20, by omega⟩, by omega, hout, ns, W, R, hM, .inl rfl⟩
section
def nB (j : Int) : Nd := ⟨11, [j], 0, 0, 0, 0, 0, 0, [], [], 0, 0, 0, 0, 0⟩
attribute [local go_sem] nB
end
end Go.Proofs.YtgomeljgbjgbkaaDoor.Aw
namespace Go.Proofs.YtgomeljgbjgbkaaDoor.Aw
open Go.RowKit
/-! the plain law of graphs that ref15.Made makes -/
theorem turnN_len (N : Int) (n : Nd) : (turnN N n).inn.length = n.inn.length := by simp [turnN]
theorem MadeL.wsl {wd : Int} {ns : List Nd} {W R : List Int} (h : MadeL wd ns W R) : ∀ n ∈ ns, n.ws.length ≤ 4096 ∧ n.bs.length ≤ 4096 := by
  induction h with
  | base => intro n hn; simp at hn
  | step hM hs ih =>
    intro n hn
    rcases List.mem_append.1 hn with hn | hn
    · exact ih n hn
    · simp at hn; subst hn; exact ⟨hs.wl, hs.bl⟩
theorem GM.inn {wd lo hi out : Int} {ns : List Nd} (h : GM wd lo hi out ns) : ∀ n ∈ ns, (n.inn.length ≤ 2 ∧ ∀ j ∈ n.inn, 0 ≤ j ∧ j ≤ ns.length) ∧ n.ws.length ≤ 4096 ∧ n.bs.length ≤ 4096 := by
  obtain ⟨ns0, W, R, hM, e⟩ := h.made
  rcases e with rfl | rfl
  · exact fun n hn => ⟨hM.inn n hn, hM.wsl n hn⟩
  · intro n hn
    simp only [List.mem_reverse, List.mem_map] at hn
    obtain ⟨n0, h0, rfl⟩ := hn
    have h1 := hM.inn n0 h0
    have h2 := hM.wsl n0 h0
    refine ⟨⟨by rw [turnN_len]; exact h1.1, fun j hj => ?_⟩, h2⟩
    simp only [turnN, List.mem_map] at hj
    obtain ⟨x, hx, rfl⟩ := hj
    have := h1.2 x hx
    simp only [List.length_reverse, List.length_map]
    split <;> omega
theorem nodup_len : ∀ (N : Nat) (l : List Int), l.Nodup → (∀ x ∈ l, 1 ≤ x ∧ x ≤ N) → l.length ≤ N
  | 0, l, _, h => by
    cases l with
    | nil => simp
    | cons x r => have := h x (by simp); omega
  | N + 1, l, hn, h => by
    by_cases hm : ((N : Int) + 1) ∈ l
    · have h1 := nodup_len N (l.erase ((N : Int) + 1)) (hn.erase _) (fun x hx => by
        have h2 := (hn.mem_erase_iff).1 hx
        have := h x h2.2
        omega)
      rw [List.length_erase_of_mem hm] at h1
      omega
    · have := nodup_len N l hn fun x hx => by
        have h2 := h x hx
        have : x ≠ (N : Int) + 1 := fun e => hm (e ▸ hx)
        omega
      omega
theorem all_len : ∀ (N : Nat) (l : List Int), (∀ x : Int, 1 ≤ x → x ≤ N → x ∈ l) → N ≤ l.length
  | 0, _, _ => Nat.zero_le _
  | N + 1, l, h => by
    have hm : ((N : Int) + 1) ∈ l := h _ (by omega) (by omega)
    have h1 := all_len N (l.erase ((N : Int) + 1)) fun x h0 h1 => (List.mem_erase_of_ne (by omega)).2 (h x h0 (by omega))
    rw [List.length_erase_of_mem hm] at h1
    have := List.length_pos_of_mem hm
    omega
theorem ordR_inv {ns : List Nd} (P : List Int → Prop) (step : ∀ (o : List Int) (i : Int), P o → 1 ≤ i → i ≤ ns.length → mayO ns o i = true → (∀ x : Int, 1 ≤ x → x ≤ ns.length → mayO ns o x = true → i ≤ x) → P (o ++ [i])) : ∀ (k : Nat) (o : List Int), P o → P (ordR ns k o)
  | 0, o, h => h
  | k + 1, o, h => by
    unfold ordR
    split
    · exact ordR_inv P step k o h
    · rename_i i hi
      have h1 := nextO_range hi
      exact ordR_inv P step k _ (step o i h (by omega) (by omega) h1.2.2 fun x h2 h3 h4 => by
        have key : ∀ (m : Nat) (l : Int), nextO ns o m l = some i → l ≤ x → i ≤ x := by
          intro m
          induction m with
          | zero => intro l e _; cases e
          | succ m ih =>
            intro l e hl
            unfold nextO at e
            split at e
            · cases e; exact hl
            · rename_i hn
              refine ih (l + 1) e ?_
              rcases Int.lt_or_le l x with h5 | h5
              · omega
              · obtain rfl : l = x := by omega
                exact absurd h4 hn
        exact key _ _ hi h2)
theorem mayO_iff {ns : List Nd} {o : List Int} {i : Int} : mayO ns o i = true ↔ i ∉ o ∧ ∀ j ∈ (nd ns (i - 1)).inn, j = 0 ∨ j ∈ o := by
  unfold mayO
  simp only [Bool.and_eq_true, Bool.not_eq_true', List.all_eq_true, Bool.or_eq_true, beq_iff_eq, List.contains_iff_mem]
  constructor
  · exact fun ⟨h1, h2⟩ => ⟨by simpa using h1, h2⟩
  · exact fun ⟨h1, h2⟩ => ⟨by simpa using h1, h2⟩
theorem order_nodup (ns : List Nd) : (order ns).Nodup := ordR_inv (fun o => o.Nodup) (fun o i h _ _ hm _ => by
  rw [List.nodup_append]
  refine ⟨h, by simp, fun a ha b hb => ?_⟩
  simp at hb; subst hb
  exact fun e => (mayO_iff.1 hm).1 (e ▸ ha)) ns.length [] (by simp)
/-- a ring of nodes -/
def ring (N kk : Int) : Nat → List Nd
  | 0 => []
  | t + 1 => ring N kk t ++ [nB (if (t : Int) = kk - 1 then N + 1 else N + 1 + t + 1)]
/-! graphs that ref15.Made makes are right: their order is whole, and what is told goes along it -/
structure NodeG (N : Int) (n : Nd) (W R : Int → Int) (rk : Int → Nat) (i : Int) : Prop where
  l1 : 1 ≤ n.inn.length
  l2 : n.inn.length ≤ 2
  inn : ∀ j ∈ n.inn, 0 ≤ j ∧ j ≤ N ∧ rk j < rk i
  chk : n.rchk (n.inn.map W) = 0
  wd : W i = n.rwide (n.inn.map W)
  rt : R i = n.rate (n.inn.map R)
  same : ∀ j ∈ n.inn, ∀ j' ∈ n.inn, R j = R j'
  still : ∀ j ∈ n.inn, R j = 0 → rWin n.k = false ∧ n.k ≠ 5
  wl : n.ws.length ≤ 4096
  bl : n.bs.length ≤ 4096
  st0 : 1 ≤ n.rStp
  st1 : n.rStp ≤ 3
  sp0 : 1 ≤ n.rSpan
  sp1 : n.rSpan ≤ 10
  post : n.post = 0
structure GG (wd : Int) (ns : List Nd) (W R : Int → Int) (rk : Int → Nat) : Prop where
  W0 : W 0 = wd
  R0 : R 0 = 1
  k0 : rk 0 = 0
  node : ∀ i : Int, 1 ≤ i → i ≤ ns.length → NodeG ns.length (nd ns (i - 1)) W R rk i ∧ rk i ≤ ns.length
theorem NodeG.congr {N N' : Int} {n : Nd} {W R W' R' : Int → Int} {rk : Int → Nat} {i : Int} (h : NodeG N n W R rk i) (hN : N ≤ N') (hi : W' i = W i ∧ R' i = R i) (hj : ∀ j ∈ n.inn, W' j = W j ∧ R' j = R j) : NodeG N' n W' R' rk i := by
  have e1 : n.inn.map W' = n.inn.map W := List.map_congr_left fun j h => (hj j h).1
  have e2 : n.inn.map R' = n.inn.map R := List.map_congr_left fun j h => (hj j h).2
  exact ⟨h.l1, h.l2, fun j hm => by have := h.inn j hm; omega, by rw [e1]; exact h.chk, by rw [e1, hi.1]; exact h.wd, by rw [e2, hi.2]; exact h.rt,
    fun j hm j' hm' => by rw [(hj j hm).2, (hj j' hm').2]; exact h.same j hm j' hm', fun j hm => by rw [(hj j hm).2]; exact h.still j hm, h.wl, h.bl, h.st0, h.st1, h.sp0, h.sp1, h.post⟩
theorem rd_app {l : List Int} {x j : Int} (h0 : 0 ≤ j) (h1 : j < l.length) : rd (l ++ [x]) j = rd l j := by
  unfold rd
  rw [List.getD_eq_getElem?_getD, List.getD_eq_getElem?_getD, List.getElem?_append_left (by omega)]
theorem rd_last (l : List Int) (x : Int) : rd (l ++ [x]) l.length = x := by
  unfold rd
  simp [List.getD_eq_getElem?_getD]
theorem nd_app {l : List Nd} {x : Nd} {j : Int} (h1 : j.toNat < l.length) : nd (l ++ [x]) j = nd l j := by
  unfold nd
  rw [List.getD_eq_getElem?_getD, List.getD_eq_getElem?_getD, List.getElem?_append_left h1]
theorem nd_last (l : List Nd) (x : Nd) : nd (l ++ [x]) l.length = x := by
  unfold nd
  simp [List.getD_eq_getElem?_getD]
theorem MadeL.gg {wd : Int} {ns : List Nd} {W R : List Int} (h : MadeL wd ns W R) : GG wd ns (rd W) (rd R) Int.toNat := by
  induction h with
  | base => exact ⟨rfl, rfl, rfl, fun i h0 h1 => by simp at h1; omega⟩
  | @step ns W R n w r hM hs ih =>
    have hl := hM.len
    refine ⟨by rw [rd_app (by omega) (by omega)]; exact ih.W0, by rw [rd_app (by omega) (by omega)]; exact ih.R0, rfl, fun i h0 h1 => ?_⟩
    rw [List.length_append, List.length_singleton] at h1 ⊢
    refine ⟨?_, by omega⟩
    rcases Int.lt_or_le (ns.length : Int) i with hlt | hle
    · obtain rfl : i = ns.length + 1 := by omega
      rw [show ((ns.length : Int) + 1 - 1) = ns.length by omega, nd_last]
      have hW : ∀ j ∈ n.inn, rd (W ++ [w]) j = rd W j ∧ rd (R ++ [r]) j = rd R j := fun j hj => by
        have := hs.inn j hj
        exact ⟨rd_app (by omega) (by omega), rd_app (by omega) (by omega)⟩
      have hwi : rd (W ++ [w]) ((ns.length : Int) + 1) = w := by rw [show ((ns.length : Int) + 1) = W.length by omega, rd_last]
      have hri : rd (R ++ [r]) ((ns.length : Int) + 1) = r := by rw [show ((ns.length : Int) + 1) = R.length by omega, rd_last]
      have h0m : rd n.inn 0 ∈ n.inn := rd_mem (by omega) (by have := hs.l1; omega)
      have e1 : n.inn.map (rd (W ++ [w])) = n.inn.map (rd W) := List.map_congr_left fun j h => (hW j h).1
      have e2 : n.inn.map (rd (R ++ [r])) = n.inn.map (rd R) := List.map_congr_left fun j h => (hW j h).2
      exact ⟨hs.l1, hs.l2, fun j hj => by have := hs.inn j hj; omega, by rw [e1]; exact hs.chk, by rw [hwi, e1]; exact hs.wd, by rw [hri, e2]; exact hs.rt,
        fun j hj j' hj' => by rw [(hW j hj).2, (hW j' hj').2, hs.same j hj, hs.same j' hj'], fun j hj => by rw [(hW j hj).2, hs.same j hj]; exact hs.still, hs.wl, hs.bl, hs.st0, hs.st1, hs.sp0, hs.sp1, hs.post⟩
    · rw [nd_app (by omega)]
      have hn := (ih.node i h0 hle).1
      exact hn.congr (by omega) ⟨rd_app (by omega) (by omega), rd_app (by omega) (by omega)⟩ fun j hj => by
        have := hn.inn j hj
        exact ⟨rd_app (by omega) (by omega), rd_app (by omega) (by omega)⟩
section
variable {n : Nd} {X : List Int}
theorem chkL_inn : ∀ (l : List Int) (v s : Int), ({ n with inn := X } : Nd).chkL v s l = n.chkL v s l
  | [], v, s => by unfold Nd.chkL; rfl
  | x :: l, v, s => by
    unfold Nd.chkL
    rw [chkL_inn l]
theorem rchk_inn (h : X.length = n.inn.length) (l : List Int) : ({ n with inn := X } : Nd).rchk l = n.rchk l := by
  unfold Nd.rchk
  rw [show ({ n with inn := X } : Nd).chk1 l = n.chk1 l by unfold Nd.chk1; rw [h], chkL_inn]
  rfl
theorem rwide_inn (h : X.length = n.inn.length) (l : List Int) : ({ n with inn := X } : Nd).rwide l = n.rwide l := by
  unfold Nd.rwide
  rw [rchk_inn h]
theorem rate_inn (l : List Int) : ({ n with inn := X } : Nd).rate l = n.rate l := rfl
end
/-- nodes get other numbers -/
theorem GG.ren {wd : Int} {ns : List Nd} {W R : Int → Int} {rk : Int → Nat} (h : GG wd ns W R rk) (ns' : List Nd) (σ τ : Int → Int) (hl : ns'.length = ns.length) (h0 : τ 0 = 0) (hσ : ∀ j : Int, 0 ≤ j → j ≤ ns.length → 0 ≤ σ j ∧ σ j ≤ ns.length ∧ τ (σ j) = j)
    (hτ : ∀ i : Int, 1 ≤ i → i ≤ ns.length → 1 ≤ τ i ∧ τ i ≤ ns.length) (hn : ∀ i : Int, 1 ≤ i → i ≤ ns.length → nd ns' (i - 1) = { nd ns (τ i - 1) with inn := (nd ns (τ i - 1)).inn.map σ }) : GG wd ns' (fun i => W (τ i)) (fun i => R (τ i)) (fun i => rk (τ i)) := by
  refine ⟨by rw [h0]; exact h.W0, by rw [h0]; exact h.R0, by rw [h0]; exact h.k0, fun i i1 i2 => ?_⟩
  rw [hl] at i2 ⊢
  obtain ⟨hm, hk⟩ := h.node (τ i) (hτ i i1 i2).1 (hτ i i1 i2).2
  refine ⟨?_, hk⟩
  rw [hn i i1 i2]
  generalize nd ns (τ i - 1) = n at hm ⊢
  have hj : ∀ j ∈ n.inn, τ (σ j) = j := fun j hj => by have := hm.inn j hj; exact (hσ j (by omega) (by omega)).2.2
  have e1 : (n.inn.map σ).map (fun i => W (τ i)) = n.inn.map W := by rw [List.map_map]; exact List.map_congr_left fun j h => by simp only [Function.comp, hj j h]
  have e2 : (n.inn.map σ).map (fun i => R (τ i)) = n.inn.map R := by rw [List.map_map]; exact List.map_congr_left fun j h => by simp only [Function.comp, hj j h]
  have hX : (n.inn.map σ).length = n.inn.length := by simp
  refine ⟨by simpa using hm.l1, by simpa using hm.l2, ?_, ?_, ?_, ?_, ?_, ?_, hm.wl, hm.bl, hm.st0, hm.st1, hm.sp0, hm.sp1, hm.post⟩
  · intro j' hj'
    simp only [List.mem_map] at hj'
    obtain ⟨j, hjm, rfl⟩ := hj'
    have h1 := hm.inn j hjm
    have h2 := hσ j (by omega) (by omega)
    exact ⟨h2.1, h2.2.1, by rw [h2.2.2]; exact h1.2.2⟩
  · rw [rchk_inn hX, e1]; exact hm.chk
  · rw [rwide_inn hX, e1]; exact hm.wd
  · rw [rate_inn, e2]; exact hm.rt
  · intro j1 h1 j2 h2
    simp only [List.mem_map] at h1 h2
    obtain ⟨j1, h1, rfl⟩ := h1
    obtain ⟨j2, h2, rfl⟩ := h2
    rw [hj j1 h1, hj j2 h2]
    exact hm.same j1 h1 j2 h2
  · intro j1 h1
    simp only [List.mem_map] at h1
    obtain ⟨j1, h1, rfl⟩ := h1
    rw [hj j1 h1]
    exact hm.still j1 h1
theorem nd_rev {ns : List Nd} {f : Nd → Nd} {i : Int} (h1 : 1 ≤ i) (h2 : i ≤ ns.length) : nd (ns.map f).reverse (i - 1) = f (nd ns (ns.length - i)) := by
  have a1 : (i - 1).toNat < ((ns.map f).reverse).length := by simp; omega
  have a2 : ((ns.length : Int) - i).toNat < ns.length := by omega
  unfold nd
  rw [List.getD_eq_getElem?_getD, List.getElem?_eq_getElem a1, List.getD_eq_getElem?_getD, List.getElem?_eq_getElem a2]
  simp only [Option.getD_some, List.getElem_reverse, List.getElem_map, List.length_map]
  congr 2
  omega
theorem GM.gg {wd lo hi out : Int} {ns : List Nd} (h : GM wd lo hi out ns) : ∃ W R rk, GG wd ns W R rk := by
  obtain ⟨ns0, W, R, hM, e⟩ := h.made
  rcases e with rfl | rfl
  · exact ⟨_, _, _, hM.gg⟩
  · have hlen : (ns0.map (turnN ns0.length)).reverse.length = ns0.length := by simp
    refine ⟨_, _, _, hM.gg.ren _ (fun x => if 0 < x then (ns0.length : Int) + 1 - x else x) (fun x => if 0 < x then (ns0.length : Int) + 1 - x else x) hlen rfl (fun j j0 j1 => ?_) (fun i i1 i2 => ?_) (fun i i1 i2 => ?_)⟩
    · by_cases hj : 0 < j
      · simp only [if_pos hj]
        rw [if_pos (by omega)]
        omega
      · simp only [if_neg hj]
        exact ⟨j0, j1, by first | rfl | trivial⟩
    · simp only [if_pos (show 0 < i by omega)]
      omega
    · rw [nd_rev i1 i2]
      simp only [if_pos (show 0 < i by omega)]
      rw [show (ns0.length : Int) + 1 - i - 1 = ns0.length - i by omega]
      rfl
/-! a right graph's order is whole; widths and rates go along it -/
theorem nextO_none {ns : List Nd} {o : List Int} : ∀ (m : Nat) (l : Int), nextO ns o m l = none → ∀ x, l ≤ x → x < l + m → mayO ns o x = false
  | 0, l, _, x, h1, h2 => by omega
  | m + 1, l, h, x, h1, h2 => by
    unfold nextO at h
    split at h
    · cases h
    · rename_i hm
      rcases Int.lt_or_le l x with h3 | h3
      · exact nextO_none m (l + 1) h x (by omega) (by omega)
      · obtain rfl : l = x := by omega
        simpa using hm
section
variable {wd : Int} {ns : List Nd} {W R : Int → Int} {rk : Int → Nat} (h : GG wd ns W R rk)
include h
theorem GG.next {o : List Int} (ho : o.length < ns.length) : ∃ i, nextO ns o ns.length 1 = some i := by
  cases hn : nextO ns o ns.length 1 with
  | some i => exact ⟨i, rfl⟩
  | none =>
    exfalso
    have hf := nextO_none _ _ hn
    have key : ∀ (r : Nat) (i : Int), rk i ≤ r → 1 ≤ i → i ≤ ns.length → i ∈ o := by
      intro r
      induction r with
      | zero =>
        intro i hr i1 i2
        have hm := (h.node i i1 i2).1
        by_cases hi : i ∈ o
        · exact hi
        · have h1 := hf i i1 (by omega)
          rw [mayO_iff.2 ⟨hi, fun j hj => by have := hm.inn j hj; omega⟩] at h1
          cases h1
      | succ r ih =>
        intro i hr i1 i2
        have hm := (h.node i i1 i2).1
        by_cases hi : i ∈ o
        · exact hi
        · have h1 := hf i i1 (by omega)
          rw [mayO_iff.2 ⟨hi, fun j hj => by
            have h2 := hm.inn j hj
            rcases Int.lt_or_le 0 j with h3 | h3
            · exact .inr (ih j (by omega) (by omega) h2.2.1)
            · exact .inl (by omega)⟩] at h1
          cases h1
    have := all_len ns.length o fun x h1 h2 => key _ x (Nat.le_refl _) h1 h2
    omega
theorem GG.ordR_len : ∀ (k : Nat) (o : List Int), o.length + k = ns.length → (ordR ns k o).length = ns.length
  | 0, o, e => by simpa [ordR] using e
  | k + 1, o, e => by
    obtain ⟨i, hi⟩ := h.next (o := o) (by omega)
    unfold ordR
    rw [hi]
    exact GG.ordR_len k (o ++ [i]) (by simp; omega)
theorem GG.order_len : (order ns).length = ns.length := h.ordR_len ns.length [] (by simp)
end
theorem order_top (ns : List Nd) : ∀ (o1 : List Int) (i : Int) (r : List Int), order ns = o1 ++ i :: r → mayO ns o1 i = true ∧ (∀ x : Int, 1 ≤ x → x ≤ ns.length → mayO ns o1 x = true → i ≤ x) ∧ 1 ≤ i ∧ i ≤ ns.length :=
  ordR_inv (fun o => ∀ (o1 : List Int) (i : Int) (r : List Int), o = o1 ++ i :: r → mayO ns o1 i = true ∧ (∀ x : Int, 1 ≤ x → x ≤ ns.length → mayO ns o1 x = true → i ≤ x) ∧ 1 ≤ i ∧ i ≤ ns.length) (fun o x ho h1 h2 h3 h4 o1 i r e => by
    rcases List.eq_nil_or_concat r with rfl | ⟨L, b, rfl⟩
    · have e2 := List.append_inj' e rfl
      obtain ⟨rfl, e3⟩ := e2
      obtain rfl : x = i := by simpa using e3
      exact ⟨h3, h4, h1, h2⟩
    · rw [show o1 ++ i :: (L.concat b) = (o1 ++ i :: L) ++ [b] by simp] at e
      exact ho o1 i L (List.append_inj' e rfl).1) ns.length [] (fun o1 i r e => by simp at e)
theorem gwin_eq {n : Nd} (hk : inB n.k 1 12 = true) (h0 : rWin n.k = false) : n.gwin = false := by
  have hs : n.span = 1 := by
    rw [span_eqW]
    unfold Nd.rSpan
    have h1 : (n.k == 12) = false := by unfold rWin at h0; simp only [Bool.or_eq_false_iff] at h0; exact h0.2
    rw [if_neg (by rw [h1]; decide), if_pos (by rw [h0]; rfl)]
  unfold Nd.gwin
  rw [hs]
  have h2 := inB_iff.1 hk
  unfold rWin at h0
  simp only [Bool.or_eq_false_iff, beq_eq_false_iff_ne] at h0
  simp only [Bool.or_eq_false_iff, decide_eq_false_iff_not, beq_eq_false_iff_ne]
  omega
theorem grate_eq {n : Nd} {l : List Int} (hk : inB n.k 1 12 = true) (hall : ∀ x ∈ l, x = rd l 0) (hst : rd l 0 = 0 → rWin n.k = false ∧ n.k ≠ 5) : n.grate l = (n.rate l, true) := by
  have ha : l.all (· == rd l 0) = true := List.all_eq_true.2 fun x hx => by simpa using hall x hx
  have hb : l.any (· != rd l 0) = false := by
    rw [List.any_eq_false]
    exact fun x hx => by simpa using hall x hx
  have hz : (rd l 0 == 0 && (n.gwin || n.k == 5)) = false := by
    cases e : (rd l 0 == 0) with
    | false => rfl
    | true =>
      have := hst (by simpa using e)
      rw [gwin_eq hk this.1, show (n.k == 5) = false by simpa using this.2]; rfl
  have hz2 : (rd l 0 == 0 && (rWin n.k || n.k == 5)) = false := by
    cases e : (rd l 0 == 0) with
    | false => rfl
    | true =>
      have := hst (by simpa using e)
      rw [this.1, show (n.k == 5) = false by simpa using this.2]; rfl
  unfold Nd.grate Nd.rate
  rw [hb, hz, ha, hz2, stp_eqW]
  simp only [Bool.or_self, Bool.false_eq_true, if_false, Bool.true_eq_false]
  split <;> rfl
theorem rd_set {l : List Int} {i j v : Int} (hi : 0 ≤ i) (hi2 : i < l.length) (hj : 0 ≤ j) : rd (l.set i.toNat v) j = if j = i then v else rd l j := by
  unfold rd
  rw [List.getD_eq_getElem?_getD, List.getD_eq_getElem?_getD, List.getElem?_set]
  by_cases e : j = i
  · subst e
    rw [if_pos rfl, if_pos rfl, if_pos (by omega)]; rfl
  · rw [if_neg (by omega), if_neg e]
theorem rd_map {l : List Int} {f : Int → Int} (h : 0 < l.length) : rd (l.map f) 0 = f (rd l 0) := by
  cases l with
  | nil => simp at h
  | cons x l => rfl
section
variable {wd : Int} {ns : List Nd} {W R : Int → Int} {rk : Int → Nat} (h : GG wd ns W R rk)
include h
theorem GG.lookL : ∀ (r o W1 R1 : List Int), order ns = o ++ r → W1.length = ns.length + 1 → R1.length = ns.length + 1 → (∀ x, x = 0 ∨ x ∈ o → rd W1 x = W x ∧ rd R1 x = R x) →
    ∃ W2 R2, lookL ns r W1 R1 = (0, W2, R2) ∧ W2.length = ns.length + 1 ∧ R2.length = ns.length + 1 ∧ ∀ x, x = 0 ∨ x ∈ o ++ r → rd W2 x = W x ∧ rd R2 x = R x
  | [], o, W1, R1, ho, hW, hR, hx => ⟨W1, R1, rfl, hW, hR, by simpa using hx⟩
  | i :: r, o, W1, R1, ho, hW, hR, hx => by
    obtain ⟨hm, _, i1, i2⟩ := order_top ns o i r ho
    have hN := (h.node i i1 i2).1
    have hin := (mayO_iff.1 hm).2
    rw [lookL_cons]
    generalize nd ns (i - 1) = n at hN hin ⊢
    have e1 : n.inn.map (rd W1) = n.inn.map W := List.map_congr_left fun j hj => (hx j (hin j hj)).1
    have e2 : n.inn.map (rd R1) = n.inn.map R := List.map_congr_left fun j hj => (hx j (hin j hj)).2
    obtain ⟨_, h7, _⟩ := rchk_unpack hN.chk
    have hk : inB n.k 1 12 = true := by
      unfold Nd.r7 at h7
      simp only [Bool.or_eq_false_iff, Bool.not_eq_false'] at h7
      exact h7.1.1
    have h0m : rd n.inn 0 ∈ n.inn := rd_mem (by omega) (by have := hN.l1; omega)
    have hr0 : rd (n.inn.map R) 0 = R (rd n.inn 0) := rd_map hN.l1
    have hg : n.grate (n.inn.map R) = (R i, true) := by
      rw [grate_eq hk (fun x hx => by
        simp only [List.mem_map] at hx
        obtain ⟨j, hj, rfl⟩ := hx
        rw [hr0]; exact hN.same j hj _ h0m) (by rw [hr0]; exact hN.still _ h0m), ← hN.rt]
    have hw : n.wide (n.inn.map W) = W i := by
      have := both_eq n (n.inn.map W)
      unfold Nd.both at this
      simp only [Bool.and_eq_true, beq_iff_eq] at this
      rw [this.2]; exact hN.wd.symm
    rw [e1, e2, chk_eq, hN.chk, hg, hw]
    simp only [bne_self_eq_false, Bool.false_eq_true, if_false, Bool.not_true]
    have := GG.lookL r (o ++ [i]) (W1.set i.toNat (W i)) (R1.set i.toNat (R i)) (by rw [ho]; simp) (by simpa using hW) (by simpa using hR) (fun x hx' => by
      have hx0 : 0 ≤ x := by
        rcases hx' with rfl | hx'
        · omega
        · have := ordR_range (ns := ns) (k := ns.length) (o := []) (by simp) x (show x ∈ order ns by
            rw [ho]
            rcases List.mem_append.1 hx' with hx' | hx'
            · exact List.mem_append_left _ hx'
            · exact List.mem_append_right _ (by simp at hx'; subst hx'; simp))
          omega
      rw [rd_set (by omega) (by omega) hx0, rd_set (by omega) (by omega) hx0]
      by_cases e : x = i
      · subst e; rw [if_pos rfl, if_pos rfl]; exact ⟨rfl, rfl⟩
      · rw [if_neg e, if_neg e]
        refine hx x ?_
        rcases hx' with hx' | hx'
        · exact .inl hx'
        · rcases List.mem_append.1 hx' with hx' | hx'
          · exact .inr hx'
          · simp at hx'; exact absurd hx' e)
    obtain ⟨W2, R2, e3, e4, e5, e6⟩ := this
    exact ⟨W2, R2, e3, e4, e5, by simpa using e6⟩
theorem GG.mem_order (x : Int) (h1 : 1 ≤ x) (h2 : x ≤ ns.length) : x ∈ order ns := by
  by_cases hx : x ∈ order ns
  · exact hx
  · exfalso
    have hl := h.order_len
    have hnd : (x :: order ns).Nodup := List.nodup_cons.2 ⟨hx, order_nodup ns⟩
    have := nodup_len ns.length (x :: order ns) hnd fun y hy => by
      rcases List.mem_cons.1 hy with rfl | hy
      · exact ⟨h1, h2⟩
      · exact ordR_range (ns := ns) (k := ns.length) (o := []) (by simp) y hy
    simp at this
    omega
/-- what graph.look tells of a right graph -/
theorem GG.lookG {lo hi out : Int} (hm : mayG wd lo hi out ns = 0) : ∃ W2 R2, lookG wd lo hi out ns = (0, order ns, W2, R2) ∧ W2.length = ns.length + 1 ∧ R2.length = ns.length + 1 ∧ ∀ x : Int, 0 ≤ x → x ≤ ns.length → rd W2 x = W x ∧ rd R2 x = R x := by
  obtain ⟨W2, R2, e1, e2, e3, e4⟩ := h.lookL (order ns) [] (wd :: List.replicate ns.length 0) (1 :: List.replicate ns.length 0) rfl (by simp) (by simp) (fun x hx => by
    simp only [List.not_mem_nil, or_false] at hx
    subst hx
    exact ⟨h.W0.symm, h.R0.symm⟩)
  refine ⟨W2, R2, ?_, e2, e3, fun x h1 h2 => e4 x ?_⟩
  · unfold Aw.lookG
    rw [if_neg (by rw [hm]; decide), if_neg (by rw [h.order_len]; simp), e1]
    rfl
  · rcases Int.lt_or_le 0 x with h3 | h3
    · exact .inr (by simpa using h.mem_order x h3 h2)
    · exact .inl (by omega)
end
theorem GM.may {wd lo hi out : Int} {ns : List Nd} (h : GM wd lo hi out ns) : mayG wd lo hi out ns = 0 := by
  have hn := h.n0
  unfold mayG
  rw [if_neg (by simp; omega), if_neg, if_pos]
  · exact List.all_eq_true.2 fun n hm => List.all_eq_true.2 fun j hj => inB_iff.2 ((h.inn n hm).1.2 j hj)
  · have := h.wd0; have := h.lo0; have := h.hi0; have := h.out0
    unfold mayQ
    simp only [Bool.or_eq_true, decide_eq_true_eq]
    omega
/-! the plain law: graph.look and ref16.Look tell the same, of every graph -/
theorem rd_set_or (l : List Int) (k : Nat) (v x : Int) : rd (l.set k v) x = v ∨ rd (l.set k v) x = rd l x := by
  unfold rd
  rw [List.getD_eq_getElem?_getD, List.getD_eq_getElem?_getD, List.getElem?_set]
  by_cases h : k = x.toNat
  · rw [if_pos h]
    by_cases h2 : k < l.length
    · rw [if_pos h2]; exact .inl rfl
    · rw [if_neg h2]; right
      rw [List.getElem?_eq_none (by omega)]
  · rw [if_neg h]; exact .inr rfl
theorem gwin_win {n : Nd} (hk : inB n.k 1 12 = true) : n.gwin = rWin n.k := by
  cases h : rWin n.k with
  | false => exact gwin_eq hk h
  | true =>
    unfold rWin at h
    simp only [Bool.or_eq_true, beq_iff_eq] at h
    unfold Nd.gwin
    simp only [Bool.or_eq_true, decide_eq_true_eq, beq_iff_eq]
    omega
theorem step_range {n : Nd} {v : Int} (hs : n.sized v = true) : 1 ≤ n.rStp ∧ n.rStp ≤ 4 := by
  unfold Nd.rStp
  cases hf : rFour n.k with
  | false => rw [if_neg (by decide)]; decide
  | true =>
    rw [if_pos rfl]
    unfold Nd.sized at hs
    have h8 : n.s8 = false := by
      cases h : n.s8 with
      | false => rfl
      | true =>
        exfalso
        rw [h] at hs
        cases n.s4 <;> simp at hs
    unfold Nd.s8 at h8
    rw [hf, Bool.true_and] at h8
    simp only [Bool.or_eq_false_iff, Bool.not_eq_false'] at h8
    exact inB_iff.1 h8.1
theorem grate_rate {n : Nd} {l : List Int} {v B : Int} (hk : inB n.k 1 12 = true) (hs : n.sized v = true) (h0 : 0 ≤ rd l 0) (h1 : rd l 0 ≤ B) (hB : B * 4 ≤ 1000000000) : (n.grate l).2 = !decide (n.rate l < 0) ∧ (0 ≤ n.rate l → (n.grate l).1 = n.rate l ∧ n.rate l ≤ B * 4) := by
  have hst := step_range hs
  have ha : l.any (· != rd l 0) = !l.all (· == rd l 0) := by
    rw [List.not_all_eq_any_not]; rfl
  have hm := mul_le (rd l 0) B n.rStp 4 h0 h1 (by omega) hst.2
  unfold Nd.grate Nd.rate
  rw [ha, gwin_win hk, stp_eqW]
  cases l.all (· == rd l 0) with
  | false => exact ⟨rfl, fun h => absurd (show (0 : Int) ≤ -1 from h) (by decide)⟩
  | true =>
    simp only [Bool.not_true, Bool.false_or, Bool.true_eq_false, if_false]
    cases hz : (rd l 0 == 0 && (rWin n.k || n.k == 5)) with
    | true => exact ⟨rfl, fun h => absurd (show (0 : Int) ≤ -1 from h) (by decide)⟩
    | false =>
      simp only [Bool.false_eq_true, if_false]
      cases h5 : (n.k == 5) with
      | true => exact ⟨rfl, fun _ => ⟨rfl, by show (0 : Int) ≤ B * 4; omega⟩⟩
      | false =>
        simp only [Bool.false_eq_true, if_false]
        rw [w64 (by omega) (by omega)]
        refine ⟨?_, fun _ => ⟨by first | rfl | trivial, hm.2⟩⟩
        simp; omega
theorem lookL_eq (ns : List Nd) : ∀ (r W R : List Int) (B : Int), (∀ x, 0 ≤ rd R x ∧ rd R x ≤ B) → 0 ≤ B → B * 4 ^ r.length ≤ 1000000000 → lookL ns r W R = lookM ns r W R
  | [], _, _, _, _, _, _ => rfl
  | i :: r, W, R, B, hR, hB0, hB => by
    rw [lookL_cons, lookM_cons, chk_eq]
    generalize nd ns (i - 1) = n
    cases hc : (n.rchk (n.inn.map (rd W)) != 0) with
    | true => simp only [if_true]
    | false =>
      simp only [Bool.false_eq_true, if_false]
      have hc0 : n.rchk (n.inn.map (rd W)) = 0 := bne_eq_false_iff_eq.mp hc
      obtain ⟨_, h7, _, _, hs, _⟩ := rchk_unpack hc0
      have hk : inB n.k 1 12 = true := by
        unfold Nd.r7 at h7
        simp only [Bool.or_eq_false_iff, Bool.not_eq_false'] at h7
        exact h7.1.1
      have hB4 : B * 4 ≤ 1000000000 := by
        rw [List.length_cons, Int.pow_succ] at hB
        have h1 : (1 : Int) ≤ 4 ^ r.length := by have : (0 : Int) < 4 ^ r.length := Int.pow_pos (by decide); omega
        have h2 : B * 4 * 1 ≤ B * 4 * 4 ^ r.length := Int.mul_le_mul_of_nonneg_left h1 (by omega)
        have h3 : B * (4 ^ r.length * 4) = B * 4 * 4 ^ r.length := by rw [Int.mul_comm (4 ^ r.length) 4, Int.mul_assoc]
        omega
      have h0 : 0 ≤ rd (n.inn.map (rd R)) 0 ∧ rd (n.inn.map (rd R)) 0 ≤ B := by
        cases n.inn with
        | nil => exact ⟨show (0 : Int) ≤ 0 by decide, show (0 : Int) ≤ B from hB0⟩
        | cons x t => exact hR x
      have hg := grate_rate hk hs h0.1 h0.2 hB4
      rw [hg.1, Bool.not_not]
      cases hd : decide (n.rate (n.inn.map (rd R)) < 0) with
      | true => simp only [if_true]
      | false =>
        simp only [Bool.false_eq_true, if_false]
        have h1 := hg.2 (by have := of_decide_eq_false hd; omega)
        have hw : n.wide (n.inn.map (rd W)) = n.rwide (n.inn.map (rd W)) := by
          have := both_eq n (n.inn.map (rd W))
          unfold Nd.both at this
          simp only [Bool.and_eq_true, beq_iff_eq] at this
          exact this.2
        rw [h1.1, hw]
        refine lookL_eq ns r _ _ (B * 4) (fun x => ?_) (by omega) (by rw [List.length_cons, Int.pow_succ, Int.mul_comm _ 4, ← Int.mul_assoc] at hB; exact hB)
        have h2 := hR x
        have h3 := of_decide_eq_false hd
        rcases rd_set_or R i.toNat (n.rate (n.inn.map (rd R))) x with e | e <;> rw [e] <;> omega
theorem look_same (wd lo hi out : Int) (ns : List Nd) : lookG wd lo hi out ns = lookR wd lo hi out ns := by
  unfold lookG lookR
  cases hm : (mayG wd lo hi out ns != 0) with
  | true => simp only [if_true]
  | false =>
    simp only [Bool.false_eq_true, if_false]
    have hN := mayG_ok (bne_eq_false_iff_eq.mp hm)
    have hle : (order ns).length ≤ ns.length := by
      show (ordR ns ns.length []).length ≤ _
      simpa using (ordR_length (ns := ns) ns.length []).2
    have e : (!((order ns).length == ns.length)) = decide (((order ns).length : Int) < ns.length) := by
      rw [Bool.eq_iff_iff]; simp; omega
    rw [e]
    cases decide (((order ns).length : Int) < ns.length) with
    | true => simp only [if_true]
    | false =>
      simp only [Bool.false_eq_true, if_false]
      have hb : ∀ x, 0 ≤ rd (1 :: List.replicate ns.length 0) x ∧ rd (1 :: List.replicate ns.length 0) x ≤ 1 := fun x => by
        unfold rd
        rw [List.getD_eq_getElem?_getD]
        cases h : x.toNat with
        | zero => simp
        | succ k =>
          rw [List.getElem?_cons_succ, List.getElem?_replicate]
          split <;> simp
      rw [lookL_eq ns (order ns) (wd :: List.replicate ns.length 0) (1 :: List.replicate ns.length 0) 1 hb (by decide) ?_]
      · have h1 : (4 : Int) ^ (order ns).length ≤ 4 ^ 12 := by
          have := Nat.pow_le_pow_right (show 0 < 4 by decide) (show (order ns).length ≤ 12 by omega)
          have h2 : ((4 ^ (order ns).length : Nat) : Int) ≤ ((4 ^ 12 : Nat) : Int) := by omega
          simpa using h2
        have h3 : (4 : Int) ^ 12 = 16777216 := by decide
        omega
theorem lookL_len (ns : List Nd) : ∀ (r W R : List Int), (lookL ns r W R).2.1.length ≤ W.length ∧ (lookL ns r W R).2.2.length ≤ R.length
  | [], _, _ => ⟨Nat.le_refl _, Nat.le_refl _⟩
  | i :: r, W, R => by
    rw [lookL_cons]
    split
    · exact ⟨Nat.zero_le _, Nat.zero_le _⟩
    · split
      · exact ⟨Nat.zero_le _, Nat.zero_le _⟩
      · have := lookL_len ns r (W.set i.toNat ((nd ns (i - 1)).wide ((nd ns (i - 1)).inn.map (rd W)))) (R.set i.toNat ((nd ns (i - 1)).grate ((nd ns (i - 1)).inn.map (rd R))).1)
        rw [List.length_set, List.length_set] at this
        exact this
theorem lookG_len (wd lo hi out : Int) (ns : List Nd) : (lookG wd lo hi out ns).2.1.length ≤ ns.length + 1 ∧ (lookG wd lo hi out ns).2.2.1.length ≤ ns.length + 1 ∧ (lookG wd lo hi out ns).2.2.2.length ≤ ns.length + 1 := by
  have hle : (order ns).length ≤ ns.length := by
    show (ordR ns ns.length []).length ≤ _
    simpa using (ordR_length (ns := ns) ns.length []).2
  have hL := lookL_len ns (order ns) (wd :: List.replicate ns.length 0) (1 :: List.replicate ns.length 0)
  unfold lookG
  split
  · exact ⟨Nat.zero_le _, Nat.zero_le _, Nat.zero_le _⟩
  · split
    · exact ⟨Nat.zero_le _, Nat.zero_le _, Nat.zero_le _⟩
    · generalize lookL ns (order ns) (wd :: List.replicate ns.length 0) (1 :: List.replicate ns.length 0) = q at hL ⊢
      obtain ⟨e, W, R⟩ := q
      simp only [List.length_cons, List.length_replicate] at hL
      simp only
      split
      · exact ⟨Nat.zero_le _, Nat.zero_le _, Nat.zero_le _⟩
      · exact ⟨by show (order ns).length ≤ _; omega, hL.1, hL.2⟩
/-! from contracts to rows -/
theorem Tab.size {w : World} (h : Tab w) : G0 ≤ w.heap.size := by
  have h0 := h 0 0 rfl
  unfold World.cell? at h0
  simp only at h0
  rcases Nat.lt_or_ge 0 w.heap.size with hl | hl
  · exact hl
  · rw [Array.getElem?_eq_none hl] at h0; cases h0
theorem KTab : KT Tab := ⟨⟨fun _ _ hb h => h.below hb, fun _ h => h.size⟩, fun _ h => h⟩
theorem Cg.calls {P : Program} {T : World → Prop} {f : Nat} {xs : List S} {R0 : S} {v0 : Value} (C : Cg P T f [] xs (fun r H => H = [] ∧ r = R0)) (hv : ∀ η F w v, RS η F w R0 v → v = v0) {w : World} (vs : List Value) (hT : T w) (hx : RSL η0 (fun _ => True) w xs vs) :
    Calls P f vs.toArray w fun e w' => e = .returned v0 ∧ Below w.heap.size w w' := by
  refine (C.2 (fun _ => True) w η0 vs hT (show In w (fun _ => True) [] η0 from ⟨fun k o hk => (by simp [lh] at hk), fun k o g hk => (by simp [lh] at hk), fun k k' o o' _ hk => (by simp [lh] at hk)⟩) hx).mono ?_
  rintro e w' ⟨r, v, Ho, η', rfl, ⟨rfl, rfl⟩, h1, h2⟩
  refine ⟨by rw [hv _ _ _ _ h1], h2.bel.below fun b ⟨k, o, hk, _⟩ => by simp [lh] at hk⟩
/-- a row of numbers that came in -/
theorem Rd_ints {w : World} {a : Option Addr} {len cap : Nat} {zs : List Int} (h : (a = none ∧ len = 0 ∧ cap = 0 ∧ zs = []) ∨ ∃ x, a = some x ∧ len ≤ cap ∧ cap ≤ maxLen ∧ zs.length = cap ∧ ∀ i, i < zs.length → w.cell? (x.add i) = some (.int .i64 (zs.getD i 0))) :
    Rd (fun _ => True) w (.row [.i .i64 0] ((zs.take len).map intC)) (.slice a len cap) := by
  simp only [Rd]
  rcases h with ⟨rfl, rfl, rfl, rfl⟩ | ⟨x, rfl, hl, hm, hz, hc⟩
  · exact ⟨none, 0, rfl, Nat.le_refl _, .inl ⟨rfl, fun _ => rfl⟩⟩
  · have hlen : ((zs.take len).map intC).length = len := by simp; omega
    refine ⟨some x, cap, by rw [hlen], by rw [hlen]; exact hl, ?_⟩
    rcases Nat.eq_zero_or_pos len with h0 | h0
    · subst h0
      exact .inl ⟨by simp, fun e => by cases e⟩
    · right
      have c0 := hc 0 (by omega)
      rw [show x.add 0 = x from if_pos rfl] at c0
      have hadd : ∀ i, x.add i = if i = 0 then x else { x with off := x.off + i, spot := none } := fun i => rfl
      unfold World.cell? at c0
      cases hq : w.heap[x.block]? with
      | none => rw [hq] at c0; cases c0
      | some o =>
        rw [hq] at c0
        cases o <;> simp only at c0 <;> try (cases c0; done)
        rename_i cs t fr
        have hsp : x.spot = none := by
          cases hs : x.spot with
          | none => rfl
          | some q => rw [hs] at c0; cases c0
        refine ⟨x, cs, t, fr, rfl, hsp, trivial, hq, RdE.of fun j e he => ?_⟩
        have hj : j < len := by
          have := (List.getElem?_eq_some_iff.1 he).1
          omega
        have hcj := hc j (by omega)
        have he2 : e = intC (zs.getD j 0) := by
          rw [List.getElem?_map, List.getElem?_take, if_pos hj] at he
          cases hz2 : zs[j]? with
          | none => rw [hz2] at he; cases he
          | some z =>
            rw [hz2] at he
            simp only [Option.map_some, Option.some.injEq] at he
            rw [← he, List.getD_eq_getElem?_getD, hz2]; rfl
        subst he2
        refine ⟨rfl, ?_⟩
        simp only [intC, RdC, and_true]
        refine ⟨_, ?_, rfl⟩
        unfold World.cell? at hcj
        rw [hadd] at hcj
        by_cases hj0 : j = 0
        · subst hj0
          rw [if_pos rfl, hq] at hcj
          simp only [hsp, Option.isSome_none, Bool.false_eq_true, if_false] at hcj
          simpa using hcj
        · rw [if_neg hj0] at hcj
          simp only [hq, Option.isSome_none, Bool.false_eq_true, if_false] at hcj
          simpa using hcj
section
variable {η : Nat → Value} {F : Nat → Prop} {w : World}
theorem RSL_nil : RSL η F w [] [] := by simp only [RSL]
theorem RSL_cons {c : S} {cs : List S} {v : Value} {r : List Value} (h : RS η F w c v) (k : RSL η F w cs r) : RSL η F w (c :: cs) (v :: r) := by
  simp only [RSL]; exact ⟨v, r, rfl, h, k⟩
theorem RS_int (k : IntKind) (n : Int) : RS η F w (.d (.i k n)) (.int k n) := by simp only [RS, Rd]
theorem RS_d {x : D} {v : Value} (h : Rd F w x v) : RS η F w (.d x) v := by simp only [RS]; exact h
theorem RS_true {v : Value} (h : RS η F w (.d (.b true)) v) : v = .bool true := by simpa only [RS, Rd] using h
theorem RS_agg {cs : List S} {vs : List Value} (h : RSL η F w cs vs) : RS η F w (.agg cs) (.agg vs.toArray) := by simp only [RS]; exact ⟨_, rfl, h⟩
end

/-! an operation that stands where a call may stand; a value whose nils are rows of none -/
section
variable {E : Env} {ops : List Oper} {o : Oper} {s : St} {rest : List Oper} {K : St → Prop} {d : Nat}
end
/-- a contract whose answer is an own row, where the row is only read from now on -/
theorem Cg.data {P : Program} {T : World → Prop} {f : Nat} {xs : List S} {k : Nat} {t : TypeId} {e0 : List D} {es : List (List D)} (C : Cg P T f [] xs (fun r H => H = [(k, .row t e0 es)] ∧ r = .own k)) : Cg P T f [] xs (fun r H => H = [] ∧ r = .d (.row e0 es)) :=
  ⟨C.1, fun F w η vs hT hi hx => (C.2 F w η vs hT hi hx).mono (by
    rintro e w' ⟨r, v, Ho, η', rfl, ⟨rfl, rfl⟩, h1, h2⟩
    have hlk : lh [(k, Obj'.row t e0 es)] k = some (.row t e0 es) := by simp [lh]
    refine ⟨_, v, [], η, rfl, ⟨rfl, rfl⟩, ?_, ⟨fun k o hk => (by simp [lh] at hk), fun k o g hk => (by simp [lh] at hk), fun k k' o o' _ hk => (by simp [lh] at hk), fun k o hk => (by simp [lh] at hk), fun k _ => rfl, h2.bel⟩⟩
    simp only [RS] at h1 ⊢
    subst h1
    obtain ⟨xs', ho, r⟩ := h2.ob k _ hlk
    have hs : Sub (Gd w F [(k, Obj'.row t e0 es)] η') w' (Gd w F [] η) w' := fun b o hb ho => ⟨⟨hb.1, fun k o hk => by simp [lh] at hk⟩, ho⟩
    have r := RdE.mono hs _ _ _ _ r
    have hF : ∀ g, blk (η' k) = some g → Gd w F [] η g := fun g hg => ⟨by
      rcases (h2.ge k _ g hlk hg).2 with h3 | ⟨k', o', h3, _⟩
      · exact .inl h3
      · simp [lh] at h3, fun k o hk => by simp [lh] at hk⟩
    simp only [Rd]
    rcases ho.2 with ⟨hv, hn⟩ | ⟨g, cap, cur, hv, hb, hh, hc, hm, hcs, ht⟩
    · have : es = [] := List.eq_nil_of_length_eq_zero hn
      subst this
      exact ⟨none, 0, hv, Nat.le_refl _, .inl ⟨rfl, fun _ => rfl⟩⟩
    · refine ⟨_, cap, hv, hc, .inr ⟨_, cur, t, (0, 0), rfl, rfl, hF g (by rw [hv]; rfl), hh, r.congr fun j hj => ?_⟩⟩
      simp only [Nat.zero_add, List.getElem?_toArray]
      rw [← ht, List.getElem?_take, if_pos hj]
      simp)⟩
/-- arguments whose nils are rows of none -/
theorem Ct.wk {P : Program} {T : World → Prop} {f : Nat} {cs cs' : List S} {rest : List S} {fr : Bool} {post : S → Prop} (C : Ct P T f (.agg cs' :: rest) fr post) (h : wk cs cs') : Ct P T f (.agg cs :: rest) fr post :=
  ⟨C.1, fun F w vs hT hx => C.2 F w vs hT (by
    simp only [RSL] at hx ⊢
    obtain ⟨v, l, e, h1, h2⟩ := hx
    refine ⟨v, l, e, ?_, h2⟩
    simp only [RS] at h1 ⊢
    obtain ⟨ws, h3, h4⟩ := h1
    exact ⟨ws, h3, wk_ok h h4⟩)⟩
/-! ## code within a frame that may be a round of a loop over a function -/
def FR (ro : Option Nat) : Fence := { Fence.wide with round := ro }
theorem callsIn_FR {ro : Option Nat} {n : Nat} {P : Program} {f : FuncId} {args : Array Value} {w : World} {R : Ending → World → Prop} (h : Calls P f args w R) : CallsIn (FR ro) n P f args w R :=
  (callsIn_wide (n := n)).2 h
theorem rowsIn_FR {ro : Option Nat} {n : Nat} {P : Program} {row : String} {args : Array Value} {w : World} {R : Value → World → Prop} (h : Rows P row args w R) : RowsIn (FR ro) n P row args w R :=
  fun c cs _ => let ⟨v, w', r, s⟩ := h c cs; ⟨v, w', r, stepsIn_wide.2 s⟩
/-- no defer statement -/
def ndf (o : Oper) : Bool := match o.op with
  | .defer _ => false
  | _ => true
theorem ndf_ne {o : Oper} (h : ndf o = true) : ∀ c, o.op ≠ .defer c := fun c e => by simp [ndf, e] at h
section into
variable {ro : Option Nat} {n : Nat} {P : Program} {Q : Exit → Act → World → Prop}
theorem op_in2 {o : Oper} {a : Act} {w : World} {K K' : Act → World → Prop} {Q' : Exit → Act → World → Prop} (hnd : ndf o = true) (hQ : ¬ LetsOut Q) (hp : ∀ c a w, Q (.panic c) a w → Q' (.panic c) a w) (hK : ∀ a w, K a w → K' a w) (h : o.wp P a w K Q) : o.wpIn (FR ro) n P a w K' Q' := by
  refine ⟨fun _ _ => trivial, ?_⟩
  rw [Oper.semAt_eq _ _ _ (ndf_ne hnd)]
  unfold Oper.wp at h
  generalize (execOp a.eval o).run P w = r at *
  cases r with
  | ok x w' =>
    cases x <;> simp only [Oper.upon, Oper.uponIn] at h ⊢ <;>
      first
        | exact hK _ _ h
        | exact ⟨fun e => (by cases e), (callsIn_FR h).mono fun e w'' he => by cases e <;> first | exact hK _ _ he | exact hp _ _ _ he | exact absurd he hQ⟩
        | exact ⟨fun e => (by cases e), (rowsIn_FR h).mono fun _ _ he => hK _ _ he⟩
  | halt x w' => cases x <;> simp only [Oper.upon, Oper.uponIn] at h ⊢ <;> first | exact hp _ _ _ h | exact h
theorem op_in {o : Oper} {a : Act} {w : World} {K : Act → World → Prop} (hnd : ndf o = true) (hQ : ¬ LetsOut Q) (h : o.wp P a w K Q) : o.wpIn (FR ro) n P a w K Q := op_in2 hnd hQ (fun _ _ _ h => h) (fun _ _ h => h) h
theorem list_in {ops : Array Oper} (hQ : ¬ LetsOut Q) : ∀ {l : List Oper} {a : Act} {w : World}, l.all ndf = true → wpList P ops Q l a w → wpListIn (FR ro) n P ops Q l a w
  | [], a, w, _, h => h
  | o :: r, a, w, hnd, h => by
    simp only [List.all_cons, Bool.and_eq_true] at hnd
    unfold wpList at h
    unfold wpListIn
    split at h
    · rename_i hw
      rw [if_pos hw]
      rcases h with h | h
      · exact op_in hnd.1 hQ (Oper.wp_mono (fun a w h => list_in hQ hnd.2 h) h)
      · exact absurd h.2 hQ
    · rename_i hw
      rw [if_neg hw]
      exact ⟨fun _ _ => trivial, list_in hQ hnd.2 h⟩
/-- the beginning of a region; what stands behind it is told otherwise -/
theorem list_app {ops : Array Oper} {Q' : Exit → Act → World → Prop} {tl : List Oper} (hQ : ¬ LetsOut Q) (hp : ∀ c a w, Q (.panic c) a w → Q' (.panic c) a w) (hn : ∀ a w, Q .normal a w → wpListIn (FR ro) n P ops Q' tl a w) : ∀ {l : List Oper} {a : Act} {w : World}, l.all ndf = true → wpList P ops Q l a w → wpListIn (FR ro) n P ops Q' (l ++ tl) a w
  | [], a, w, _, h => hn a w h
  | o :: r, a, w, hnd, h => by
    simp only [List.all_cons, Bool.and_eq_true] at hnd
    unfold wpList at h
    rw [List.cons_append]
    unfold wpListIn
    split at h
    · rename_i hw
      rw [if_pos hw]
      rcases h with h | h
      · exact op_in2 hnd.1 hQ hp (fun a w h => list_app hQ hp hn hnd.2 h) h
      · exact absurd h.2 hQ
    · rename_i hw
      rw [if_neg hw]
      exact ⟨fun _ _ => trivial, list_app hQ hp hn hnd.2 h⟩
theorem any_in {md : Region.Mode} {ops : Array Oper} (hQ : ¬ LetsOut Q) (hnd : ∀ (i : Nat) (o : Oper), ops[i]? = some o → ndf o = true) : ∀ (m : Nat) (l : Array Bool) (a : Act) (w : World), wpAny P md ops Q m l a w → wpAnyIn (FR ro) n P md ops Q m l a w
  | 0, l, a, w, h => h
  | m + 1, l, a, w, h => by
    refine ⟨h.1, fun i hi => ?_⟩
    have := h.2 i hi
    unfold wpOp at this
    unfold wpOpIn
    cases ho : ops[i]? with
    | none => rw [ho] at this; exact any_in hQ hnd m _ a w this
    | some o =>
      rw [ho] at this
      simp only at this ⊢
      split at this
      · rename_i hw
        rw [if_pos hw]
        rcases this with h | h
        · exact op_in (hnd i o ho) hQ (Oper.wp_mono (fun a w h => any_in hQ hnd m _ a w h) h)
        · exact absurd h.2 hQ
      · rename_i hw
        rw [if_neg hw]
        exact ⟨fun _ _ => trivial, any_in hQ hnd m _ _ w this⟩
end into
def QR (E : Env) (Q : Exit → St → Prop) : Exit → Act → World → Prop := fun e a' w' => e ≠ .outgrown ∧ ∃ s' η', Rel E s' a' w' η' ∧ Q e s'
theorem QR_out {E : Env} {Q : Exit → St → Prop} : ¬ LetsOut (QR E Q) := fun ⟨_, _, h⟩ => h.1 rfl
def TrR (ro : Option Nat) (E : Env) (c : Code) (Q : Exit → St → Prop) (s : St) : Prop := ∀ n a w η, Rel E s a w η → c.wpIn (FR ro) n E.P (QR E Q) a w
section code
variable {ro : Option Nat} {E : Env} {Q : Exit → St → Prop} {s : St}
theorem TrR.region {id : Nat} {ops : List Oper} (h : SQ E ops ops s (Q .normal)) (hnd : ops.all ndf = true := by rfl) : TrR ro E (.region id ops.toArray false) Q s := fun n a w η hR =>
  wpIn_region_lit (list_in QR_out hnd (SQ_ok (fun s' a' w' η' h1 h2 => ⟨by simp, s', η', h1, h2⟩) ops s h a w η hR))
theorem TrR.seq {x y : Code} (h : TrR ro E x (thenS (TrR ro E y Q) Q) s) : TrR ro E (.seq x y) Q s := fun n a w η hR => by
  refine wpIn_seq (wpIn_mono (h n a w η hR) ?_)
  rintro e a' w' ⟨h0, s', η', h1, h2⟩
  cases e <;> first | exact h2 n a' w' η' h1 | exact ⟨h0, s', η', h1, h2⟩
theorem TrR.skip (h : Q .normal s) : TrR ro E .skip Q s := fun n a w η hR => wpIn_skip ⟨by simp, s, η, hR, h⟩
theorem TrR.label {l : Nat} (h : Q .normal s) : TrR ro E (.label l) Q s := fun n a w η hR => wpIn_label ⟨by simp, s, η, hR, h⟩
theorem TrR.exit {l : Nat} (h : Q (.exit l) s) : TrR ro E (.exit l) Q s := fun n a w η hR => wpIn_exit ⟨by simp, s, η, hR, h⟩
theorem TrR.goto {l : Nat} (h : Q (.goto l) s) : TrR ro E (.goto l) Q s := fun n a w η hR => wpIn_goto ⟨by simp, s, η, hR, h⟩
theorem TrR.ret (h : Q .ret s) : TrR ro E .ret Q s := fun n a w η hR => wpIn_ret ⟨by simp, s, η, hR, h⟩
theorem TrR.block {id : Nat} {c : Code} (h : TrR ro E c (inBlk id Q) s) : TrR ro E (.block id c) Q s := fun n a w η hR => by
  refine wpIn_block (wpIn_mono (h n a w η hR) ?_)
  rintro e a' w' ⟨h0, s', η', h1, h2⟩
  cases e <;> try exact ⟨h0, s', η', h1, h2⟩
  case exit i =>
    simp only [inBlk] at h2
    simp only [Exit.inBlock]
    split
    · rename_i e; rw [if_pos e] at h2; exact ⟨by simp, s', η', h1, h2⟩
    · rename_i e; rw [if_neg e] at h2; exact ⟨by simp, s', η', h1, h2⟩
theorem TrR.cond {c : Operand} {x y : Code} {b : Bool} (hc : ev s c = .d (.b b)) (h1 : b = true → TrR ro E x Q s) (h2 : b = false → TrR ro E y Q s) : TrR ro E (.cond c x y) Q s := fun n a w η hR => by
  have hv : a.eval c = .bool b := by simpa only [hc, RS, Rd] using RS_ev hR c
  refine wpIn_cond hv ?_
  cases b with
  | true => exact h1 rfl n a w η hR
  | false => exact h2 rfl n a w η hR
theorem TrR.mono {c : Code} {Q' : Exit → St → Prop} (h : TrR ro E c Q s) (hq : ∀ e s, Q e s → Q' e s) : TrR ro E c Q' s := fun n a w η hR =>
  wpIn_mono (h n a w η hR) fun e a' w' ⟨h0, s', η', h1, h2⟩ => ⟨h0, s', η', h1, hq e s' h2⟩
theorem TrR.le {c : Code} {s' : St} (hl : Le E s s') (h : TrR ro E c Q s') : TrR ro E c Q s := fun n a w η hR => let ⟨η', hR'⟩ := hl a w η hR; h n a w η' hR'
theorem TrR.loop {c : Code} (J : Nat → St → Prop) (n0 : Nat) (h0 : ∃ s', Le E s s' ∧ J n0 s') (hr : ∀ n s, J n s → TrR ro E c (thenS (fun s' => ∃ n' s'', n' < n ∧ Le E s' s'' ∧ J n' s'') Q) s) : TrR ro E (.loop c) Q s := fun n a w η hR => by
  obtain ⟨s', hl, hJ⟩ := h0
  obtain ⟨η', hR'⟩ := hl a w η hR
  refine wpIn_loop_ghost (fun n a w => ∃ s η, Rel E s a w η ∧ J n s) n0 ⟨s', η', hR', hJ⟩ ?_
  rintro k a w ⟨s, η, h1, h2⟩
  refine wpIn_mono (hr k s h2 n a w η h1) ?_
  rintro e a' w' ⟨h0, s1, η1, h3, h4⟩
  cases e <;> try exact ⟨h0, s1, η1, h3, h4⟩
  obtain ⟨n', s2, h5, h6, h7⟩ := h4
  obtain ⟨η2, h8⟩ := h6 a' w' η1 h3
  exact ⟨n', h5, s2, η2, h8, h7⟩
theorem TrR.meet {c y : Code} (J : St → Prop) (hy : ∀ s, J s → TrR ro E y Q s) (hx : TrR ro E c (thenS (fun s' => ∃ s'', Le E s' s'' ∧ J s'') Q) s) : TrR ro E c (thenS (TrR ro E y Q) Q) s :=
  hx.mono fun e s' h => by
    cases e <;> try exact h
    obtain ⟨s'', hl, hj⟩ := h
    exact TrR.le hl (hy s'' hj)
theorem rr1 {id : Nat} {ops : List Oper} {y : Code} (h : ∀ K : St → Prop, (∀ s', TrR ro E y Q s' → K s') → SQ E ops ops s K) (hnd : ops.all ndf = true := by rfl) : TrR ro E (.seq (.region id ops.toArray false) y) Q s :=
  TrR.seq (TrR.region (h _ fun _ k => k) hnd)
theorem rr3 {id : Nat} {ops : List Oper} (h : ∀ K : St → Prop, (∀ s', Q .normal s' → K s') → SQ E ops ops s K) (hnd : ops.all ndf = true := by rfl) : TrR ro E (.region id ops.toArray false) Q s :=
  TrR.region (h _ fun _ k => k) hnd
theorem rr2 {m : St → Prop} {id : Nat} {ops : List Oper} (h : ∀ K : St → Prop, (∀ s', m s' → K s') → SQ E ops ops s K) (hnd : ops.all ndf = true := by rfl) : TrR ro E (.region id ops.toArray false) (thenS m Q) s :=
  TrR.region (h _ fun _ k => k) hnd
section draw
variable {id : Nat} {ops : List Oper}
theorem TrR.draw (plan : Pn) (wr : List Nat) (hm : E.P.follows .mixedOrders = true) (hk : (Region.noSelect ops.toArray && pnB ops.toArray true plan (Array.replicate ops.toArray.size false) && Nat.ble plan.n ops.length) = true) (hw : aliveW s.h wr) (hp : ∀ c s, ¬ Q (.panic c) s)
    (h : AP E ops wr (Q .normal) true plan s s []) (hnd : ops.all ndf = true := by rfl) : TrR ro E (.region id ops.toArray true) Q s := fun n a w η hR => by
  simp only [Bool.and_eq_true] at hk
  obtain ⟨⟨h1, h2⟩, h3⟩ := hk
  have hR' : Rel E s a w.drew η := hR.grown (Below.refl _ _).drew
  have h4 := Nat.le_of_ble_eq_true h3
  have hnd' : ∀ (i : Nat) (o : Oper), ops.toArray[i]? = some o → ndf o = true := fun i o ho => by
    rw [List.getElem?_toArray] at ho
    exact List.all_eq_true.1 hnd o (List.mem_of_getElem? ho)
  refine wpIn_region_any hm (any_in QR_out hnd' _ _ _ _ (wpAny_of_held (S := SW wr w.drew η) _ _ _ _ ?_))
  exact (AP_ok h1 (fun c a' w' ⟨_, s', η', _, hq⟩ => hp c s' hq) (fun s' a' w' η' h1 h2 => ⟨by simp, s', η', h1, h2⟩) plan true _ ops.toArray.size s s [] a w.drew η (by simpa using h4) h2 h
    ⟨hR', hR', fun _ _ => rfl, Sub.refl _ _, Nat.le_refl _, fun k b e => by simp [inL] at e, aliveW_mem hw, fun _ _ hb _ => hb⟩).1 rfl
theorem rd1 {y : Code} (plan : Pn) (wr : List Nat) (hm : E.P.follows .mixedOrders = true) (hk : (Region.noSelect ops.toArray && pnB ops.toArray true plan (Array.replicate ops.toArray.size false) && Nat.ble plan.n ops.length) = true) (hw : aliveW s.h wr) (hp : ∀ c s, ¬ Q (.panic c) s)
    (h : ∀ K : St → Prop, (∀ s', TrR ro E y Q s' → K s') → AP E ops wr K true plan s s []) (hnd : ops.all ndf = true := by rfl) : TrR ro E (.seq (.region id ops.toArray true) y) Q s :=
  TrR.seq (TrR.draw plan wr hm hk hw hp (h _ fun _ k => k) hnd)
theorem rd2 {m : St → Prop} (plan : Pn) (wr : List Nat) (hm : E.P.follows .mixedOrders = true) (hk : (Region.noSelect ops.toArray && pnB ops.toArray true plan (Array.replicate ops.toArray.size false) && Nat.ble plan.n ops.length) = true) (hw : aliveW s.h wr) (hp : ∀ c s, ¬ Q (.panic c) s)
    (h : ∀ K : St → Prop, (∀ s', m s' → K s') → AP E ops wr K true plan s s []) (hnd : ops.all ndf = true := by rfl) : TrR ro E (.region id ops.toArray true) (thenS m Q) s :=
  TrR.draw plan wr hm hk hw hp (h _ fun _ k => k) hnd
theorem rd4 {i : Nat} (plan : Pn) (wr : List Nat) (hm : E.P.follows .mixedOrders = true) (hk : (Region.noSelect ops.toArray && pnB ops.toArray true plan (Array.replicate ops.toArray.size false) && Nat.ble plan.n ops.length) = true) (hw : aliveW s.h wr) (hp : ∀ c s, ¬ Q (.panic c) s)
    (h : ∀ K : St → Prop, (∀ s', Q .normal s' → K s') → AP E ops wr K true plan s s []) (hnd : ops.all ndf = true := by rfl) : TrR ro E (.region id ops.toArray true) (inBlk i Q) s :=
  TrR.draw plan wr hm hk hw hp (h _ fun _ k => k) hnd
end draw
end code
/-! ## a loop over a function: its rounds, the function, the statement -/
theorem Fr_ext {E : Env} {H H' : Hp} {η : Nat → Value} (hh : ∀ k, lh H' k = lh H k) : Fr E H' η = Fr E H η := by
  funext b; simp only [Fr, hh]
theorem Rel.exts {E : Env} {s s' : St} {a : Act} {w : World} {η : Nat → Value} (h : Rel E s a w η) (ht : ∀ i, lk s'.t i = lk s.t i) (hh : ∀ k, lh s'.h k = lh s.h k) : Rel E s' a w η := by
  have hF := Fr_ext (E := E) (η := η) hh
  refine ⟨h.sz, by rw [hF]; exact h.df, fun i => by rw [hF, ht]; exact h.tm i, fun k o hk => by rw [hF]; rw [hh] at hk; exact h.ob k o hk, fun k o g hk => by rw [hh] at hk; exact h.ge k o g hk, fun k k' o o' hne hk hk' => by rw [hh] at hk hk'; exact h.sep k k' o o' hne hk hk', h.bel, h.pn⟩
def isL (r : Loop) : Obj → Prop := fun o => o = .loop r
def prmT : List Nat → List S → Tm → Tm
  | p :: ps, x :: xs, t => prmT ps xs ((p, x) :: t)
  | _, _, t => t
theorem Rel.prm {E : Env} {H : Hp} {w : World} {η : Nat → Value} : ∀ (ps : List Nat) (xs : List S) (vs : List Value) (t : Tm) (tm : Array Value), ps.all (fun p => decide (p < E.n)) = true → RSL η (Fr E H η) w xs vs → Rel E ⟨t, H⟩ ⟨tm, []⟩ w η →
    Rel E ⟨prmT ps xs t, H⟩ ⟨(ps.zip vs).foldl (fun tm pv => tm.setIfInBounds pv.1 pv.2) tm, []⟩ w η
  | [], xs, vs, t, tm, _, _, h => by simpa [prmT] using h
  | p :: ps, [], vs, t, tm, _, hx, h => by
    simp only [RSL] at hx
    subst hx
    simpa [prmT] using h
  | p :: ps, x :: xs, vs, t, tm, hp, hx, h => by
    simp only [RSL] at hx
    obtain ⟨v, l, rfl, h1, h2⟩ := hx
    simp only [List.all_cons, Bool.and_eq_true, decide_eq_true_eq] at hp
    simp only [prmT, List.zip_cons_cons, List.foldl_cons]
    exact Rel.prm ps xs l _ _ hp.2 h2 (h.put hp.1 h1)
theorem env_in {P : Program} {T : World → Prop} (Tm : TP T) {n : Nat} {w : World} {F : Nat → Prop} {η : Nat → Value} {Hi : Hp} (hT : T w) (hI : In w F Hi η) (pin : Nat → Option Value) (hpin : ∀ k, k < n → pin k = none) :
    ∃ E : Env, E.P = P ∧ E.w0 = w ∧ E.F = F ∧ E.n = n ∧ E.T = T ∧ E.W = (fun b => ∃ k o, lh Hi k = some o ∧ blk (η k) = some b) ∧ E.pin = pin :=
  ⟨⟨P, w, F, n, T, Tm, hT, fun b => ∃ k o, lh Hi k = some o ∧ blk (η k) = some b, fun b ⟨k, o, h1, h2⟩ => (hI.ge k o b h1 h2).1, pin, hpin⟩, rfl, rfl, rfl, rfl, rfl, rfl, rfl⟩
section inout
variable {E : Env} {w : World} {F : Nat → Prop} {η : Nat → Value} {Hi : Hp} (h4 : E.w0 = w) (h5 : E.F = F) (hW : E.W = fun b => ∃ k o, lh Hi k = some o ∧ blk (η k) = some b)
include h4 h5 hW
theorem rel_in (hI : In w F Hi η) (hpn : ∀ k v, E.pin k = some v → η k = v) {t : Tm} {a : Act} (hsz : a.tmps.size = E.n) (hd : a.defers = []) (htm : ∀ i, RS η F w (lk t i) (a.tmps.getD i undef)) : Rel E ⟨t, Hi⟩ a w η := by
  have hsub : Sub F w (Fr E Hi η) w := fun b o hb ho => ⟨⟨.inr (.inl (by rw [h5]; exact hb)), fun k o' hk e => (hI.ge k o' b hk e).2.2 hb⟩, ho⟩
  exact ⟨hsz, by rw [hd]; exact Marks.nil _ _ _, fun i => RS.mono hsub _ _ (htm i), fun k o hk => (hI.ob k o hk).mono hsub fun _ _ _ hb => hb, fun k o g hk hg => ⟨.inr (by rw [hW]; exact ⟨k, o, hk, hg⟩), (hI.ge k o g hk hg).2.1⟩, hI.sep, by rw [h4]; exact Bel.refl _ _, hpn⟩
theorem out_of {s : St} {a : Act} {w' : World} {η1 : Nat → Value} (hR : Rel E s a w' η1) (hpin : ∀ k o, lh Hi k = some o → E.pin k = some (η k)) {Ho : Hp} (hlh : ∀ k o, lh Ho k = some o → lh s.h k = some o) (hal : ∀ k o, lh Hi k = some o → (lh Ho k).isSome = true) (hcl : closedH (nkH Ho) Ho = true) :
    ∃ η', Out w w' F Hi Ho η η' := by
  have hpn : ∀ k o, lh Hi k = some o → η1 k = η k ∧ ∃ o', lh Ho k = some o' := fun k o hk => ⟨hR.pn k (η k) (hpin k o hk), Option.isSome_iff_exists.1 (hal k o hk)⟩
  have hη : ∀ j, nkH Ho j = false → (fun j => match lh Ho j with | some _ => η1 j | none => η j) j = η1 j := fun j hj => by
    unfold nkH at hj
    cases hl : lh Ho j with
    | none => rw [hl] at hj; cases hj
    | some o => simp only [hl]
  have hη' : ∀ {j o}, lh Ho j = some o → (fun j => match lh Ho j with | some _ => η1 j | none => η j) j = η1 j := fun {j o} hj => by simp only [hj]
  have hs : Sub (Fr E s.h η1) w' (Gd w F Ho (fun j => match lh Ho j with | some _ => η1 j | none => η j)) w' := fun b o hb ho => by
    refine ⟨⟨?_, fun k o' hk e => ?_⟩, ho⟩
    · rcases hb.1 with hb1 | hb1 | hb1
      · exact .inl (by rw [← h4]; exact hb1)
      · exact .inr (by rw [← h5]; exact hb1)
      · exfalso
        rw [hW] at hb1
        obtain ⟨k, o', h8, h9⟩ := hb1
        obtain ⟨h10, o2, h11⟩ := hpn k o' h8
        exact hb.2 k o2 (hlh k o2 h11) (by rw [h10]; exact h9)
    · rw [hη' hk] at e
      exact hb.2 k o' (hlh k o' hk) e
  refine ⟨fun j => match lh Ho j with | some _ => η1 j | none => η j, ?_⟩
  refine ⟨fun k o hk => ?_, fun k o g hk hg => ?_, fun k k' o o' hne hk hk' g hg => ?_, fun k o hk => ?_, fun k hk => ?_, ?_⟩
  · exact ((hR.ob k o (hlh k o hk)).turn hη (hη' hk) (closedH_lh hcl hk)).mono hs fun _ _ _ hb => hb
  · simp only [hk] at hg
    have := hR.ge k o g (hlh k o hk) hg
    refine ⟨this.2, ?_⟩
    rcases this.1 with h8 | h8
    · exact .inl (by rw [← h4]; exact h8)
    · exact .inr (by rw [hW] at h8; exact h8)
  · simp only [hk] at hg
    simp only [hk']
    exact hR.sep k k' o o' hne (hlh k o hk) (hlh k' o' hk') g hg
  · obtain ⟨h8, o', h9⟩ := hpn k o hk
    exact ⟨by simp only [h9]; exact h8, by rw [h9]; rfl⟩
  · simp only [hk]
  · have := hR.bel
    rw [hW, h4] at this
    exact this
end inout
/-- what a call of yield does, at Hi's objects, with xs -/
def YC (P : Program) (T : World → Prop) (l : Nat) (w1 : World) (F0 : Nat → Prop) (η1 : Nat → Value) (Hi : Hp) (xs : List S) (post : Hp → Prop) : Prop :=
  ∀ (n : Nat) (F : Nat → Prop) (w : World) (η : Nat → Value) (vs : List Value), T w → In w F Hi η → (∀ k o, lh Hi k = some o → η k = η1 k) → SubC F0 w1 F w → RSL η F w xs vs →
    YieldAt (FR none) n P l vs.toArray w fun e w' => e = .returned (.bool true) ∧ ∃ Ho η', post Ho ∧ Out w w' F Hi Ho η η'
/-- how a round's body may end -/
def EndQ (E : Env) (ks : List Nat) (R1 : Obj → Prop) (post : Hp → Prop) : Exit → St → Prop
  | .normal, s => ∃ s', Le E s s' ∧ aliveK ks s'.h ∧ lh s'.h 9001 = some (.mp R1) ∧ closedH (nkH (keepH ks s'.h)) (keepH ks s'.h) = true ∧ post (keepH ks s'.h)
  | _, _ => False
def MidQ (ro : Option Nat) (E : Env) (body : Code) (R0 R1 : Obj → Prop) (Qe : Exit → St → Prop) : Exit → St → Prop
  | .normal, s => lh s.h 9001 = some (.mp R0) ∧ TrR ro E body Qe (s.upd 9001 (.mp R1))
  | _, _ => False
theorem closed9 {p q : Nat → Bool} (hpq : ∀ j, q j = true → p j = true) : ∀ {H : Hp}, closedH p H = true → closedH q H = true
  | [], _ => rfl
  | (i, o) :: r, h => by
    simp only [closedH, Bool.and_eq_true] at h ⊢
    refine ⟨?_, closed9 hpq h.2⟩
    cases o <;> simp only [closedO] at h ⊢
    rw [hasL_le hpq _ (by simpa using h.1)]; rfl
where
  has_le {p q : Nat → Bool} (h : ∀ j, q j = true → p j = true) : ∀ x : S, x.has p = false → x.has q = false
    | .any, _ => by simp [S.has]
    | .d _, _ => by simp [S.has]
    | .agg cs, e => by simp only [S.has] at e ⊢; exact hasL_le h cs e
    | .own k, e => by simp only [S.has] at e ⊢; exact one h e
    | .ptr k _, e => by simp only [S.has] at e ⊢; exact one h e
    | .eptr k _ _ _, e => by simp only [S.has] at e ⊢; exact one h e
    | .fptr _, _ => by simp [S.has]
    | .fn _ cs, e => by simp only [S.has] at e ⊢; exact hasL_le h cs e
    | .tup cs, e => by simp only [S.has] at e ⊢; exact hasL_le h cs e
    | .gd _ x, e => by simp only [S.has] at e ⊢; exact has_le h x e
  hasL_le {p q : Nat → Bool} (h : ∀ j, q j = true → p j = true) : ∀ x : List S, S.hasL p x = false → S.hasL q x = false
    | [], _ => by simp [S.hasL]
    | c :: cs, e => by
      simp only [S.hasL, Bool.or_eq_false_iff] at e ⊢
      exact ⟨has_le h c e.1, hasL_le h cs e.2⟩
  one {p q : Nat → Bool} (h : ∀ j, q j = true → p j = true) {k : Nat} (e : p k = false) : q k = false := by
    cases hq : q k with
    | false => rfl
    | true => rw [h k hq] at e; cases e
theorem lh9 {R : Obj → Prop} {H : Hp} {k : Nat} : lh ((9001, .mp R) :: H) k = if 9001 = k then some (.mp R) else lh H k := rfl
theorem ob_mp {η : Nat → Value} {F : Nat → Prop} {w : World} {k l : Nat} {R : Obj → Prop} (h : ROb0 η F w k (.mp R)) (hl : η k = .map (some l)) : ∃ o, w.heap[l]? = some o ∧ R o := by
  obtain ⟨g, o, h1, h2, h3⟩ := h
  rw [hl] at h1
  cases h1
  exact ⟨o, h2, h3⟩
/-- the record is written -/
theorem Rel.reco {E : Env} {s : St} {a : Act} {w : World} {η : Nat → Value} (h : Rel E s a w η) {l : Nat} {R : Obj → Prop} {o : Obj} (R' : Obj → Prop) (hk : lh s.h 9001 = some (.mp R)) (hl : η 9001 = .map (some l)) (ho : R' o) : Rel E (s.upd 9001 (.mp R')) a (w.putObj l o) η := by
  obtain ⟨o0, h0, _⟩ := ob_mp (h.ob 9001 _ hk) hl
  have hlt : l < w.heap.size := (Array.getElem?_eq_some_iff.1 h0).1
  exact (h.wrote 9001 _ (.mp R') hk World.putObj_size rfl rfl rfl (fun b hb => World.putObj_heap_other fun e => hb (by rw [hl, e]; rfl)) fun F hs => ⟨l, o, hl, World.putObj_heap_same hlt, ho⟩).1
theorem YC_of {P : Program} {TT : World → Prop} (hTm : TP TT) {n l : Nat} {fn : FuncId} {ps : List Nat} {assign body : Code} {tmps : Array Value} {D : Nat} {t : Tm} {H : Hp} {w1 : World} {F0 : Nat → Prop} {η1 : Nat → Value} {X : List S} {ks : List Nat} {post : Hp → Prop}
    (rec : Loop) (hrec : rec = { state := .ready, pending := none, fn, tmps, params := ps.toArray, assign, body, defers := D }) (hsz : tmps.size = n) (hps : ps.all (fun p => decide (p < n)) = true) (hlen : X.length = ps.length)
    (htm : ∀ i, RS η1 F0 w1 (lk t i) (tmps.getD i undef)) (hcl : ∀ i, (lk t i).has (nkH H) = false) (hks : keysK n ks H = true) (h9 : lh H 9001 = none) (h9' : ks.contains 9001 = false) (hn9 : n ≤ 9001) (hal : ∀ k, ks.contains k = true → (lh H k).isSome = true) (hl : η1 9001 = .map (some l))
    (hb : ∀ R0 R1 E, E.P = P → E.n = n → E.T = TT → (∀ k, k ≠ 9001 → lh H k = none → E.pin k = none) → TrR (some l) E assign (MidQ (some l) E body R0 R1 (EndQ E ks R1 post)) ⟨prmT ps X t, (9001, .mp R0) :: H⟩) :
    YC P TT l w1 F0 η1 ((9001, .mp (isL rec)) :: H) X (fun Ho => ∃ H', Ho = (9001, .mp (isL rec)) :: H' ∧ post H') := by
  intro m F w η vs hT hI hpn hS hx
  have hl' : η 9001 = .map (some l) := (hpn 9001 _ (by rw [lh9, if_pos rfl])).trans hl
  obtain ⟨o, hw, ho⟩ := ob_mp (hI.ob 9001 _ (by rw [lh9, if_pos rfl])) hl'
  cases ho
  have hlen' : vs.length = ps.length := (RSL_len hx).trans hlen
  have hy := run_yield (P := P) (args := vs.toArray) hw (by rw [hrec]; simpa using hlen')
  rw [hrec] at hy
  refine ⟨fn, _, assign, body, hy, roundIn_of_wpIn trivial ?_⟩
  obtain ⟨E, e1, e2, e3, e4, e5, e6, e7⟩ := env_in (P := P) (n := n) hTm hT hI (fun k => match lh ((9001, .mp (isL rec)) :: H) k with | some _ => some (η k) | none => none) (fun k hk => by
    rw [lh9, if_neg (by omega)]
    cases hh : lh H k with
    | none => rfl
    | some o => have := (keysK_lh hks hh).2; omega)
  have hpE : ∀ k o, lh ((9001, .mp (isL rec)) :: H) k = some o → E.pin k = some (η k) := fun k o hk => by rw [e7]; simp only [hk]
  have htm' : ∀ i, RS η F w (lk t i) (tmps.getD i undef) := fun i => RS.turn (p := nkH H) (fun j hj => by
    unfold nkH at hj
    cases hh : lh H j with
    | none => rw [hh] at hj; cases hj
    | some o =>
      have : j ≠ 9001 := fun e => by rw [e, h9] at hh; cases hh
      exact hpn j o (by rw [lh9, if_neg (Ne.symm this)]; exact hh)) _ _ (hcl i) (RS.monoC hS _ _ (htm i))
  have hR0 : Rel E ⟨t, (9001, .mp (isL rec)) :: H⟩ ⟨tmps, []⟩ w η := rel_in e2 e3 e6 hI (fun k v hk => by
    rw [e7] at hk
    simp only at hk
    split at hk
    · cases hk; rfl
    · cases hk) (by rw [e4]; exact hsz) rfl htm'
  have hsub : Sub F w (Fr E ((9001, .mp (isL rec)) :: H) η) w := fun b o hb ho => ⟨⟨.inr (.inl (by rw [e3]; exact hb)), fun k o' hk e => (hI.ge k o' b hk e).2.2 hb⟩, ho⟩
  have hR1 := hR0.prm ps X vs t tmps (by rw [e4]; exact hps) (RSL.mono hsub _ _ hx)
  have hfold : (ps.toArray.zip vs.toArray).foldl (fun tm (x : Nat × Value) => tm.setIfInBounds x.1 x.2) tmps = (ps.zip vs).foldl (fun tm pv => tm.setIfInBounds pv.1 pv.2) tmps := by simp
  have hbE := hb (isL rec) (isL { rec with state := .busy }) E e1 e4 e5 (fun k hk hh => by rw [e7]; simp only [lh9, if_neg (Ne.symm hk), hh]) m _ w η hR1
  rw [e1] at hbE
  have hη : ∀ {s a w' η'}, Rel E s a w' η' → η' 9001 = .map (some l) := fun {s a w' η'} h => (h.pn 9001 _ (hpE 9001 _ (by rw [lh9, if_pos rfl]))).trans hl'
  refine wpIn_mono (Q := QR E (MidQ (some l) E body (isL rec) (isL { rec with state := .busy }) (EndQ E ks (isL { rec with state := .busy }) post))) (by
    have := hfold; simp only at this ⊢; rw [show (ps.toArray.zip vs.toArray).foldl (fun tmps x => match x with | (t, a) => tmps.setIfInBounds t a) tmps = _ from hfold]; exact hbE) ?_
  rintro e a1 w2 ⟨h0, s1, η2, hR2, hQ⟩
  cases e <;> try exact hQ.elim
  obtain ⟨hm, hbody⟩ := hQ
  obtain ⟨o2, hw2, ho2⟩ := ob_mp (hR2.ob 9001 _ hm) (hη hR2)
  cases ho2
  refine ⟨_, run_beginRound hw2 (by rw [hrec]), ?_⟩
  have hbody := hbody m a1 _ _ (hR2.reco (o := .loop { rec with state := .busy }) _ hm (hη hR2) rfl)
  rw [e1] at hbody
  refine wpIn_mono hbody ?_
  rintro e a3 w3 ⟨h0', s3, η3, hR3, hQ3⟩
  cases e <;> try exact hQ3.elim
  obtain ⟨s4, hle, hal3, h93, hcl3, hpost⟩ := hQ3
  replace hR3 := hle _ _ _ hR3
  clear hle
  obtain ⟨η4, hR3⟩ := hR3
  obtain ⟨o3, hw3, ho3⟩ := ob_mp (hR3.ob 9001 _ h93) (hη hR3)
  cases ho3
  refine ⟨_, _, run_endRound none hw3, rfl, ?_⟩
  have hR4 := hR3.reco (o := .loop { { rec with state := .busy } with state := if (none : Option Code).isNone then .ready else .done, pending := none }) (isL rec) h93 (hη hR3) (by rw [hrec]; rfl)
  have hlh : ∀ k o, lh ((9001, .mp (isL rec)) :: keepH ks s4.h) k = some o → lh (s4.upd 9001 (.mp (isL rec))).h k = some o := fun k o hk => by
    rw [lh9] at hk
    show lh ((9001, .mp (isL rec)) :: dropH 9001 s4.h) k = some o
    rw [lh9]
    split at hk
    · rename_i hh; rw [if_pos hh]; exact hk
    · rename_i hne
      rw [lh_keepH] at hk
      split at hk
      · rw [if_neg hne, lh_dropH, if_neg (fun e => hne e.symm)]; exact hk
      · cases hk
  obtain ⟨η5, hO⟩ := out_of e2 e3 e6 hR4 hpE (Ho := (9001, .mp (isL rec)) :: keepH ks s4.h) hlh (fun k o hk => by
    rw [lh9] at hk ⊢
    split
    · rfl
    · rename_i hne
      rw [if_neg hne] at hk
      have := (keysK_lh hks hk).1
      rw [lh_keepH, if_pos (by simpa using this)]
      exact aliveK_lh hal3 k this) (by
      simp only [closedH, closedO, Bool.true_and]
      exact closed9 (fun j hj => by
        unfold nkH at hj ⊢
        rw [lh9] at hj
        split at hj
        · cases hj
        · exact hj) hcl3)
  exact ⟨_, η5, ⟨_, rfl, hpost⟩, hO⟩
/-! ## the function that is ranged over -/
structure okH (Hi H : Hp) : Prop where
  inn : inH H H
  key : ∀ j, (lh H j).isSome = (lh Hi j).isSome
  cls : closedH (nkH H) H = true
/-- f, called with a loop's yield, calls it len times in turn, with X k at the k-th; J tells of the objects in between -/
def ItC (P : Program) (TT : World → Prop) (f : Nat) (caps : List S) (X : Nat → List S) (len : Nat) : Prop :=
  (∀ args w, (callFunc f args).run P w = .ok (.enter f args) w) ∧
  ∀ (l : Nat) (w1 : World) (F0 : Nat → Prop) (η1 : Nat → Value) (Hi : Hp) (J : Nat → Hp → Prop) (vs : List Value), TT w1 → In w1 F0 Hi η1 → (∀ k o, lh Hi k = some o → 1000 ≤ k) → η1 999 = .func (.yield l) #[] #[] → RSL η0 F0 w1 caps vs → J 0 Hi →
    (∀ k H, J k H → okH Hi H) → (∀ k H, k < len → J k H → YC P TT l w1 F0 η1 H (X k) (J (k + 1))) →
    Calls P f (Value.func (.yield l) #[] #[] :: vs).toArray w1 fun e w' => (∃ v, e = .returned v) ∧ ∃ Ho η', J len Ho ∧ Out w1 w' F0 Hi Ho η1 η'
/-- what the function that is ranged over knows of yield -/
def YE (E : Env) (H : Hp) (xs : List S) (post : Hp → Prop) : Prop := inH H H ∧ (∀ Ho, post Ho → ∀ j, (lh Ho j).isSome = (lh H j).isSome) ∧ ∃ l, E.pin 999 = some (.func (.yield l) #[] #[]) ∧
  ∀ n t a w η vs, Rel E ⟨t, H⟩ a w η → RSL η (Fr E H η) w xs vs → YieldAt (FR none) n E.P l vs.toArray w fun e w' => e = .returned (.bool true) ∧ ∃ Ho η', post Ho ∧ Out w w' (Fr E H η) H Ho η η'
def ItQ (J : Hp → Prop) : Exit → St → Prop
  | .normal, s | .ret, s => J s.h
  | _, _ => False
theorem calls_endR {P : Program} {f : FuncId} {fn : Func} {c : Code} {args : Array Value} {w : World} {R : Ending → World → Prop} (hf : P.funcs[f]? = some fn) (hb : fn.body = some c)
    (h : c.wpIn (FR none) 0 P (fun e a' w' => (e = .normal ∨ e = .ret) ∧ ∃ Ds : List Nat, a'.defers = Ds.map mkD ∧ Ds.Nodup ∧ (∀ D ∈ Ds, w'.heap[D]? = some (.deferred (some []))) ∧ ∃ v, (results fn a'.tmps).run P (shutL Ds w') = .ok v (shutL Ds w') ∧ R (.returned v) (shutL Ds w'))
      { tmps := args ++ Array.replicate (fn.ntmps - args.size) undef, defers := [] } w) : Calls P f args w R :=
  callsIn_wide.1 (callsIn_of_wp_marks (F := Fence.wide) (n := 0) hf hb trivial (wpIn_mono (F := Fence.wide) h fun e a' w' ⟨he, Ds, h1, h2, h3, h4⟩ => by
    rcases he with rfl | rfl
    · show LeavesInM Fence.wide 0 P fn a'.tmps R a'.defers .returning w'
      rw [h1]; exact leaves_shut Ds w' h2 h3 h4
    · show LeavesInM Fence.wide 0 P fn a'.tmps R a'.defers .returning w'
      rw [h1]; exact leaves_shut Ds w' h2 h3 h4))
theorem ItC_of {P : Program} {TT : World → Prop} (hTm : TP TT) {f : FuncId} {fn : Func} {c : Code} {caps : List S} {X : Nat → List S} {len n : Nat} (hf : P.funcs[f]? = some fn) (hb : fn.body = some c) (hname : (fn.name == "runtime.NumGoroutine") = false) (hnn : fn.ntmps = n) (hn : Nat.ble (caps.length + 1) n = true) (hn9 : Nat.ble n 999 = true) (hrs : fn.results.toList = []) (hc : S.hasL allH caps = false)
    (h : ∀ (E : Env) (Hi : Hp) (J : Nat → Hp → Prop), E.P = P → E.n = n → E.T = TT → J 0 Hi → (∀ k H, k < len → J k H → YE E H (X k) (J (k + 1))) → TrR none E c (ItQ (J len)) ⟨initT 0 (.own 999 :: caps), Hi⟩) : ItC P TT f caps X len := by
  subst hnn
  replace hn := Nat.le_of_ble_eq_true hn
  replace hn9 := Nat.le_of_ble_eq_true hn9
  refine ⟨enters' hf hname (by rw [hb]; rfl), fun l w1 F0 η1 Hi J vs hT hI hk1 h9 hx hJ0 hok hY => ?_⟩
  have h999 : lh Hi 999 = none := by
    cases hh : lh Hi 999 with
    | none => rfl
    | some o => have := hk1 999 o hh; omega
  obtain ⟨E, e1, e2, e3, e4, e5, e6, e7⟩ := env_in (P := P) (n := fn.ntmps) hTm hT hI (fun k => if k = 999 then some (η1 999) else match lh Hi k with | some _ => some (η1 k) | none => none) (fun k hk => by
    rw [if_neg (by omega)]
    cases hh : lh Hi k with
    | none => rfl
    | some o => have := hk1 k o hh; omega)
  have hpE : ∀ k o, lh Hi k = some o → E.pin k = some (η1 k) := fun k o hk => by
    have : k ≠ 999 := fun e => by rw [e, h999] at hk; cases hk
    rw [e7]; simp only [if_neg this, hk]
  have hp9 : E.pin 999 = some (.func (.yield l) #[] #[]) := by rw [e7]; simp only [if_pos]; rw [h9]
  have hx' : RSL η1 F0 w1 (.own 999 :: caps) (Value.func (.yield l) #[] #[] :: vs) := by
    simp only [RSL]
    exact ⟨_, _, rfl, by simp only [RS]; exact h9.symm, RSL.turn (p := allH) (fun j e => by cases e) _ _ hc hx⟩
  have hlen := RSL_len hx'
  have hR : Rel E ⟨initT 0 (.own 999 :: caps), Hi⟩ (Act.mk ((Value.func (.yield l) #[] #[] :: vs).toArray ++ Array.replicate (fn.ntmps - (Value.func (.yield l) #[] #[] :: vs).toArray.size) undef) []) w1 η1 := by
    refine rel_in e2 e3 e6 hI (fun k v hk => ?_) (by rw [e4]; simp at hlen ⊢; omega) rfl fun i => ?_
    · rw [e7] at hk
      simp only at hk
      split at hk
      · rename_i e; subst e; cases hk; rfl
      · split at hk
        · cases hk; rfl
        · cases hk
    · rw [lk_initT, if_pos (Nat.zero_le _), Nat.sub_zero]
      by_cases hi : i < (S.own 999 :: caps).length
      · obtain ⟨v, h1, h2⟩ := RSL_get hx' i (S.own 999 :: caps)[i] (by rw [List.getElem?_eq_getElem hi])
        have : ((Value.func (.yield l) #[] #[] :: vs).toArray ++ Array.replicate (fn.ntmps - (Value.func (.yield l) #[] #[] :: vs).toArray.size) undef).getD i undef = v := by
          rw [Array.getD_eq_getD_getElem?, Array.getElem?_append_left (by rw [List.size_toArray, hlen]; exact hi)]
          simp only [List.getElem?_toArray, h1, Option.getD_some]
        rw [this, List.getD_eq_getElem?_getD, List.getElem?_eq_getElem hi, Option.getD_some]
        exact h2
      · have : (S.own 999 :: caps).getD i .any = .any := by rw [List.getD_eq_getElem?_getD, List.getElem?_eq_none (Nat.le_of_not_lt hi)]; rfl
        rw [this]; simp only [RS]
  have hYE : ∀ k H, k < len → J k H → YE E H (X k) (J (k + 1)) := fun k H hk hj => by
    have ho := hok k H hj
    refine ⟨ho.inn, fun Ho hp j => ((hok _ _ hp).key j).trans (ho.key j).symm, l, hp9, fun n t a w η vs hR hx => ?_⟩
    have hlive : ∀ j o, lh H j = some o → ∃ o', lh Hi j = some o' ∧ η j = η1 j := fun j o hj => by
      obtain ⟨o', ho'⟩ := Option.isSome_iff_exists.1 (by rw [← ho.key j, hj]; rfl : (lh Hi j).isSome = true)
      exact ⟨o', ho', hR.pn j _ (hpE j o' ho')⟩
    rw [e1]
    refine hY k H hk hj n _ w η vs (e5 ▸ hR.hT) (In.of hR ho.inn) (fun j o hj => by obtain ⟨_, _, h⟩ := hlive j o hj; exact h) (fun b cs ty fr hF hh => ?_) hx
    have hlt := (Array.getElem?_eq_some_iff.1 hh).1
    refine ⟨⟨.inr (.inl (by rw [e3]; exact hF)), fun j o hj e => ?_⟩, ?_⟩
    · obtain ⟨o', h1, h2⟩ := hlive j o hj
      rw [h2] at e
      exact (hI.ge j o' b h1 e).2.2 hF
    · rw [hR.bel.block b (by rw [e2]; exact hlt) (by rw [e6]; rintro ⟨j, o, h1, h2⟩; exact (hI.ge j o b h1 h2).2.2 hF), e2]
      exact hh
  have hw := h E Hi J e1 e4 e5 hJ0 hYE 0 _ w1 η1 hR
  rw [e1] at hw
  refine calls_endR hf hb (wpIn_mono hw ?_)
  rintro e a' w2 ⟨_, s', η2, hR2, hq⟩
  obtain ⟨Ds, d1, d2, d3, hR3⟩ := hR2.shut
  have fin : J len s'.h → ∃ v, (results fn a'.tmps).run P (shutL Ds w2) = .ok v (shutL Ds w2) ∧ (∃ v', Ending.returned v = .returned v') ∧ ∃ Ho η', J len Ho ∧ Out w1 (shutL Ds w2) F0 Hi Ho η1 η' := fun hj => by
    obtain ⟨v, h6, h7⟩ := res_ok hR3 (fn := fn) (by rw [hrs]; simp [resL])
    rw [e1] at h6
    obtain ⟨η', hO⟩ := out_of e2 e3 e6 hR3 hpE (Ho := s'.h) (fun _ _ h => h) (fun k o hk => by rw [(hok _ _ hj).key k, hk]; rfl) (hok _ _ hj).cls
    exact ⟨v, h6, ⟨v, rfl⟩, _, η', hj, hO⟩
  cases e <;> try exact hq.elim
  · exact ⟨.inl rfl, Ds, d1, d2, d3, fin hq⟩
  · exact ⟨.inr rfl, Ds, d1, d2, d3, fin hq⟩
theorem so_none_call {P : Program} {w : World} {a : Act} {o : Oper} {fx : Operand} {args : Array Operand} {ts : Array TypeId} {l : Nat} (ho : o.op = .call { callee := .value fx, args := args, argTypes := ts }) (hf : a.eval fx = .func (.yield l) #[] #[]) :
    (execOp a.eval o).run P w = (Instr.yield l (args.map a.eval)).run P w := by
  unfold execOp
  simp only [ho, resolve, hf, Deferred.ofValue, Sem.run_bind, Sem.run_pure, Result.andThen_ok, invoke, Array.empty_append, Array.append_empty]
/-- a region with a call of yield -/
theorem TrR.yreg {E : Env} {Q : Exit → St → Prop} {s : St} {id : Nat} {pre rest : List Oper} {oy : Oper} {fx : Operand} {args : Array Operand} {ts : Array TypeId} {d : Nat} {xs : List S} {H : Hp} {post : Hp → Prop}
    (Y : YE E H xs post) (ho : oy.op = .call { callee := .value fx, args := args, argTypes := ts }) (hd : oy.dst = some d) (hg : oy.guard = none) (hdn : d < E.n) (hpre : pre.all ndf = true) (hrest : rest.all ndf = true)
    (h : SQ E (pre ++ oy :: rest) pre s (fun s1 => s1.h = H ∧ ev s1 fx = .own 999 ∧ stcL s1 args.toList ∧ stpL s1 args.toList = xs ∧ ∀ Ho, post Ho → SQ E (pre ++ oy :: rest) rest ⟨(d, .d (.b true)) :: s1.t, Ho⟩ (Q .normal))) :
    TrR none E (.region id (pre ++ oy :: rest).toArray false) Q s := fun n a w η hR => by
  obtain ⟨hin, hkey, l, hp9, hY⟩ := Y
  refine wpIn_region_lit (list_app (Q := fun e a w => e = .normal ∧ wpListIn (FR none) n E.P (pre ++ oy :: rest).toArray (QR E Q) (oy :: rest) a w) (fun ⟨_, _, h⟩ => by cases h.1) (fun c a w h => by cases h.1) (fun a w h => h.2) hpre (SQ_ok (fun s1 a w η hR hk => ⟨rfl, ?_⟩) pre s h a w η hR))
  clear h
  obtain ⟨hh, hf, hc, hx, hr⟩ := hk
  have hfe : a.eval fx = .func (.yield l) #[] #[] := by
    have := RS_ev hR fx
    rw [hf] at this
    simp only [RS] at this
    rw [this]; exact hR.pn 999 _ hp9
  have hv := RSL_ev hR args.toList hc
  rw [hx, hh] at hv
  have hR' : Rel E ⟨s1.t, H⟩ a w η := hR.exts (fun _ => rfl) (fun k => by rw [hh])
  obtain ⟨fn, tmps, assign, body, hy, hround⟩ := hY (n - 1) s1.t a w η _ hR' hv
  unfold wpListIn
  rw [if_pos (by simp [Region.wanted, hg])]
  refine ⟨fun _ _ => trivial, ?_⟩
  rw [Oper.semAt_eq _ _ _ (fun c e => by rw [ho] at e; cases e), so_none_call ho hfe]
  have harr : (args.toList.map a.eval).toArray = args.map a.eval := by apply Array.ext'; simp
  rw [harr] at hy
  rw [hy]
  refine ⟨fun e => (by cases e), hround.mono ?_⟩
  rintro e w' ⟨rfl, Ho, η', hp, hO⟩
  have hsk := hkey Ho hp
  have hnk : ∀ k, newK H Ho k = false := fun k => by
    unfold newK
    have := hsk k
    cases h1 : lh Ho k <;> cases h2 : lh H k <;> simp_all
  obtain ⟨hR2, _, _⟩ := hO.rel hR' hin (fun k hk => by rw [hnk k] at hk; cases hk)
  have hR3 : Rel E ⟨s1.t, Ho⟩ a w' η' := hR2.exts (fun i => by
    show lk s1.t i = lk (killT (newK H Ho) s1.t) i
    rw [show newK H Ho = fun _ => false from funext hnk, killT_none]) (fun k => by
    show lh Ho k = lh (Ho ++ killH (newK H Ho) (touK H Ho) H) k
    rw [lh_append]
    cases h1 : lh Ho k with
    | some o => rfl
    | none =>
      rw [Option.none_or, lh_killH]
      have : lh H k = none := by
        have := hsk k
        rw [h1] at this
        cases h2 : lh H k with
        | none => rfl
        | some o => rw [h2] at this; cases this
      rw [this]; split <;> rfl)
  refine list_in QR_out hrest (SQ_ok (fun s' a' w' η' h1 h2 => ⟨by simp, s', η', h1, h2⟩) rest _ (hr Ho hp) _ _ η' ?_)
  rw [hd]
  exact hR3.put hdn (by simp only [RS, Rd])
theorem inH_mono {A B : Hp} (h : ∀ k o, lh A k = some o → lh B k = some o) : ∀ {H : Hp}, inH A H → inH B H
  | [], _ => trivial
  | (k, o) :: r, q => ⟨h k o q.1, inH_mono h q.2⟩
theorem keysK_in {A : Hp} {n : Nat} {ks : List Nat} (hk : ∀ k o, lh A k = some o → k ∈ ks ∧ n ≤ k) : ∀ {H : Hp}, inH A H → keysK n ks H = true
  | [], _ => rfl
  | (i, o) :: r, q => by
    have := hk i o q.1
    simp only [keysK, Bool.and_eq_true]
    exact ⟨⟨by simpa using this.1, Nat.ble_eq_true_of_le this.2⟩, keysK_in hk q.2⟩
theorem keysK_of {n : Nat} {ks : List Nat} {H : Hp} (q : inH H H) (hk : ∀ k o, lh H k = some o → k ∈ ks ∧ n ≤ k) : keysK n ks H = true := keysK_in hk q
theorem killC_id {p q : Nat → Bool} (hqp : ∀ j, q j = true → p j = true) : ∀ {cs : List S}, S.hasL p cs = false → killC q cs = cs
  | [], _ => rfl
  | x :: r, h => by
    simp only [S.hasL, Bool.or_eq_false_iff] at h
    simp only [killC]
    rw [closed9.has_le hqp x h.1, killC_id hqp h.2]; rfl
theorem killO_id {p q : Nat → Bool} {o : Obj'} (hc : closedO p o = true) (hqp : ∀ j, q j = true → p j = true) : killO q o = o := by
  cases o <;> simp only [killO]
  rename_i ty cs
  rw [killC_id hqp (by simpa [closedO] using hc)]
def cutO : Nat → List Oper → Option (List Oper × Oper × List Oper)
  | _, [] => none
  | 0, o :: r => some ([], o, r)
  | k + 1, o :: r => match cutO k r with
    | none => none
    | some (p, q, u) => some (o :: p, q, u)
theorem cutO_eq : ∀ (k : Nat) (ops : List Oper) {pre rest : List Oper} {oy : Oper}, cutO k ops = some (pre, oy, rest) → ops = pre ++ oy :: rest
  | k, [], _, _, _, h => by cases k <;> simp [cutO] at h
  | 0, o :: r, _, _, _, h => by simp only [cutO, Option.some.injEq, Prod.mk.injEq] at h; obtain ⟨rfl, rfl, rfl⟩ := h; rfl
  | k + 1, o :: r, pre, rest, oy, h => by
    simp only [cutO] at h
    split at h
    · cases h
    · rename_i p q u hc
      simp only [Option.some.injEq, Prod.mk.injEq] at h
      obtain ⟨rfl, rfl, rfl⟩ := h
      rw [cutO_eq k r hc]; rfl
theorem TrR.yr {E : Env} {Q : Exit → St → Prop} {s : St} {id : Nat} {ops : List Oper} (k : Nat) {pre rest : List Oper} {oy : Oper} {fx : Operand} {args : Array Operand} {ts : Array TypeId} {d : Nat} {xs : List S} {H : Hp} {post : Hp → Prop}
    (Y : YE E H xs post) (hs : cutO k ops = some (pre, oy, rest)) (ho : oy.op = .call { callee := .value fx, args := args, argTypes := ts }) (hd : oy.dst = some d) (hg : oy.guard = none) (hdn : d < E.n) (hpre : pre.all ndf = true) (hrest : rest.all ndf = true)
    (h : ∀ K : St → Prop, (∀ s', Q .normal s' → K s') → SQ E ops pre s (fun s1 => s1.h = H ∧ ev s1 fx = .own 999 ∧ stcL s1 args.toList ∧ stpL s1 args.toList = xs ∧ ∀ Ho, post Ho → SQ E ops rest ⟨(d, .d (.b true)) :: s1.t, Ho⟩ K)) :
    TrR none E (.region id ops.toArray false) Q s := by
  have e := cutO_eq k ops hs
  subst e
  exact TrR.yreg Y ho hd hg hdn hpre hrest (h _ fun _ k => k)
/-- slots speak of live objects alone -/
def clT (p : Nat → Bool) : Tm → Bool
  | [] => true
  | (_, x) :: r => !x.has p && clT p r
theorem clT_lk {p : Nat → Bool} : ∀ {t : Tm}, clT p t = true → ∀ i, (lk t i).has p = false
  | [], _, i => by simp [lk, S.has]
  | (j, x) :: r, h, i => by
    simp only [clT, Bool.and_eq_true, Bool.not_eq_true'] at h
    simp only [lk]
    split
    · exact h.1
    · exact clT_lk h.2 i
/-- for .. := range of a function -/
theorem Tr.range {E : Env} {Q : Exit → St → Prop} {s : St} {g : Operand} {ps : List Nat} {assign body : Code} {f : Nat} {caps : List S} {X : Nat → List S} {len : Nat} (ks : List Nat) (J : Nat → Hp → Prop) (C : ItC E.P E.T f caps X len)
    (hg : stp (ev s g) = .fn f caps) (hgc : stc (ev s g)) (hc : S.hasL allH caps = false) (hks : keysK E.n ks s.h = true) (hk1 : keysK 1000 ks s.h = true) (h9 : lh s.h 9001 = none) (h9' : ks.contains 9001 = false) (hn9 : E.n ≤ 999) (hal : ∀ k, ks.contains k = true → (lh s.h k).isSome = true)
    (hcl : clT (nkH s.h) s.t = true) (hclH : closedH (nkH s.h) s.h = true) (hp9 : E.pin 9001 = none) (hp8 : E.pin 999 = none) (hps : ps.all (fun p => decide (p < E.n)) = true) (hlen : ∀ k, (X k).length = ps.length)
    (h0 : J 0 s.h) (hok : ∀ k H, J k H → okH s.h H)
    (hb : ∀ (k : Nat) (H : Hp) (l : Nat) (R0 R1 : Obj → Prop) (E' : Env), k < len → J k H → E'.P = E.P → E'.n = E.n → E'.T = E.T → (∀ j, j ≠ 9001 → lh H j = none → E'.pin j = none) → TrR (some l) E' assign (MidQ (some l) E' body R0 R1 (EndQ E' ks R1 (J (k + 1)))) ⟨prmT ps (X k) s.t, (9001, .mp R0) :: H⟩)
    (hend : ∀ H, J len H → Q .normal ⟨s.t, H⟩) : Tr E (.rangeFunc g ps.toArray assign body) Q s := fun a w η hR => by
  refine (wpIn_wide (n := 3)).1 (wpIn_rangeFunc fun fn _ => ?_)
  obtain ⟨rec, hrec⟩ : ∃ rec : Loop, rec = { state := .ready, pending := none, fn, tmps := a.tmps, params := ps.toArray, assign, body, defers := w.heap.size } := ⟨_, rfl⟩
  obtain ⟨w1, hw1⟩ : ∃ w1, (w.alloc (.deferred (some []))).alloc (.loop rec) = w1 := ⟨_, rfl⟩
  have hb1 : Below w.heap.size w w1 := by rw [← hw1]; exact ((Below.refl _ w).alloc (Nat.le_refl _) _).alloc (by simp) _
  have hs1 : w1.heap.size = w.heap.size + 2 := by rw [← hw1]; simp
  have hD1 : w1.heap[w.heap.size]? = some (.deferred (some [])) := by rw [← hw1]; exact (Below.heap_alloc _ _ _ (by simp)).trans (World.alloc_heap_new w _)
  have hl1 : w1.heap[w.heap.size + 1]? = some (.loop rec) := by
    rw [← hw1]; have := World.alloc_heap_new (w.alloc (.deferred (some []))) (.loop rec); rwa [World.size_alloc] at this
  -- the frame with its mark
  have hRm : Rel E s { a with defers := [mkD w.heap.size] ++ a.defers } w1 η := by
    have h1 := hR.grown hb1
    refine ⟨h1.sz, ?_, h1.tm, h1.ob, h1.ge, h1.sep, h1.bel, h1.pn⟩
    obtain ⟨Ds, d1, d2, d3⟩ := hR.df
    refine ⟨w.heap.size :: Ds, by simp [d1], List.nodup_cons.2 ⟨fun hm => ?_, d2⟩, fun D hm => ?_⟩
    · have := (Array.getElem?_eq_some_iff.1 (d3 _ hm).2.2).1; omega
    · rcases List.mem_cons.1 hm with rfl | hm
      · exact ⟨hR.bel.size, ⟨.inl hR.bel.size, fun k o hk e => by have := (hR.ge k o _ hk e).2; omega⟩, hD1⟩
      · obtain ⟨h2, h3, h4⟩ := d3 D hm
        exact ⟨h2, h3, by rw [hb1.block D (Array.getElem?_eq_some_iff.1 h4).1]; exact h4⟩
  -- the record is an object
  obtain ⟨η1, hη1⟩ : ∃ η1 : Nat → Value, η1 = fun k => if k = 9001 then .map (some (w.heap.size + 1)) else if k = 999 then .func (.yield (w.heap.size + 1)) #[] #[] else η k := ⟨_, rfl⟩
  have hks9 : ∀ k o, lh s.h k = some o → 1000 ≤ k ∧ k ≠ 9001 := fun k o hk => ⟨(keysK_lh hk1 hk).2, fun e => by rw [e, h9] at hk; cases hk⟩
  have hηl : ∀ k o, lh s.h k = some o → η1 k = η k := fun k o hk => by
    have := hks9 k o hk
    rw [hη1]; simp only
    rw [if_neg this.2, if_neg (by omega)]
  have hη9 : η1 9001 = .map (some (w.heap.size + 1)) := by rw [hη1]; simp
  have hη8 : η1 999 = .func (.yield (w.heap.size + 1)) #[] #[] := by rw [hη1]; simp
  have hηn : ∀ j, nkH s.h j = false → η1 j = η j := fun j hj => by
    unfold nkH at hj
    cases hh : lh s.h j with
    | none => rw [hh] at hj; cases hj
    | some o => exact hηl j o hh
  have hH : ∀ k o, lh ((9001, .mp (isL rec)) :: s.h) k = some o → (k = 9001 ∧ o = .mp (isL rec)) ∨ lh s.h k = some o := fun k o hk => by
    rw [lh9] at hk
    split at hk
    · rename_i e; cases hk; exact .inl ⟨e.symm, rfl⟩
    · exact .inr hk
  have hsub : Sub (Fr E s.h η) w (Fr E ((9001, .mp (isL rec)) :: s.h) η1) w1 := fun b o hb ho => by
    have hlt := (Array.getElem?_eq_some_iff.1 ho).1
    refine ⟨⟨hb.1, fun k o' hk e => ?_⟩, by rw [hb1.block b hlt]; exact ho⟩
    rcases hH k o' hk with ⟨rfl, _⟩ | hk
    · rw [hη9] at e; simp only [blk, Option.some.injEq] at e; omega
    · rw [hηl k o' hk] at e; exact hb.2 k o' hk e
  have hR1 : Rel E ⟨s.t, (9001, .mp (isL rec)) :: s.h⟩ { a with defers := [mkD w.heap.size] ++ a.defers } w1 η1 := by
    refine ⟨hRm.sz, ?_, fun i => RS.turn hηn _ _ (clT_lk hcl i) (RS.mono hsub _ _ (hR.tm i)), fun k o hk => ?_, fun k o g hk hg => ?_, fun k k' o o' hne hk hk' g hg hg' => ?_, hRm.bel, fun k v hk => ?_⟩
    · obtain ⟨Ds, d1, d2, d3⟩ := hRm.df
      refine ⟨Ds, d1, d2, fun D hm => ⟨(d3 D hm).1, ⟨(d3 D hm).2.1.1, fun k o hk e => ?_⟩, (d3 D hm).2.2⟩⟩
      rcases hH k o hk with ⟨rfl, _⟩ | hk
      · rw [hη9] at e
        simp only [blk, Option.some.injEq] at e
        have := (d3 D hm).2.2
        rw [← e, hl1] at this; cases this
      · rw [hηl k o hk] at e; exact (d3 D hm).2.1.2 k o hk e
    · rcases hH k o hk with ⟨rfl, rfl⟩ | hk
      · exact ⟨_, _, hη9, hl1, rfl⟩
      · refine ((hR.ob k o hk).turn hηn (hηl k o hk) (closedH_lh hclH hk)).mono hsub fun b ob hb ho => ?_
        rw [hb1.block b (Array.getElem?_eq_some_iff.1 ho).1]; exact ho
    · rcases hH k o hk with ⟨rfl, rfl⟩ | hk
      · rw [hη9] at hg
        simp only [blk, Option.some.injEq] at hg
        have := hR.bel.size
        exact ⟨.inl (by omega), by omega⟩
      · rw [hηl k o hk] at hg; exact hRm.ge k o g hk hg
    · rcases hH k o hk with ⟨rfl, rfl⟩ | hk <;> rcases hH k' o' hk' with ⟨rfl, rfl⟩ | hk'
      · exact hne rfl
      · rw [hη9] at hg
        rw [hηl k' o' hk'] at hg'
        simp only [blk, Option.some.injEq] at hg
        have := (hR.ge k' o' g hk' hg').2; omega
      · rw [hη9] at hg'
        rw [hηl k o hk] at hg
        simp only [blk, Option.some.injEq] at hg'
        have := (hR.ge k o g hk hg).2; omega
      · rw [hηl k o hk] at hg
        rw [hηl k' o' hk'] at hg'
        exact hR.sep k k' o o' hne hk hk' g hg hg'
    · rw [hη1]; simp only
      rw [if_neg (fun e => by rw [e, hp9] at hk; cases hk), if_neg (fun e => by rw [e, hp8] at hk; cases hk)]
      exact hR.pn k v hk
  -- the function's value
  have rf := opd hR hg hgc
  simp only [RS] at rf
  obtain ⟨cs, hv, rc⟩ := rf
  have hin9 : ∀ {H : Hp}, okH s.h H → okH ((9001, .mp (isL rec)) :: s.h) ((9001, .mp (isL rec)) :: H) := fun {H} ho => by
    have hn : lh H 9001 = none := by
      have := ho.key 9001
      rw [h9] at this
      cases hh : lh H 9001 with
      | none => rfl
      | some o => rw [hh] at this; cases this
    refine ⟨⟨by rw [lh9, if_pos rfl], inH_mono (fun k o hk => ?_) ho.inn⟩, fun j => ?_, ?_⟩
    · rw [lh9, if_neg]
      · exact hk
      · rintro rfl; rw [hn] at hk; cases hk
    · rw [lh9, lh9]; split
      · rfl
      · exact ho.key j
    · simp only [closedH, closedO, Bool.true_and]
      exact closed9 (fun j hj => by
        unfold nkH at hj ⊢
        rw [lh9] at hj
        split at hj
        · cases hj
        · exact hj) ho.cls
  have hinit := hin9 (hok 0 _ h0)
  have hF0 : SubC (Fr E s.h η) w (Fr E ((9001, .mp (isL rec)) :: s.h) η1) w1 := fun b cs ty fr hF hh => hsub b _ hF hh
  have hcall := C.2 (w.heap.size + 1) w1 (Fr E ((9001, .mp (isL rec)) :: s.h) η1) η1 ((9001, .mp (isL rec)) :: s.h) (fun k Ho => ∃ H', Ho = (9001, .mp (isL rec)) :: H' ∧ J k H') cs.toList hRm.hT (In.of hR1 hinit.inn)
    (fun k o hk => (hH k o hk).elim (fun h => by omega) fun hk => (hks9 k o hk).1) hη8 (RSL.turn (p := allH) (fun j e => by cases e) _ _ hc (RSL.mono hsub _ _ rc)) ⟨_, rfl, h0⟩
    (fun k Ho ⟨H', e, hj⟩ => by subst e; exact hin9 (hok k H' hj))
    (fun k Ho hk ⟨H', e, hj⟩ => by
      subst e
      have ho := hok k H' hj
      have hn : lh H' 9001 = none := by
        have := ho.key 9001
        rw [h9] at this
        cases hh : lh H' 9001 with
        | none => rfl
        | some o => rw [hh] at this; cases this
      refine YC_of E.Tm (n := E.n) (D := w.heap.size) (tmps := a.tmps) (t := s.t) (ks := ks) rec hrec hR.sz hps (hlen k) (fun i => hR1.tm i) (fun i => ?_) ?_ hn h9' (by omega) (fun j hj => by rw [ho.key j]; exact hal j hj) hη9 (fun R0 R1 E' h1 h2 h3 h4 => hb k H' _ R0 R1 E' hk hj h1 h2 h3 h4)
      · have := clT_lk hcl i
        rwa [show nkH H' = nkH s.h from funext fun j => by unfold nkH; have := ho.key j; cases h1 : lh H' j <;> cases h2 : lh s.h j <;> simp_all]
      · exact keysK_of ho.inn fun j o hj => by
          obtain ⟨o', ho'⟩ := Option.isSome_iff_exists.1 (by rw [← ho.key j, hj]; rfl : (lh s.h j).isSome = true)
          exact keysK_lh hks ho')
  refine ⟨w.heap.size + 1, [mkD w.heap.size], w1, { target := .fn (.func f) cs, args := #[.func (.yield (w.heap.size + 1)) #[] #[]] }, w1, f, (Value.func (.yield (w.heap.size + 1)) #[] #[] :: cs.toList).toArray, w1, ?_, ?_, fun _ _ => trivial, ?_, fun _ => by omega, callsIn_wide.2 (hcall.mono ?_)⟩
  · rw [← hw1, hrec]; exact run_enterLoop_outer _ _ _ _ _
  · simp only [resolve, hv, Deferred.ofValue, Sem.run_bind, Sem.run_pure, Result.andThen_ok]
    simp [go_sem]
  · have := C.1 (Value.func (.yield (w.heap.size + 1)) #[] #[] :: cs.toList).toArray w1
    simp only [invoke]
    rw [show (#[Value.func (.yield (w.heap.size + 1)) #[] #[]] ++ cs) = (Value.func (.yield (w.heap.size + 1)) #[] #[] :: cs.toList).toArray from by apply Array.ext'; simp]
    exact this
  · rintro e w2 ⟨⟨v, rfl⟩, Ho, η2, ⟨H', rfl, hj⟩, hO⟩
    have ho := hok len H' hj
    have ho9 := hin9 ho
    have hnk : ∀ k, newK ((9001, .mp (isL rec)) :: s.h) ((9001, .mp (isL rec)) :: H') k = false := fun k => by
      unfold newK
      have := ho9.key k
      cases h1 : lh ((9001, Obj'.mp (isL rec)) :: H') k <;> cases h2 : lh ((9001, Obj'.mp (isL rec)) :: s.h) k <;> simp_all
    obtain ⟨hR2, _, _⟩ := hO.rel hR1 hinit.inn (fun k hk => by rw [hnk k] at hk; cases hk)
    have hR3 : Rel E ⟨s.t, (9001, .mp (isL rec)) :: H'⟩ { a with defers := [mkD w.heap.size] ++ a.defers } w2 η2 := hR2.exts (fun i => by
      show lk s.t i = lk (killT (newK _ _) s.t) i
      rw [show newK ((9001, Obj'.mp (isL rec)) :: s.h) ((9001, Obj'.mp (isL rec)) :: H') = fun _ => false from funext hnk, killT_none]) (fun k => by
      show lh ((9001, Obj'.mp (isL rec)) :: H') k = lh (((9001, Obj'.mp (isL rec)) :: H') ++ killH (newK _ _) (touK _ _) ((9001, Obj'.mp (isL rec)) :: s.h)) k
      rw [lh_append]
      cases h1 : lh ((9001, Obj'.mp (isL rec)) :: H') k with
      | some o => rfl
      | none =>
        rw [Option.none_or, lh_killH]
        have : lh ((9001, Obj'.mp (isL rec)) :: s.h) k = none := by
          have := ho9.key k
          rw [h1] at this
          cases h2 : lh ((9001, Obj'.mp (isL rec)) :: s.h) k with
          | none => rfl
          | some o => rw [h2] at this; cases this
        rw [this]; split <;> rfl)
    have hη29 : η2 9001 = .map (some (w.heap.size + 1)) := by rw [(hO.pn 9001 _ (by rw [lh9, if_pos rfl])).1]; exact hη9
    obtain ⟨o3, hw3, ho3⟩ := ob_mp (hR3.ob 9001 _ (by rw [lh9, if_pos rfl])) hη29
    cases ho3
    refine ⟨none, _, by have := run_endLoop (P := E.P) hw3 (by rw [hrec]; simp); rw [hrec] at this; exact this, ?_⟩
    have hR4 := (hR3.reco (o := .loop { rec with state := .exhausted }) (fun _ => True) (by rw [lh9, if_pos rfl]) hη29 trivial).kill (k1 9001)
    rw [hrec] at hR4
    have hn : lh H' 9001 = none := by
      have := ho.key 9001
      rw [h9] at this
      cases hh : lh H' 9001 with
      | none => rfl
      | some o => rw [hh] at this; cases this
    refine ⟨⟨s.t, H'⟩, η2, hR4.exts (fun i => ?_) (fun k => ?_), hend H' hj⟩
    · show lk s.t i = lk (killT (k1 9001) s.t) i
      rw [lk_killT, if_neg]
      have := clT_lk hcl i
      rw [closed9.has_le (p := nkH s.h) (q := k1 9001) (fun j hj => by
        simp only [k1, beq_iff_eq] at hj
        subst hj
        unfold nkH; rw [h9]; rfl) _ this]
      simp
    · show lh H' k = lh (killH (k1 9001) (k1 9001) ((9001, Obj'.mp fun _ => True) :: dropH 9001 ((9001, Obj'.mp (isL rec)) :: H'))) k
      rw [lh_killH]
      by_cases e : k = 9001
      · subst e; simp [k1, hn]
      · rw [if_neg (by simp [k1]; exact e), lh9, if_neg (fun h => e h.symm), lh_dropH, if_neg e, lh9, if_neg (fun h => e h.symm)]
        cases hh : lh H' k with
        | none => rfl
        | some o =>
          simp only [Option.map_some, Option.some.injEq]
          have hc := closedH_lh ho.cls hh
          exact (killO_id hc fun j hj => by
            simp only [k1, beq_iff_eq] at hj
            subst hj
            unfold nkH; rw [hn]; rfl).symm
theorem key_cons {k : Nat} {o o' : Obj'} {A B : Hp} (h : ∀ j, (lh A j).isSome = (lh B j).isSome) : ∀ j, (lh ((k, o) :: A) j).isSome = (lh ((k, o') :: B) j).isSome := fun j => by
  simp only [lh]
  split
  · rfl
  · exact h j
theorem key_nil : ∀ j, (lh [] j).isSome = (lh [] j).isSome := fun _ => rfl
/-- a box that is only read from now on -/
theorem Le.fz {E : Env} {s : St} (i k : Nat) {ty : TypeId} {cs : List S} (ds : List D) (hi : lk s.t i = .ptr k 0) (hk : lh s.h k = some (.box ty cs)) (hd : cs = ds.map S.d) : Le E s ⟨(i, .fptr ds) :: (killS (k1 k) s).t, (killS (k1 k) s).h⟩ := fun a w η hR => by
  have h1 := hR.kill (k1 k)
  have hs := hR.kill_sub (k1 k)
  obtain ⟨g, vs, h2, h3, h4⟩ := hR.ob k _ hk
  have hv := hR.tm i
  rw [hi] at hv
  simp only [RS] at hv
  obtain ⟨g', e1, e2⟩ := hv
  rw [h2] at e1
  cases e1
  refine ⟨η, h1.sz, h1.df, fun j => ?_, h1.ob, h1.ge, h1.sep, h1.bel, h1.pn⟩
  show RS η _ w (lk ((i, .fptr ds) :: (killS (k1 k) s).t) j) _
  simp only [lk]
  split
  · rename_i e; subst e
    simp only [RS]
    refine ⟨⟨g, 0, none⟩, vs, ty, (0, 0), e2, rfl, ⟨?_, fun j o hj e => ?_⟩, h3, ?_⟩
    · rcases (hR.ge k _ g hk (by rw [h2]; rfl)).1 with h | h
      · exact .inl h
      · exact .inr (.inr h)
    · replace hj : lh (killH (k1 k) (k1 k) s.h) j = some o := hj
      rw [lh_killH] at hj
      split at hj
      · cases hj
      · rename_i hne
        cases hh : lh s.h j with
        | none => rw [hh] at hj; cases hj
        | some o' => exact hR.sep k j _ o' (fun e' => hne (by simp [k1, e'])) hk hh g (by rw [h2]; rfl) e
    · refine RdC.mono hs _ _ _ (RdC.of fun j d hj => ?_)
      obtain ⟨v, h5, h6⟩ := RSL_get (hd ▸ h4) j (.d d) (by simp [hj])
      exact ⟨v, by simpa using h5, by simpa only [RS] using h6⟩
  · exact h1.tm j
end Go.Proofs.YtgomeljgbjgbkaaDoor.Aw
