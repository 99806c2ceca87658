/- The abstract walk, and contracts of Go functions: each call returns what the Lean function named tells. Conditions: those that each theorem names, none else. -/
import Derived.Test.YtgomeljgbjgbkaaDoorZFieldReach6
set_option linter.unusedVariables false
set_option linter.unusedSimpArgs false
set_option maxRecDepth 100000
set_option maxHeartbeats 4000000
namespace Go.Proofs.YtgomeljgbjgbkaaDoor.Aw
open Go.RowKit
attribute [local go_sem_proc] Nat.reduceAdd Nat.reduceMul Nat.reduceSub Nat.reduceEqDiff Nat.reduceLeDiff Nat.reduceBEq Nat.reduceBNe Int.reduceToNat reduceIte reduceCtorEq
attribute [local go_sem] initT SQ so pe he ev lk constS stp stc gdS nth pickS pickD loadS cellsAt okAt fieldAddrS fieldS partS indexAddrS indexS extractS binS binD binI isShift unS convS lenS sliceS bndI bndC mmS mm2 mmD builtS fillS okCells cellsS splS solid aliveL alive okS boxS allocS makeS bsliceS elemsOf dcells stF storeS frzA frz frzT frzS frzL frzO frzH appS srcS appVC killS killT killC killH killO k1 k2 S.has S.hasL St.add St.upd dropH lh cond_or cond_and rw_intC rw_intC0 rw_set rw_app rw_apps rw_rep rw_slice wr64 cond_true cond_false true_and and_true List.map_cons List.map_nil List.length_cons List.length_nil List.drop_succ_cons List.drop_zero List.take_succ_cons List.take_zero List.nil_append List.cons_append List.getD_cons_zero List.getD_cons_succ List.headD_cons List.length_map ite_true ite_false if_true if_false Bool.false_eq_true and_self forall_const List.drop_nil List.take_nil List.append_nil Option.map_some Option.map_none List.mapM_cons List.mapM_nil Option.bind_eq_bind Option.bind_some Option.pure_def knows resL resV oneS freshS freshL cv cvL stpL stcL or_true true_or or_false false_or List.all_cons List.all_nil Bool.and_self Bool.or_self Bool.true_and Bool.and_true Bool.or_false Bool.false_or implies_true flatD allm_nil allm_cons List.getElem?_cons_zero List.getElem?_cons_succ Nd.cs Nd.ds ml mln Option.isSome_some Option.isSome_none eq_self Int.toNat_natCast AP ldOk isLd inL subL crt chg chgS chgP idxs aliveW Option.toList_some Option.toList_none Option.toList RetG Nd.win frzA offK keepH aliveK nkH closedH closedO keysK inH St.upd rowO List.contains_cons List.contains_nil Bool.or_self Option.isNone_none Option.isNone_some Bool.not_true Bool.not_false gcs rowN e0N frzC
attribute [local go_sem] sz2 ag2 ok2 kk2 iu2 zc2 zd2 by2 sz3 ag3 ok3 kk3 iu3 zc3 zd3 by3 sz4 ag4 ok4 bo4 zc4 zd4 by4 sz5 ag5 ok5 kk5 iu5 zc5 zd5 by5 sz9 ag9 ok9 st9 zc9 zd9 by9 sz12 ag12 ok12 kk12 iu12 zc12 zd12 by12 sz15 ag15 ok15 zc15 by15 sz16 ag16 ok16 zc16 by16 sz21 ag21 ok21 kk21 iu21 zc21 zd21 by21 sz22 ag22 ok22 sl22 zc22 zd22 by22 sz24 ag24 ok24 sl24 zc24 zd24 by24 sz25 ag25 ok25 zc25 zd25 pl25 by25 fl25_0 fl25_1 fl25_2 fl25_3 fl25_4 sz26 ag26 ok26 zc26 zd26 pl26 by26 fl26_0 fl26_1 fl26_2 fl26_3 fl26_4 sz30 ag30 ok30 sl30 ar30 zc30 zd30 pl30 by30 sz31 ag31 ok31 sl31 ar31 zc31 zd31 pl31 by31 sz32 ag32 ok32 sl32 zc32 zd32 by32 sz36 ag36 ok36 kk36 iu36 zc36 zd36 by36 sz37 ag37 ok37 zc37 zd37 pl37 by37 fl37_0 fl37_1 fl37_2 fl37_3 sz38 ag38 ok38 zc38 zd38 pl38 by38 fl38_0 fl38_1 fl38_2 fl38_3 sz40 ag40 ok40 sl40 zc40 zd40 by40 sz41 ag41 ok41 zc41 zd41 pl41 by41 fl41_0 fl41_1 sz42 ag42 ok42 zc42 zd42 pl42 by42 fl42_0 fl42_1 sz44 ag44 ok44 kk44 iu44 zc44 zd44 by44 sz49 ag49 ok49 zc49 zd49 pl49 by49 fl49_0 fl49_1 fl49_2 fl49_3 fl49_4 fl49_5 fl49_6 fl49_7 fl49_8 fl49_9 fl49_10 fl49_11 fl49_12 fl49_13 fl49_14 sz50 ag50 ok50 zc50 zd50 pl50 by50 fl50_0 fl50_1 fl50_2 fl50_3 fl50_4 fl50_5 fl50_6 fl50_7 fl50_8 fl50_9 fl50_10 fl50_11 fl50_12 fl50_13 fl50_14 sz55 ag55 ok55 zc55 zd55 pl55 by55 fl55_0 fl55_1 fl55_2 sz56 ag56 ok56 zc56 zd56 pl56 by56 fl56_0 fl56_1 fl56_2 sz65 ag65 ok65 sl65 zc65 zd65 by65 sz68 ag68 ok68 zc68 by68 sz81 ag81 ok81 zc81 zd81 pl81 by81 fl81_0 fl81_1 fl81_2 fl81_3 sz82 ag82 ok82 zc82 zd82 pl82 by82 fl82_0 fl82_1 fl82_2 fl82_3 sz87 ag87 ok87 zc87 by87 sz88 ag88 ok88 zc88 zd88 pl88 by88 fl88_0 fl88_1 fl88_2 sz89 ag89 ok89 zc89 zd89 pl89 by89 fl89_0 fl89_1 fl89_2 sz92 ag92 ok92 zc92 by92 sz93 ag93 ok93 zc93 zd93 pl93 by93 fl93_0 fl93_1 sz94 ag94 ok94 zc94 zd94 pl94 by94 fl94_0 fl94_1 sz98 ag98 ok98 zc98 zd98 pl98 by98 fl98_0 fl98_1 fl98_2 sz99 ag99 ok99 zc99 zd99 pl99 by99 fl99_0 fl99_1 fl99_2 sz112 ag112 ok112 sl112 ar112 zc112 zd112 pl112 by112 sz113 ag113 ok113 sl113 ar113 zc113 zd113 pl113 by113 sz124 ag124 ok124 zc124 zd124 pl124 by124 fl124_0 fl124_1 sz125 ag125 ok125 sl125 ar125 zc125 zd125 pl125 by125 sz126 ag126 ok126 zc126 by126 sz130 ag130 ok130 zc130 by130 sz132 ag132 ok132 zc132 zd132 pl132 by132 fl132_0 fl132_1 sz133 ag133 ok133 zc133 zd133 pl133 by133 fl133_0 fl133_1 sz151 ag151 ok151 kk151 iu151 zc151 zd151 by151 sz155 ag155 ok155 zc155 by155
section
attribute [local go_sem] PMade rtup frD insD
theorem FieldReach_c {T : World → Prop} (Tk : KT T) (l x0 x1 : List Int) (q0 q1 : Int) : Cg Go.Proofs.Tryd.prog T 4 [] [.d (.row [.i .i64 0] (l.map intC)), .agg [.d (.row [.i .i64 0] (x0.map intC)), .d (.row [.i .i64 0] (x1.map intC))], .agg [.d (.i .i64 q0), .d (.i .i64 q1)]] (fun r H => H = [] ∧ r = .d (.b true)) := by
  have h1 : 0 ≤ Go.bits .and .i64 q1 15 ∧ Go.bits .and .i64 q1 15 ≤ 15 := by
    rw [show Go.bits .and .i64 q1 15 = q1 % 16 from and_mask q1 4 (by decide)]
    omega
  have w1 : wrap64 (5 + Go.bits .and .i64 q1 15) = 5 + Go.bits .and .i64 q1 15 := w64 (by omega) (by omega)
  refine Cg_of [] Tk.m Go.Proofs.Tryd.func4 rfl rfl Go.Proofs.Tryd.ntmps4 (by simp) rfl (rs := [.tmp 6]) rfl fun E hP hn hT hpn => ?_
  (repeat (first | refine TS.imp ?_ | refine n9 (by decide) ?_))
  refine TR.imp ?_; intro K hK; simp only [go_sem, hP, hn]; (repeat refine vc ?_); refine hK _ ?_; clear K hK
  (repeat (first | refine TS.imp ?_ | refine n9 (by decide) ?_))
  refine TR.imp ?_; intro K hK; simp only [go_sem, hP, hn]
  (repeat refine vc ?_)
  refine CallN_cs (Hi := [] ) (by rw [hP, hT]; exact  awake19_c Tk) rfl rfl rfl trivial (by simp only [go_sem, hP, hn]; try trivial) (by simp only [go_sem, hP, hn]; try rfl) (by simp only [inH, go_sem, hP, hn]; try simp) (by rw [hn]; decide) ?_; simp only [go_sem, hP, hn]; (repeat refine vc ?_)
  refine hK _ ?_; clear K hK
  (repeat (first | refine TS.imp ?_ | refine n9 (by decide) ?_))
  refine TR.imp ?_; intro K hK; simp only [go_sem, hP, hn]
  (repeat refine vc ?_)
  refine CallN_cx (Hi := []) (by rw [hP, hT]; exact Made16_c Tk.m l ) rfl rfl rfl trivial (by simp only [go_sem, hP, hn]; try trivial) (by simp only [go_sem, hP, hn]; try rfl) trivial (by rw [hn]; decide) (fun r Ho hr => ?_); obtain  ⟨wd, lo, hi, out, ns, rfl, rfl, hG⟩ := hr; refine ⟨fun k _ => hpn k rfl, ?_⟩; simp only [cgS, newK, touK, go_sem, hP, hn]; (repeat refine vc ?_)
  refine hK _ ?_; clear K hK
  refine Tr.le (Le.freeze 2000) ?_
  simp only [go_sem, hP, hn]
  refine Tr.le (Le.keep [4, 5, 7, 8]) ?_; simp only [List.map_cons, List.map_nil, lk, Nat.reduceEqDiff, reduceIte]
  obtain ⟨W, R, rk, W2, R2, hF⟩ := hG.gf
  have hn0 := hF.n0
  have hrg := may_rng hF.may
  have cR := Reach_c Tk wd lo hi out ns _ _ _ (by omega) hF.inn hF.look hF.rl hF.ro
  rw [show ordL 0 (hiF ns R2) (order ns) (List.replicate (ns.length + 1) 0) = hiL ns R2 from rfl, show ordL 0 (loF ns R2) (order ns) (List.replicate (ns.length + 1) 0) = loL ns R2 from rfl] at cR
  have cL := Look_r Tk.m wd lo hi out ns (by omega) hF.inn
  rw [← look_same, hF.look] at cL
  have hl1 : (loL ns R2).length = ns.length + 1 := by unfold loL; rw [ordL_len]; simp
  have hl2 : (hiL ns R2).length = ns.length + 1 := by unfold hiL; rw [ordL_len]; simp
  have hrl := hF.rl
  (repeat (first | refine TS.imp ?_ | refine n9 (by decide) ?_))
  refine TR.imp ?_; intro K hK; simp only [w1, go_sem, hP, hn]; (repeat refine vc ?_); refine hK _ ?_; clear K hK
  (repeat (first | refine TS.imp ?_ | refine n9 (by decide) ?_))
  generalize hmy : 5 + Go.bits .and .i64 q1 15 = many at *
  have hm : 0 ≤ many ∧ many ≤ 1000 := by omega
  clear w1
  refine TR.imp ?_; intro K hK; simp only [go_sem, hP, hn]
  (repeat refine vc ?_)
  refine CallN_cx (Hi := []) (by rw [hP, hT]; exact Made18_c Tk.m wd lo hi out many ns x0 hrg.1 hrg.2.1 ⟨hrg.2.2.1, hrg.2.2.2.1⟩ hm ) rfl rfl rfl trivial (by simp only [go_sem, hP, hn]; try trivial) (by simp only [go_sem, hP, hn]; try rfl) trivial (by rw [hn]; decide) (fun r Ho hr => ?_); obtain  ⟨rfl, A, hA, rfl⟩ := hr; refine ⟨fun k _ => hpn k rfl, ?_⟩; simp only [cgS, newK, touK, go_sem, hP, hn]; (repeat refine vc ?_)
  refine hK _ ?_; clear K hK
  refine Tr.le (Le.keep [4, 5, 7, 8, 9, 10]) ?_; simp only [List.map_cons, List.map_nil, lk, Nat.reduceEqDiff, reduceIte]
  (repeat (first | refine TS.imp ?_ | refine n9 (by decide) ?_))
  refine TR.imp ?_; intro K hK; simp only [go_sem, hP, hn]
  (repeat refine vc ?_)
  refine CallN_cx (Hi := []) (by rw [hP, hT]; exact Made18_c Tk.m wd lo hi out many ns x1 hrg.1 hrg.2.1 ⟨hrg.2.2.1, hrg.2.2.2.1⟩ hm ) rfl rfl rfl trivial (by simp only [go_sem, hP, hn]; try trivial) (by simp only [go_sem, hP, hn]; try rfl) trivial (by rw [hn]; decide) (fun r Ho hr => ?_); obtain  ⟨rfl, B, hB, rfl⟩ := hr; refine ⟨fun k _ => hpn k rfl, ?_⟩; simp only [cgS, newK, touK, go_sem, hP, hn]; (repeat refine vc ?_)
  refine hK _ ?_; clear K hK
  refine Tr.le (Le.keep [5, 7, 8, 9, 10, 11]) ?_; simp only [List.map_cons, List.map_nil, lk, Nat.reduceEqDiff, reduceIte]
  (repeat (first | refine TS.imp ?_ | refine n9 (by decide) ?_))
  refine TR.imp ?_; intro K hK; simp only [go_sem, hP, hn]; (repeat refine vc ?_); refine hK _ ?_; clear K hK
  (repeat (first | refine TS.imp ?_ | refine n9 (by decide) ?_))
  have hidx : ∃ i : Int, wrap64 (1 + Int.tmod (wrap64 (Int.tmod q0 ns.length + ns.length)) ns.length) = i ∧ 1 ≤ i ∧ i ≤ ns.length := by
    have n1 : (0 : Int) < ns.length := by omega
    have h2 := Int.lt_tmod_of_pos q0 n1
    have h3 := Int.tmod_lt_of_pos q0 n1
    rw [w64 (x := Int.tmod q0 ns.length + ns.length) (by omega) (by omega)]
    have h4 := Int.tmod_nonneg (ns.length : Int) (show 0 ≤ Int.tmod q0 ns.length + ns.length by omega)
    have h5 := Int.tmod_lt_of_pos (Int.tmod q0 ns.length + ns.length) n1
    rw [w64 (by omega) (by omega)]
    exact ⟨_, rfl, by omega, by omega⟩
  obtain ⟨i, hi, i1, i2⟩ := hidx
  have n1 : (ns.length : Int) ≠ 0 := by omega
  refine Tr.le (Le.keep [5, 7, 8, 9, 10, 11, 12]) ?_; simp only [List.map_cons, List.map_nil, lk, Nat.reduceEqDiff, reduceIte]
  (repeat (first | refine TS.imp ?_ | refine n9 (by decide) ?_))
  refine TR.imp ?_; intro K hK; simp only [hi, go_sem, hP, hn]; (repeat refine vc ?_); refine hK _ ?_; clear K hK
  clear hi n1
  refine Tr.le (Le.keep [5, 7, 8, 9, 10, 11, 12, 13]) ?_; simp only [List.map_cons, List.map_nil, lk, Nat.reduceEqDiff, reduceIte]
  (repeat (first | refine TS.imp ?_ | refine n9 (by decide) ?_))
  refine TR.imp ?_; intro K hK; simp only [go_sem, hP, hn]
  (repeat refine vc ?_)
  refine CallN_cs (Hi := [] ) (by rw [hP, hT]; exact  cR) rfl rfl rfl trivial (by simp only [go_sem, hP, hn]; try trivial) (by simp only [go_sem, hP, hn]; try rfl) (by simp only [inH, go_sem, hP, hn]; try simp) (by rw [hn]; decide) ?_; simp only [go_sem, hP, hn]; (repeat refine vc ?_)
  refine hK _ ?_; clear K hK
  refine Tr.le (Le.keep [5, 7, 8, 9, 10, 11, 12, 13, 14, 15]) ?_; simp only [List.map_cons, List.map_nil, lk, Nat.reduceEqDiff, reduceIte]
  (repeat (first | refine TS.imp ?_ | refine n9 (by decide) ?_))
  refine TR.imp ?_; intro K hK; simp only [go_sem, hP, hn]
  (repeat refine vc ?_)
  refine CallN_cs (Hi := [] ) (by rw [hP, hT]; exact  cL) rfl rfl rfl trivial (by simp only [go_sem, hP, hn]; try trivial) (by simp only [go_sem, hP, hn]; try rfl) (by simp only [inH, go_sem, hP, hn]; try simp) (by rw [hn]; decide) ?_; simp only [go_sem, hP, hn]; (repeat refine vc ?_)
  refine hK _ ?_; clear K hK
  refine Tr.le (Le.keep [5, 7, 8, 9, 10, 11, 12, 13, 14, 15, 16]) ?_; simp only [List.map_cons, List.map_nil, lk, Nat.reduceEqDiff, reduceIte]
  have cA := Streams_g Tk.m hF hA hm
  have hsl := strL_len ns W2 A
  (repeat (first | refine TS.imp ?_ | refine n9 (by decide) ?_))
  refine TR.imp ?_; intro K hK; simp only [go_sem, hP, hn]
  (repeat refine vc ?_)
  refine CallN_cs (Hi := [] ) (by rw [hP, hT]; exact  cA) rfl rfl rfl trivial (by simp only [go_sem, hP, hn]; try trivial) (by simp only [go_sem, hP, hn]; try rfl) (by simp only [inH, go_sem, hP, hn]; try simp) (by rw [hn]; decide) ?_; simp only [go_sem, hP, hn]; (repeat refine vc ?_)
  refine hK _ ?_; clear K hK
  refine Tr.le (Le.keep [5, 7, 8, 9, 10, 11, 12, 13, 14, 15, 16, 17]) ?_; simp only [List.map_cons, List.map_nil, lk, Nat.reduceEqDiff, reduceIte]
  (repeat (first | refine TS.imp ?_ | refine n9 (by decide) ?_))
  refine TR.imp ?_; intro K hK; simp only [go_sem, hP, hn]; (repeat refine vc ?_); refine hK _ ?_; clear K hK
  (repeat (first | refine TS.imp ?_ | refine n9 (by decide) ?_))
  refine Tr.cond rfl (fun hb => ?_) (fun hb => ?_)
  · rw [hl1, hl2, w64 (x := (ns.length : Int) + 1) (by omega) (by omega)] at hb
    simp at hb
  clear hb
  have hix : i.toNat < (strL ns W2 A).length := by omega
  have hix2 : i < (strL ns W2 A).length := by omega
  have hri := rw_ins (strL ns W2 A) i (by omega) hix2
  have i0 : 0 ≤ i := by omega
  have i3 : i < R2.length := by omega
  have i4 : i < (loL ns R2).length := by omega
  have i5 : i < (hiL ns R2).length := by omega
  (repeat (first | refine TS.imp ?_ | refine n9 (by decide) ?_))
  refine TR.imp ?_; intro K hK; simp only [go_sem, hP, hn]
  rw [hri]
  simp only [go_sem, hP, hn]
  simp only [i0, i3, hix, hix2, and_self, true_and, List.length_map]
  (repeat refine vc ?_)
  refine hK _ ?_; clear K hK
  refine Tr.le (Le.keep [5, 7, 8, 9, 10, 11, 12, 13, 14, 15, 16, 17, 88]) ?_; simp only [List.map_cons, List.map_nil, lk, Nat.reduceEqDiff, reduceIte]
  (repeat (first | refine TS.imp ?_ | refine n9 (by decide) ?_))
  refine Tr.cond rfl (fun hb => ?_) (fun hb => ?_)
  · (repeat (first | (refine TR.imp ?_; intro K hK; simp only [go_sem, hP, hn]; (repeat refine vc ?_); refine hK _ ?_; clear K hK) | refine TS.imp ?_ | refine n9 (by decide) ?_))
    simp only [RetG, go_sem]; (repeat with_reducible refine vc ?_)
  have hb2 : rd R2 i ≠ 0 ∧ (inF (strL ns W2 A) i).length ≠ 0 := by
    simp only [Bool.or_eq_false_iff, beq_eq_false_iff_ne] at hb
    exact ⟨hb.1, by omega⟩
  clear hb
  (repeat (first | refine TS.imp ?_ | refine n9 (by decide) ?_))
  refine Tr.le (Le.keep [5, 7, 8, 9, 10, 11, 13, 14, 15, 16, 17]) ?_; simp only [List.map_cons, List.map_nil, lk, Nat.reduceEqDiff, reduceIte]
  (repeat (first | refine TS.imp ?_ | refine n9 (by decide) ?_))
  have hkx : ∃ k : Int, Int.tmod (Go.bits .and .i64 (q1.fdiv (2 ^ min 4 64)) 31) ((inF (strL ns W2 A) i).length : Int) = k ∧ 0 ≤ k ∧ k < (inF (strL ns W2 A) i).length ∧ k ≤ 31 := by
    rw [show Go.bits .and .i64 (q1.fdiv (2 ^ min 4 64)) 31 = (q1.fdiv (2 ^ min 4 64)) % 32 from and_mask _ 5 (by decide)]
    have e1 := Int.emod_nonneg (q1.fdiv (2 ^ min 4 64)) (show (32 : Int) ≠ 0 by decide)
    have e2 := Int.emod_lt_of_pos (q1.fdiv (2 ^ min 4 64)) (show (0 : Int) < 32 by decide)
    generalize (q1.fdiv (2 ^ min 4 64)) % 32 = y at *
    have n1 : (0 : Int) < (inF (strL ns W2 A) i).length := by omega
    have h4 := Int.tmod_nonneg ((inF (strL ns W2 A) i).length : Int) e1
    have h5 := Int.tmod_lt_of_pos y n1
    have h6 : Int.tmod y ((inF (strL ns W2 A) i).length : Int) ≤ y := by
      rw [Int.tmod_eq_emod_of_nonneg e1]
      rcases Int.lt_or_le y ((inF (strL ns W2 A) i).length : Int) with hy | hy
      · rw [Int.emod_eq_of_lt e1 hy]; omega
      · have := Int.emod_lt_of_pos y n1; omega
    exact ⟨_, rfl, h4, h5, by omega⟩
  obtain ⟨k, hk, k0, k1, k31⟩ := hkx
  have hnz : ((inF (strL ns W2 A) i).length : Int) ≠ 0 := by omega
  (first | refine d1 (.p true 0 (.p true 1 (.p true 2 (.p true 3 (.p true 4 (.p true 5 (.p true 6 (.p true 7 (.p true 8 (.p true 9 (.p true 10 .nil))))))))))) [] (by rw [hP]; kernel_rfl) (by kernel_rfl) (by simp only [go_sem, hP, hn]; try simp) (fun _ _ h => h) fun K hK => ?_ | refine d2 (.p true 0 (.p true 1 (.p true 2 (.p true 3 (.p true 4 (.p true 5 (.p true 6 (.p true 7 (.p true 8 (.p true 9 (.p true 10 .nil))))))))))) [] (by rw [hP]; kernel_rfl) (by kernel_rfl) (by simp only [go_sem, hP, hn]; try simp) (fun _ _ h => h) fun K hK => ?_ | refine d4 (.p true 0 (.p true 1 (.p true 2 (.p true 3 (.p true 4 (.p true 5 (.p true 6 (.p true 7 (.p true 8 (.p true 9 (.p true 10 .nil))))))))))) [] (by rw [hP]; kernel_rfl) (by kernel_rfl) (by simp only [go_sem, hP, hn]; try simp) (fun _ _ h => h) fun K hK => ?_); simp only [go_sem, hP, hn]
  rw [hri]
  simp only [go_sem, hP, hn]
  rw [hk]
  simp only [i0, i3, hix, hix2, hnz, and_self, true_and, List.length_map]
  (repeat (refine ⟨by first | trivial | omega, ?_⟩))
  refine hK _ ?_; clear K hK
  refine Tr.le (Le.keep [7, 8, 9, 10, 11, 13, 14, 15, 16, 17, 18]) ?_; simp only [List.map_cons, List.map_nil, lk, Nat.reduceEqDiff, reduceIte]
  (repeat (first | refine TS.imp ?_ | refine n9 (by decide) ?_))
  refine TR.imp ?_; intro K hK; simp only [go_sem, hP, hn]; (repeat refine vc ?_); refine hK _ ?_; clear K hK
  (repeat (first | refine TS.imp ?_ | refine n9 (by decide) ?_))
  refine TR.imp ?_; intro K hK; simp only [go_sem, hP, hn]; (repeat refine vc ?_); refine hK _ ?_; clear K hK
  (repeat (first | refine TS.imp ?_ | refine n9 (by decide) ?_))
  have hmx := hF.mixed hm hA hB i1 i2 hb2.1 k0
  have hwt := (hF.wants (N := 0) (by omega) i i0 i2)
  have hr0 := hwt.1
  have hh0 := hwt.2.1 (by omega)
  have hlM := hmx.2.2
  have m1 := mul_le k 31 (rd R2 i) 531441 k0 k31 hr0.1 hr0.2
  have w2 : wrap64 (k * rd R2 i) = k * rd R2 i := w64 (by omega) (by omega)
  have w3 : wrap64 (k * rd R2 i + rd (loL ns R2) i) = k * rd R2 i + rd (loL ns R2) i := w64 (by omega) (by omega)
  have w4 : wrap64 (k * rd R2 i + rd (hiL ns R2) i) = k * rd R2 i + rd (hiL ns R2) i := w64 (by omega) (by omega)
  have hAl := hA.len
  have hBl := hB.len
  have hM := mixF_fin hA hB (k * rd R2 i + rd (loL ns R2) i) (k * rd R2 i + rd (hiL ns R2) i)
  have cM := Streams_g Tk.m hF hM hm
  clear hwt hlM m1 hmy
  generalize hlw : k * rd R2 i + rd (loL ns R2) i = lw at *
  generalize hhw : k * rd R2 i + rd (hiL ns R2) i = hw at *
  refine Tr.le (Le.nilslot 3019 19 22 [.nil] rfl (by rw [hpn] <;> rfl) rfl rfl) ?_
  simp only [go_sem, hP, hn]
  refine Tr.loop (fun q s => ∃ (t : Int), s = ⟨[(7, .d (.b true)), (8, .ptr 8 0), (9, .d (.i .i64 many)), (10, .d (frD A)), (11, .d (frD B)), (13, .d (.i .i64 i)), (14, .d (.row [.i .i64 0] ((loL ns R2).map intC))), (15, .d (.row [.i .i64 0] ((hiL ns R2).map intC))), (16, .d (.row [.i .i64 0] (R2.map intC))), (17, .d (insD (strL ns W2 A))), (18, .d (.i .i64 k)), (19, .own 3019), (20, .d (.i .i64 t))], [(8, .box 26 (gcs wd lo hi out (.d (rowN ns)))), (3019, .row 22 [.nil] ((mixF A B lw hw t.toNat).map frE))]⟩ ∧ 0 ≤ t ∧ t + q = many) many.toNat ⟨_, ?_, 0, rfl, by omega, by omega⟩ ?_
  · exact (Le.mv (by simp only [go_sem, hP, hn]; first | done | (simp; done) | (simp [intC]; done) | (repeat (first | rfl | constructor))) (by simp only [go_sem, hP, hn]; first | done | (simp; done) | (simp [intC]; done) | (repeat (first | rfl | constructor))))
  rintro q s ⟨t, rfl, t0, tq⟩
  (repeat (first | refine TS.imp ?_ | refine n9 (by decide) ?_))
  refine TR.imp ?_; intro K hK; simp only [go_sem, hP, hn]; (repeat refine vc ?_); refine hK _ ?_; clear K hK
  (repeat (first | refine TS.imp ?_ | refine n9 (by decide) ?_))
  refine Tr.cond rfl (fun hb => ?_) (fun hb => ?_)
  · have ht1 : t < many := of_decide_eq_true hb
    clear hb
    have hms := mixF_succ A B lw hw t.toNat
    rw [Int.toNat_of_nonneg t0] at hms
    have hml := mixF_len A B lw hw t.toNat
    have ra := rw_fr A t t0 (by omega)
    have rb := rw_fr B t t0 (by omega)
    have t1 : t < A.length := by omega
    have t2 : t < B.length := by omega
    have w5 : wrap64 (t + 1) = t + 1 := w64 (by omega) (by omega)
    (repeat (first | refine TS.imp ?_ | refine n9 (by decide) ?_))
    (first | refine d1 (.p true 0 (.p true 1 (.p true 2 (.p true 3 (.p true 4 (.p true 5 (.p true 6 (.p true 7 (.p true 8 (.p true 9 (.p true 10 (.p true 11 (.p true 12 (.p true 13 (.p true 14 (.p true 15 (.p true 16 (.p true 17 (.p true 18 (.p true 19 (.p true 20 (.p true 21 (.p true 22 (.p true 23 (.p true 24 (.p true 25 (.p true 26 (.p true 27 .nil)))))))))))))))))))))))))))) [] (by rw [hP]; kernel_rfl) (by kernel_rfl) (by simp only [go_sem, hP, hn]; try simp) (fun _ _ h => h) fun K hK => ?_ | refine d2 (.p true 0 (.p true 1 (.p true 2 (.p true 3 (.p true 4 (.p true 5 (.p true 6 (.p true 7 (.p true 8 (.p true 9 (.p true 10 (.p true 11 (.p true 12 (.p true 13 (.p true 14 (.p true 15 (.p true 16 (.p true 17 (.p true 18 (.p true 19 (.p true 20 (.p true 21 (.p true 22 (.p true 23 (.p true 24 (.p true 25 (.p true 26 (.p true 27 .nil)))))))))))))))))))))))))))) [] (by rw [hP]; kernel_rfl) (by kernel_rfl) (by simp only [go_sem, hP, hn]; try simp) (fun _ _ h => h) fun K hK => ?_ | refine d4 (.p true 0 (.p true 1 (.p true 2 (.p true 3 (.p true 4 (.p true 5 (.p true 6 (.p true 7 (.p true 8 (.p true 9 (.p true 10 (.p true 11 (.p true 12 (.p true 13 (.p true 14 (.p true 15 (.p true 16 (.p true 17 (.p true 18 (.p true 19 (.p true 20 (.p true 21 (.p true 22 (.p true 23 (.p true 24 (.p true 25 (.p true 26 (.p true 27 .nil)))))))))))))))))))))))))))) [] (by rw [hP]; kernel_rfl) (by kernel_rfl) (by simp only [go_sem, hP, hn]; try simp) (fun _ _ h => h) fun K hK => ?_); simp only [go_sem, hP, hn]
    simp only [w2, hlw, hhw, w3, w4, i0, i3, i4, i5, and_self, true_and, Nat.reduceLT]
    (repeat refine vc ?_)
    refine hK _ ?_; clear K hK
    refine Tr.le (Le.keep [7, 8, 9, 10, 11, 13, 14, 15, 16, 17, 18, 19, 20, 132]) ?_; simp only [List.map_cons, List.map_nil, lk, Nat.reduceEqDiff, reduceIte]
    (repeat (first | refine TS.imp ?_ | refine n9 (by decide) ?_))
    refine Tr.cond rfl (fun hc => ?_) (fun hc => ?_)
    · have hc1 : lw ≤ t ∧ t ≤ hw := by
        simp only [Bool.and_eq_true, Bool.and_eq_false_iff, decide_eq_true_eq, decide_eq_false_iff_not] at hc
        omega
      rw [if_pos hc1] at hms
      (repeat (first | refine TS.imp ?_ | refine n9 (by decide) ?_))
      refine TR.imp ?_; intro K hK; simp only [ra, go_sem, hP, hn]
      (repeat refine vc ?_)
      refine hK _ ?_; clear K hK
      (repeat (first | refine TS.imp ?_ | refine n9 (by decide) ?_))
      refine TR.imp ?_; intro K hK; simp only [w5, go_sem, hP, hn]; (repeat refine vc ?_); refine hK _ ?_; clear K hK
      (repeat (first | refine TS.imp ?_ | refine n9 (by decide) ?_))
      refine ⟨q - 1, _, by omega, ?_, t + 1, rfl, by omega, by omega⟩
      rw [show (t + 1).toNat = t.toNat + 1 by omega, hms]
      refine Le.trans (b := ⟨[(7, .d (.b true)), (8, .ptr 8 0), (9, .d (.i .i64 many)), (10, .d (frD A)), (11, .d (frD B)), (13, .d (.i .i64 i)), (14, .d (.row [.i .i64 0] ((loL ns R2).map intC))), (15, .d (.row [.i .i64 0] ((hiL ns R2).map intC))), (16, .d (.row [.i .i64 0] (R2.map intC))), (17, .d (insD (strL ns W2 A))), (18, .d (.i .i64 k)), (19, .own 139), (20, .d (.i .i64 (t + 1)))], [(8, .box 26 (gcs wd lo hi out (.d (rowN ns)))), (139, .row 22 [.nil] ((mixF A B lw hw t.toNat ++ [fr A t]).map frE))]⟩) ?_ ?_
      · rw [List.map_append (l₁ := mixF A B lw hw t.toNat)]
        exact (Le.mv (by simp only [go_sem, hP, hn]; first | done | (simp; done) | (simp [intC]; done) | (repeat (first | rfl | constructor))) (by simp only [go_sem, hP, hn]; first | done | (simp; done) | (simp [intC]; done) | (repeat (first | rfl | constructor))))
      refine Le.trans (Le.ren 139 3019 (by rw [hpn] <;> rfl) rfl rfl) ?_; simp only [renT, renH, renO, renS, renL, rn, go_sem, hP, hn]
      exact Le.refl _
    · have hc1 : ¬ (lw ≤ t ∧ t ≤ hw) := by
        simp only [Bool.and_eq_true, Bool.and_eq_false_iff, decide_eq_true_eq, decide_eq_false_iff_not] at hc
        omega
      rw [if_neg hc1] at hms
      (repeat (first | refine TS.imp ?_ | refine n9 (by decide) ?_))
      refine TR.imp ?_; intro K hK; simp only [rb, go_sem, hP, hn]
      (repeat refine vc ?_)
      refine hK _ ?_; clear K hK
      (repeat (first | refine TS.imp ?_ | refine n9 (by decide) ?_))
      refine TR.imp ?_; intro K hK; simp only [w5, go_sem, hP, hn]; (repeat refine vc ?_); refine hK _ ?_; clear K hK
      (repeat (first | refine TS.imp ?_ | refine n9 (by decide) ?_))
      refine ⟨q - 1, _, by omega, ?_, t + 1, rfl, by omega, by omega⟩
      rw [show (t + 1).toNat = t.toNat + 1 by omega, hms]
      refine Le.trans (b := ⟨[(7, .d (.b true)), (8, .ptr 8 0), (9, .d (.i .i64 many)), (10, .d (frD A)), (11, .d (frD B)), (13, .d (.i .i64 i)), (14, .d (.row [.i .i64 0] ((loL ns R2).map intC))), (15, .d (.row [.i .i64 0] ((hiL ns R2).map intC))), (16, .d (.row [.i .i64 0] (R2.map intC))), (17, .d (insD (strL ns W2 A))), (18, .d (.i .i64 k)), (19, .own 146), (20, .d (.i .i64 (t + 1)))], [(8, .box 26 (gcs wd lo hi out (.d (rowN ns)))), (146, .row 22 [.nil] ((mixF A B lw hw t.toNat ++ [fr B t]).map frE))]⟩) ?_ ?_
      · rw [List.map_append (l₁ := mixF A B lw hw t.toNat)]
        exact (Le.mv (by simp only [go_sem, hP, hn]; first | done | (simp; done) | (simp [intC]; done) | (repeat (first | rfl | constructor))) (by simp only [go_sem, hP, hn]; first | done | (simp; done) | (simp [intC]; done) | (repeat (first | rfl | constructor))))
      refine Le.trans (Le.ren 146 3019 (by rw [hpn] <;> rfl) rfl rfl) ?_; simp only [renT, renH, renO, renS, renL, rn, go_sem, hP, hn]
      exact Le.refl _
  have ht : t = many := by have := of_decide_eq_false hb; omega
  subst ht
  clear hb
  refine Tr.le (Le.freeze 3019) ?_
  simp only [go_sem, hP, hn]
  (repeat (first | refine TS.imp ?_ | refine n9 (by decide) ?_))
  refine TR.imp ?_; intro K hK; simp only [go_sem, hP, hn]
  (repeat refine vc ?_)
  refine CallN_cs (Hi := [] ) (by rw [hP, hT]; exact  cM) rfl rfl rfl trivial (by simp only [go_sem, hP, hn]; try trivial) (by simp only [go_sem, hP, hn]; try rfl) (by simp only [inH, go_sem, hP, hn]; try simp) (by rw [hn]; decide) ?_; simp only [go_sem, hP, hn]; (repeat refine vc ?_)
  refine hK _ ?_; clear K hK
  refine Tr.le (Le.keep [7, 13, 17, 18, 21]) ?_; simp only [List.map_cons, List.map_nil, lk, Nat.reduceEqDiff, reduceIte]
  have sgA := hF.strL_sg hA hm 12 i i0 i2 (hF.rank i i0 i2)
  have hWi := (hF.gg.node i i1 i2).1
  have hm2 := hmx.1
  have hm3 := hmx.2.1
  have hmsl := strL_len ns W2 (mixF A B lw hw t.toNat)
  have hsl2 := strL_len ns W2 A
  have hriM := rw_ins (strL ns W2 (mixF A B lw hw t.toNat)) i i0 (by omega)
  have j1 : i < (strL ns W2 (mixF A B lw hw t.toNat)).length := by omega
  have hFl : (fr (inF (strL ns W2 A) i) k).length ≤ 4096 := by
    have e1 := sgA.wid _ (fr_mem (fs := inF (strL ns W2 A) i) k0 k1)
    have e2 := hWi.wd
    have e3 := (rwide_range (nd ns (i - 1)) ((nd ns (i - 1)).inn.map W)).2
    omega
  generalize strL ns W2 (mixF A B lw hw t.toNat) = OM at *
  generalize strL ns W2 A = OA at *
  have rkA := rw_fr (inF OA i) k k0 k1
  have rkM := rw_fr (inF OM i) k k0 (by omega)
  have k2 : k < (inF OM i).length := by omega
  (repeat (first | refine TS.imp ?_ | refine n9 (by decide) ?_))
  (first | refine d1 (.p true 0 (.p true 1 (.p true 2 (.p true 3 (.p true 4 (.p true 5 (.p true 6 (.p true 7 (.p true 8 (.p true 9 (.p true 10 (.p true 11 (.p true 12 (.p true 13 (.p true 14 (.p true 15 (.p true 16 (.p true 17 (.p true 18 (.p true 19 (.p true 20 (.p true 21 (.alt 22 (.p false 23 (.p false 24 .nil)) .nil))))))))))))))))))))))) [] (by rw [hP]; kernel_rfl) (by kernel_rfl) (by simp only [go_sem, hP, hn]; try simp) (fun _ _ h => h) fun K hK => ?_ | refine d2 (.p true 0 (.p true 1 (.p true 2 (.p true 3 (.p true 4 (.p true 5 (.p true 6 (.p true 7 (.p true 8 (.p true 9 (.p true 10 (.p true 11 (.p true 12 (.p true 13 (.p true 14 (.p true 15 (.p true 16 (.p true 17 (.p true 18 (.p true 19 (.p true 20 (.p true 21 (.alt 22 (.p false 23 (.p false 24 .nil)) .nil))))))))))))))))))))))) [] (by rw [hP]; kernel_rfl) (by kernel_rfl) (by simp only [go_sem, hP, hn]; try simp) (fun _ _ h => h) fun K hK => ?_ | refine d4 (.p true 0 (.p true 1 (.p true 2 (.p true 3 (.p true 4 (.p true 5 (.p true 6 (.p true 7 (.p true 8 (.p true 9 (.p true 10 (.p true 11 (.p true 12 (.p true 13 (.p true 14 (.p true 15 (.p true 16 (.p true 17 (.p true 18 (.p true 19 (.p true 20 (.p true 21 (.alt 22 (.p false 23 (.p false 24 .nil)) .nil))))))))))))))))))))))) [] (by rw [hP]; kernel_rfl) (by kernel_rfl) (by simp only [go_sem, hP, hn]; try simp) (fun _ _ h => h) fun K hK => ?_); simp only [go_sem, hP, hn]
  rw [hri, hriM]
  simp only [go_sem, hP, hn]
  rw [rkA, rkM]
  simp only [go_sem, hP, hn]
  have dk : decide (k < ((inF OM i).length : Int)) = true := decide_eq_true k2
  simp only [dk, i0, i3, j1, hix2, k0, k1, k2, and_self, true_and, List.length_map, beq_self_eq_true, Nat.reduceLT, forall_const]
  (repeat refine vc ?_)
  refine p2 (fun hg => by rw [hP, hT]; exact Same_c Tk.m (fr (inF OM i) k) (fr (inF OA i) k) (by rw [hm3]; exact hFl)) rfl rfl rfl (fun hg => trivial) (fun hg => by simp only [go_sem, hP, hn]; first | trivial | simp) (fun hg => by simp only [go_sem, hP, hn]; try rfl) (by rw [hn]; decide) (by rfl) ?_
  simp only [go_sem, hP, hn]
  rw [hm3]
  simp only [decide_true, Bool.and_self, beq_self_eq_true, forall_const, true_and, and_true]
  refine hK _ ?_; clear K hK
  refine Tr.le (Le.keep [7, 22]) ?_; simp only [List.map_cons, List.map_nil, lk, Nat.reduceEqDiff, reduceIte]
  (repeat (first | (refine TR.imp ?_; intro K hK; simp only [go_sem, hP, hn]; (repeat refine vc ?_); refine hK _ ?_; clear K hK) | refine TS.imp ?_ | refine n9 (by decide) ?_))
  simp only [RetG, go_sem]; (repeat with_reducible refine vc ?_)
end
end Go.Proofs.YtgomeljgbjgbkaaDoor.Aw
