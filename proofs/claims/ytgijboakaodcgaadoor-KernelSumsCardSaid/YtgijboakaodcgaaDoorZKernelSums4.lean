/- The abstract walk, and contracts of Go functions: each call returns what the Lean function named tells. Conditions: those that each theorem names, none else. -/
import Derived.Test.YtgijboakaodcgaaDoorZKernelSums3
set_option linter.unusedVariables false
set_option linter.unusedSimpArgs false
set_option maxRecDepth 100000
set_option linter.unusedSectionVars false
set_option maxHeartbeats 4000000
namespace Go.Proofs.YtgijboakaodcgaaDoor.Aw
open Go.RowKit
attribute [local go_sem_proc] Nat.reduceAdd Nat.reduceMul Nat.reduceSub Nat.reduceEqDiff Nat.reduceLeDiff Nat.reduceBEq Nat.reduceBNe Int.reduceToNat reduceIte reduceCtorEq
attribute [local go_sem] initT SQ so pe he ev lk constS stp stc gdS nth pickS pickD loadS cellsAt okAt fieldAddrS fieldS partS indexAddrS indexS extractS binS binD binI isShift unS convS lenS sliceS bndI bndC mmS mm2 mmD builtS fillS okCells cellsS splS solid aliveL alive okS boxS allocS makeS bsliceS elemsOf dcells stF storeS frzA frz frzT frzS frzL frzO frzH appS srcS appVC killS killT killC killH killO k1 k2 S.has S.hasL St.add St.upd dropH lh cond_or cond_and rw_intC rw_intC0 rw_set rw_app rw_apps rw_rep rw_slice wr64 cond_true cond_false true_and and_true List.map_cons List.map_nil List.length_cons List.length_nil List.drop_succ_cons List.drop_zero List.take_succ_cons List.take_zero List.nil_append List.cons_append List.getD_cons_zero List.getD_cons_succ List.headD_cons List.length_map ite_true ite_false if_true if_false Bool.false_eq_true and_self forall_const List.drop_nil List.take_nil List.append_nil Option.map_some Option.map_none List.mapM_cons List.mapM_nil Option.bind_eq_bind Option.bind_some Option.pure_def knows resL resV oneS freshS freshL cv cvL stpL stcL or_true true_or or_false false_or List.all_cons List.all_nil Bool.and_self Bool.or_self Bool.true_and Bool.and_true Bool.or_false Bool.false_or implies_true flatD allm_nil allm_cons List.getElem?_cons_zero List.getElem?_cons_succ Nd.cs Nd.ds ml mln Option.isSome_some Option.isSome_none eq_self Int.toNat_natCast AP ldOk isLd inL subL crt chg chgS chgP idxs aliveW Option.toList_some Option.toList_none Option.toList RetG Nd.win frzA offK keepH aliveK nkH closedH closedO keysK inH St.upd rowO List.contains_cons List.contains_nil Bool.or_self Option.isNone_none Option.isNone_some Bool.not_true Bool.not_false gcs rowN e0N frzC
attribute [local go_sem] sz2 ag2 ok2 kk2 iu2 zc2 zd2 by2 sz3 ag3 ok3 kk3 iu3 zc3 zd3 by3 sz4 ag4 ok4 bo4 zc4 zd4 by4 sz5 ag5 ok5 kk5 iu5 zc5 zd5 by5 sz9 ag9 ok9 st9 zc9 zd9 by9 sz12 ag12 ok12 kk12 iu12 zc12 zd12 by12 sz15 ag15 ok15 zc15 by15 sz16 ag16 ok16 zc16 by16 sz21 ag21 ok21 kk21 iu21 zc21 zd21 by21 sz22 ag22 ok22 sl22 zc22 zd22 by22 sz23 ag23 ok23 zc23 zd23 pl23 by23 fl23_0 fl23_1 fl23_2 fl23_3 fl23_4 fl23_5 sz24 ag24 ok24 zc24 zd24 pl24 by24 fl24_0 fl24_1 fl24_2 fl24_3 fl24_4 fl24_5 sz26 ag26 ok26 zc26 zd26 pl26 by26 fl26_0 fl26_1 fl26_2 fl26_3 fl26_4 fl26_5 fl26_6 fl26_7 fl26_8 fl26_9 fl26_10 fl26_11 fl26_12 fl26_13 fl26_14 sz27 ag27 ok27 zc27 zd27 pl27 by27 fl27_0 fl27_1 fl27_2 fl27_3 fl27_4 fl27_5 fl27_6 fl27_7 fl27_8 fl27_9 fl27_10 fl27_11 fl27_12 fl27_13 fl27_14 sz28 ag28 ok28 sl28 zc28 zd28 by28 sz38 ag38 ok38 sl38 ar38 zc38 zd38 pl38 by38 sz44 ag44 ok44 sl44 ar44 zc44 zd44 pl44 by44 sz45 ag45 ok45 sl45 zc45 zd45 by45 sz46 ag46 ok46 zc46 zd46 pl46 by46 fl46_0 fl46_1 fl46_2 fl46_3 fl46_4 sz47 ag47 ok47 zc47 zd47 pl47 by47 fl47_0 fl47_1 fl47_2 fl47_3 fl47_4 sz49 ag49 ok49 kk49 iu49 zc49 zd49 by49 sz53 ag53 ok53 sl53 ar53 zc53 zd53 pl53 by53 sz54 ag54 ok54 kk54 iu54 zc54 zd54 by54 sz55 ag55 ok55 kk55 iu55 zc55 zd55 by55 sz56 ag56 ok56 sl56 zc56 zd56 by56 sz57 ag57 ok57 kk57 iu57 zc57 zd57 by57 sz60 ag60 ok60 zc60 zd60 pl60 by60 fl60_0 fl60_1 fl60_2 fl60_3 sz61 ag61 ok61 zc61 zd61 pl61 by61 fl61_0 fl61_1 fl61_2 fl61_3 sz64 ag64 ok64 zc64 by64 sz65 ag65 ok65 zc65 zd65 pl65 by65 fl65_0 fl65_1 sz66 ag66 ok66 zc66 zd66 pl66 by66 fl66_0 fl66_1 sz78 ag78 ok78 sl78 ar78 zc78 zd78 pl78 by78 sz79 ag79 ok79 sl79 ar79 zc79 zd79 pl79 by79 sz81 ag81 ok81 zc81 zd81 pl81 by81 fl81_0 fl81_1 sz82 ag82 ok82 zc82 zd82 pl82 by82 fl82_0 fl82_1 sz84 ag84 ok84 zc84 zd84 pl84 by84 fl84_0 fl84_1 fl84_2 fl84_3 sz85 ag85 ok85 zc85 zd85 pl85 by85 fl85_0 fl85_1 fl85_2 fl85_3 sz92 ag92 ok92 sl92 ar92 zc92 zd92 pl92 by92 sz101 ag101 ok101 zc101 zd101 pl101 by101 fl101_0 fl101_1 sz102 ag102 ok102 zc102 zd102 pl102 by102 fl102_0 fl102_1 sz109 ag109 ok109 zc109 zd109 pl109 by109 fl109_0 fl109_1 fl109_2 sz110 ag110 ok110 zc110 zd110 pl110 by110 fl110_0 fl110_1 fl110_2 sz120 ag120 ok120 sl120 ar120 zc120 zd120 pl120 by120 sz121 ag121 ok121 zc121 zd121 pl121 by121 fl121_0 fl121_1 sz122 ag122 ok122 sl122 ar122 zc122 zd122 pl122 by122 sz130 ag130 ok130 zc130 by130 sz140 ag140 ok140 kk140 iu140 zc140 zd140 by140 sz144 ag144 ok144 zc144 by144
section
attribute [local go_sem] frD
theorem Frame_c {T : World → Prop} (Tk : KT T) (n : Nd) (fs : List (List Int)) (w : Nat) (h : KOk n fs w) : Cg Go.Proofs.Tryd.prog T 15 [] [.agg n.cs, .d (frD fs)] (fun r H => H = [(2000, .row 3 [.i .i64 0] ((frameV n fs w).map intC))] ∧ r = .own 2000) := by
  have hm0 := h.m0
  have hw0 := h.w0
  have hf0 : (fr fs 0).length = w := h.len _ (fr_mem (by omega) (by omega))
  have hA : 1 ≤ fs.length ∧ fs.length ≤ 4096 := by omega
  refine Cg_of [2000] Tk.m Go.Proofs.Tryd.func15 rfl rfl Go.Proofs.Tryd.ntmps15 (by simp) rfl (rs := [.tmp 4]) rfl fun E hP hn hT hpn => ?_
  (repeat (first | refine Tr.seq ?_ | refine Tr.skip ?_ | refine Tr.label ?_ | refine Tr.block ?_ | refine Tr.scope ?_ | refine gs1 ?_ | refine gs2 ?_ | refine gs3 ?_ | refine Tr.exit ?_ | refine Tr.goto ?_ | refine Tr.ret ?_ | refine n1 ?_ | refine n2 ?_ | refine n3 ?_ | refine n4 ?_ | refine n5 ?_ | refine n6 ?_ | refine n7 ?_ | refine n8 ?_ | refine n9 (by decide) ?_))
  (first | refine r1 ?_ | refine r2 ?_ | refine r3 ?_); intro K hK; simp only [go_sem, hP, hn]; (repeat (refine ⟨by first | trivial | omega | (simp <;> omega) | (simp +contextual; done) | (clear hK; grind), ?_⟩)); refine hK _ ?_; clear K hK
  (repeat (first | refine Tr.seq ?_ | refine Tr.skip ?_ | refine Tr.label ?_ | refine Tr.block ?_ | refine Tr.scope ?_ | refine gs1 ?_ | refine gs2 ?_ | refine gs3 ?_ | refine Tr.exit ?_ | refine Tr.goto ?_ | refine Tr.ret ?_ | refine n1 ?_ | refine n2 ?_ | refine n3 ?_ | refine n4 ?_ | refine n5 ?_ | refine n6 ?_ | refine n7 ?_ | refine n8 ?_ | refine n9 (by decide) ?_))
  (first | refine r1 ?_ | refine r2 ?_ | refine r3 ?_); intro K hK; simp only [go_sem, hP, hn]; (repeat (refine ⟨by first | trivial | omega | (simp <;> omega) | (simp +contextual; done) | (clear hK; grind), ?_⟩)); refine c1 (by rw [hP, hT]; exact (right_c Tk n fs w h).ct (bool_ct _)) rfl rfl rfl trivial (by simp only [go_sem, hP, hn]; try trivial) (by simp only [go_sem, hP, hn]; try rfl) (by rw [hn]; decide) (by rfl) ?_; simp only [go_sem, hP, hn]; (repeat (refine ⟨by first | trivial | omega | (simp <;> omega) | (simp +contextual; done) | (clear hK; grind), ?_⟩)); refine hK _ ?_; clear K hK
  (repeat (first | refine Tr.seq ?_ | refine Tr.skip ?_ | refine Tr.label ?_ | refine Tr.block ?_ | refine Tr.scope ?_ | refine gs1 ?_ | refine gs2 ?_ | refine gs3 ?_ | refine Tr.exit ?_ | refine Tr.goto ?_ | refine Tr.ret ?_ | refine n1 ?_ | refine n2 ?_ | refine n3 ?_ | refine n4 ?_ | refine n5 ?_ | refine n6 ?_ | refine n7 ?_ | refine n8 ?_ | refine n9 (by decide) ?_))
  refine Tr.cond rfl (fun h0 => ?_) (fun h0 => ?_)
  · cases h0
  clear h0
  refine Tr.le (Le.keep [1, 2]) ?_; simp only [List.map_cons, List.map_nil, lk, Nat.reduceEqDiff, reduceIte]
  refine Tr.le (Le.ren 2 1000 (by rw [hpn] <;> rfl) rfl rfl) ?_; simp only [renT, renH, renO, renS, renL, rn, go_sem, hP, hn]
  refine Tr.skip ?_
  refine n1 ?_
  refine Tr.seq ?_
  refine Tr.meet (fun s => (rWeighs n.k = false ∧ ¬ (n.k = 3 ∨ n.k = 5) ∧ ¬ (n.k = 4 ∨ n.k = 12) ∧ ¬ n.k = 7 ∧ ¬ n.k = 9 ∧ ¬ n.k = 10 ∧ ¬ n.k = 11) ∧ s = ⟨[(1, .d (frD fs))], []⟩) ?_ ?_
  rotate_left
  · (repeat (first | refine Tr.seq ?_ | refine Tr.skip ?_ | refine Tr.label ?_ | refine Tr.block ?_ | refine Tr.scope ?_ | refine gs1 ?_ | refine gs2 ?_ | refine gs3 ?_ | refine Tr.exit ?_ | refine Tr.goto ?_ | refine Tr.ret ?_ | refine n1 ?_ | refine n2 ?_ | refine n3 ?_ | refine n4 ?_ | refine n5 ?_ | refine n6 ?_ | refine n7 ?_ | refine n8 ?_ | refine n9 (by decide) ?_))
    (first | refine r1 ?_ | refine r2 ?_ | refine r3 ?_); intro K hK; simp only [go_sem, hP, hn]; (repeat (refine ⟨by first | trivial | omega | (simp <;> omega) | (simp +contextual; done) | (clear hK; grind), ?_⟩)); refine hK _ ?_; clear K hK
    refine Tr.le (Le.keep [1, 2, 13]) ?_; simp only [List.map_cons, List.map_nil, lk, Nat.reduceEqDiff, reduceIte]
    refine Tr.block ?_
    refine Tr.seq ?_
    refine Tr.meet (fun s => s = ⟨[(1, .d (frD fs)), (2, .ptr 1000 0), (13, .d (.i .i64 n.k)), (14, .d (.b (rWeighs n.k)))], [(1000, .box 27 n.cs)]⟩) ?_ ?_
    rotate_left
    · (repeat (first | refine Tr.seq ?_ | refine Tr.skip ?_ | refine Tr.label ?_ | refine Tr.block ?_ | refine Tr.scope ?_ | refine gs1 ?_ | refine gs2 ?_ | refine gs3 ?_ | refine Tr.exit ?_ | refine Tr.goto ?_ | refine Tr.ret ?_ | refine n1 ?_ | refine n2 ?_ | refine n3 ?_ | refine n4 ?_ | refine n5 ?_ | refine n6 ?_ | refine n7 ?_ | refine n8 ?_ | refine n9 (by decide) ?_))
      (first | refine r1 ?_ | refine r2 ?_ | refine r3 ?_); intro K hK; simp only [go_sem, hP, hn]; (repeat (refine ⟨by first | trivial | omega | (simp <;> omega) | (simp +contextual; done) | (clear hK; grind), ?_⟩)); refine hK _ ?_; clear K hK
      (repeat (first | refine Tr.seq ?_ | refine Tr.skip ?_ | refine Tr.label ?_ | refine Tr.block ?_ | refine Tr.scope ?_ | refine gs1 ?_ | refine gs2 ?_ | refine gs3 ?_ | refine Tr.exit ?_ | refine Tr.goto ?_ | refine Tr.ret ?_ | refine n1 ?_ | refine n2 ?_ | refine n3 ?_ | refine n4 ?_ | refine n5 ?_ | refine n6 ?_ | refine n7 ?_ | refine n8 ?_ | refine n9 (by decide) ?_))
      refine Tr.cond rfl (fun h1 => ?_) (fun h1 => ?_)
      · rw [h1, show rWeighs n.k = true by unfold rWeighs; rw [h1]; rfl]
        (repeat (first | refine Tr.seq ?_ | refine Tr.skip ?_ | refine Tr.label ?_ | refine Tr.block ?_ | refine Tr.scope ?_ | refine gs1 ?_ | refine gs2 ?_ | refine gs3 ?_ | refine Tr.exit ?_ | refine Tr.goto ?_ | refine Tr.ret ?_ | refine n1 ?_ | refine n2 ?_ | refine n3 ?_ | refine n4 ?_ | refine n5 ?_ | refine n6 ?_ | refine n7 ?_ | refine n8 ?_ | refine n9 (by decide) ?_))
        exact ⟨_, (Le.mv (by simp only [go_sem, hP, hn]; first | done | (simp; done) | (simp [intC]; done) | (repeat (first | rfl | constructor))) (by simp only [go_sem, hP, hn]; first | done | (simp; done) | (simp [intC]; done) | (repeat (first | rfl | constructor)))), rfl⟩
      (repeat (first | refine Tr.seq ?_ | refine Tr.skip ?_ | refine Tr.label ?_ | refine Tr.block ?_ | refine Tr.scope ?_ | refine gs1 ?_ | refine gs2 ?_ | refine gs3 ?_ | refine Tr.exit ?_ | refine Tr.goto ?_ | refine Tr.ret ?_ | refine n1 ?_ | refine n2 ?_ | refine n3 ?_ | refine n4 ?_ | refine n5 ?_ | refine n6 ?_ | refine n7 ?_ | refine n8 ?_ | refine n9 (by decide) ?_))
      (first | refine r1 ?_ | refine r2 ?_ | refine r3 ?_); intro K hK; simp only [go_sem, hP, hn]; (repeat (refine ⟨by first | trivial | omega | (simp <;> omega) | (simp +contextual; done) | (clear hK; grind), ?_⟩)); refine hK _ ?_; clear K hK
      (repeat (first | refine Tr.seq ?_ | refine Tr.skip ?_ | refine Tr.label ?_ | refine Tr.block ?_ | refine Tr.scope ?_ | refine gs1 ?_ | refine gs2 ?_ | refine gs3 ?_ | refine Tr.exit ?_ | refine Tr.goto ?_ | refine Tr.ret ?_ | refine n1 ?_ | refine n2 ?_ | refine n3 ?_ | refine n4 ?_ | refine n5 ?_ | refine n6 ?_ | refine n7 ?_ | refine n8 ?_ | refine n9 (by decide) ?_))
      refine Tr.cond rfl (fun h2 => ?_) (fun h2 => ?_)
      · rw [h2, show rWeighs n.k = true by unfold rWeighs; rw [h2, Bool.or_true]; rfl]
        (repeat (first | refine Tr.seq ?_ | refine Tr.skip ?_ | refine Tr.label ?_ | refine Tr.block ?_ | refine Tr.scope ?_ | refine gs1 ?_ | refine gs2 ?_ | refine gs3 ?_ | refine Tr.exit ?_ | refine Tr.goto ?_ | refine Tr.ret ?_ | refine n1 ?_ | refine n2 ?_ | refine n3 ?_ | refine n4 ?_ | refine n5 ?_ | refine n6 ?_ | refine n7 ?_ | refine n8 ?_ | refine n9 (by decide) ?_))
        exact ⟨_, (Le.mv (by simp only [go_sem, hP, hn]; first | done | (simp; done) | (simp [intC]; done) | (repeat (first | rfl | constructor))) (by simp only [go_sem, hP, hn]; first | done | (simp; done) | (simp [intC]; done) | (repeat (first | rfl | constructor)))), rfl⟩
      (repeat (first | refine Tr.seq ?_ | refine Tr.skip ?_ | refine Tr.label ?_ | refine Tr.block ?_ | refine Tr.scope ?_ | refine gs1 ?_ | refine gs2 ?_ | refine gs3 ?_ | refine Tr.exit ?_ | refine Tr.goto ?_ | refine Tr.ret ?_ | refine n1 ?_ | refine n2 ?_ | refine n3 ?_ | refine n4 ?_ | refine n5 ?_ | refine n6 ?_ | refine n7 ?_ | refine n8 ?_ | refine n9 (by decide) ?_))
      (first | refine r1 ?_ | refine r2 ?_ | refine r3 ?_); intro K hK; simp only [go_sem, hP, hn]; (repeat (refine ⟨by first | trivial | omega | (simp <;> omega) | (simp +contextual; done) | (clear hK; grind), ?_⟩)); refine hK _ ?_; clear K hK
      (repeat (first | refine Tr.seq ?_ | refine Tr.skip ?_ | refine Tr.label ?_ | refine Tr.block ?_ | refine Tr.scope ?_ | refine gs1 ?_ | refine gs2 ?_ | refine gs3 ?_ | refine Tr.exit ?_ | refine Tr.goto ?_ | refine Tr.ret ?_ | refine n1 ?_ | refine n2 ?_ | refine n3 ?_ | refine n4 ?_ | refine n5 ?_ | refine n6 ?_ | refine n7 ?_ | refine n8 ?_ | refine n9 (by decide) ?_))
      rw [show rWeighs n.k = (n.k == 6) by unfold rWeighs; rw [h1, h2]; rfl]
      exact ⟨_, (Le.mv (by simp only [go_sem, hP, hn]; first | done | (simp; done) | (simp [intC]; done) | (repeat (first | rfl | constructor))) (by simp only [go_sem, hP, hn]; first | done | (simp; done) | (simp [intC]; done) | (repeat (first | rfl | constructor)))), rfl⟩
    rintro s rfl
    (repeat (first | refine Tr.seq ?_ | refine Tr.skip ?_ | refine Tr.label ?_ | refine Tr.block ?_ | refine Tr.scope ?_ | refine gs1 ?_ | refine gs2 ?_ | refine gs3 ?_ | refine Tr.exit ?_ | refine Tr.goto ?_ | refine Tr.ret ?_ | refine n1 ?_ | refine n2 ?_ | refine n3 ?_ | refine n4 ?_ | refine n5 ?_ | refine n6 ?_ | refine n7 ?_ | refine n8 ?_ | refine n9 (by decide) ?_))
    refine Tr.cond rfl (fun hw => ?_) (fun hw => ?_)
    · (repeat (first | refine Tr.seq ?_ | refine Tr.skip ?_ | refine Tr.label ?_ | refine Tr.block ?_ | refine Tr.scope ?_ | refine gs1 ?_ | refine gs2 ?_ | refine gs3 ?_ | refine Tr.exit ?_ | refine Tr.goto ?_ | refine Tr.ret ?_ | refine n1 ?_ | refine n2 ?_ | refine n3 ?_ | refine n4 ?_ | refine n5 ?_ | refine n6 ?_ | refine n7 ?_ | refine n8 ?_ | refine n9 (by decide) ?_))
      (first | refine r1 ?_ | refine r2 ?_ | refine r3 ?_); intro K hK; simp only [go_sem, hP, hn]
      (repeat (refine ⟨by first | trivial | omega | (simp <;> omega) | (simp +contextual; done) | (clear hK; grind), ?_⟩))
      refine CallN_cx (Hi := []) (by rw [hP, hT]; exact weighed_c Tk.m n fs w (h.wok hw) ) rfl rfl rfl trivial (by simp only [go_sem, hP, hn]; try trivial) (by simp only [go_sem, hP, hn]; try rfl) trivial (by rw [hn]; decide) (fun r Ho hr => ?_); obtain  ⟨rfl, rfl⟩ := hr; refine ⟨fun k _ => hpn k rfl, ?_⟩; simp only [cgS, newK, touK, go_sem, hP, hn]; (repeat (refine ⟨by first | trivial | omega | (simp <;> omega) | (simp +contextual; done) | (clear hK; grind), ?_⟩))
      refine hK _ ?_; clear K hK
      (repeat (first | ((first | refine r1 ?_ | refine r2 ?_ | refine r3 ?_); intro K hK; simp only [go_sem, hP, hn]; (repeat (refine ⟨by first | trivial | omega | (simp <;> omega) | (simp +contextual; done) | (clear hK; grind), ?_⟩)); refine hK _ ?_; clear K hK) | refine Tr.seq ?_ | refine Tr.skip ?_ | refine Tr.label ?_ | refine Tr.block ?_ | refine Tr.scope ?_ | refine gs1 ?_ | refine gs2 ?_ | refine gs3 ?_ | refine Tr.exit ?_ | refine Tr.goto ?_ | refine Tr.ret ?_ | refine n1 ?_ | refine n2 ?_ | refine n3 ?_ | refine n4 ?_ | refine n5 ?_ | refine n6 ?_ | refine n7 ?_ | refine n8 ?_ | refine n9 (by decide) ?_))
      simp only [RetG, go_sem]; (repeat (with_reducible refine And.intro ?_ ?_; (· first | trivial | omega | (simp <;> omega) | (simp +contextual; done) | (clear hK; grind))))
      unfold frameV
      rw [if_pos hw]
    refine Tr.seq ?_
    refine Tr.meet (fun s => s = ⟨[(1, .d (frD fs)), (2, .ptr 1000 0), (13, .d (.i .i64 n.k)), (21, .d (.b (n.k == 3 || n.k == 5)))], [(1000, .box 27 n.cs)]⟩) ?_ ?_
    rotate_left
    · (repeat (first | refine Tr.seq ?_ | refine Tr.skip ?_ | refine Tr.label ?_ | refine Tr.block ?_ | refine Tr.scope ?_ | refine gs1 ?_ | refine gs2 ?_ | refine gs3 ?_ | refine Tr.exit ?_ | refine Tr.goto ?_ | refine Tr.ret ?_ | refine n1 ?_ | refine n2 ?_ | refine n3 ?_ | refine n4 ?_ | refine n5 ?_ | refine n6 ?_ | refine n7 ?_ | refine n8 ?_ | refine n9 (by decide) ?_))
      (first | refine r1 ?_ | refine r2 ?_ | refine r3 ?_); intro K hK; simp only [go_sem, hP, hn]; (repeat (refine ⟨by first | trivial | omega | (simp <;> omega) | (simp +contextual; done) | (clear hK; grind), ?_⟩)); refine hK _ ?_; clear K hK
      (repeat (first | refine Tr.seq ?_ | refine Tr.skip ?_ | refine Tr.label ?_ | refine Tr.block ?_ | refine Tr.scope ?_ | refine gs1 ?_ | refine gs2 ?_ | refine gs3 ?_ | refine Tr.exit ?_ | refine Tr.goto ?_ | refine Tr.ret ?_ | refine n1 ?_ | refine n2 ?_ | refine n3 ?_ | refine n4 ?_ | refine n5 ?_ | refine n6 ?_ | refine n7 ?_ | refine n8 ?_ | refine n9 (by decide) ?_))
      refine Tr.cond rfl (fun h1 => ?_) (fun h1 => ?_)
      · rw [h1, Bool.true_or]
        (repeat (first | refine Tr.seq ?_ | refine Tr.skip ?_ | refine Tr.label ?_ | refine Tr.block ?_ | refine Tr.scope ?_ | refine gs1 ?_ | refine gs2 ?_ | refine gs3 ?_ | refine Tr.exit ?_ | refine Tr.goto ?_ | refine Tr.ret ?_ | refine n1 ?_ | refine n2 ?_ | refine n3 ?_ | refine n4 ?_ | refine n5 ?_ | refine n6 ?_ | refine n7 ?_ | refine n8 ?_ | refine n9 (by decide) ?_))
        exact ⟨_, (Le.mv (by simp only [go_sem, hP, hn]; first | done | (simp; done) | (simp [intC]; done) | (repeat (first | rfl | constructor))) (by simp only [go_sem, hP, hn]; first | done | (simp; done) | (simp [intC]; done) | (repeat (first | rfl | constructor)))), rfl⟩
      (repeat (first | refine Tr.seq ?_ | refine Tr.skip ?_ | refine Tr.label ?_ | refine Tr.block ?_ | refine Tr.scope ?_ | refine gs1 ?_ | refine gs2 ?_ | refine gs3 ?_ | refine Tr.exit ?_ | refine Tr.goto ?_ | refine Tr.ret ?_ | refine n1 ?_ | refine n2 ?_ | refine n3 ?_ | refine n4 ?_ | refine n5 ?_ | refine n6 ?_ | refine n7 ?_ | refine n8 ?_ | refine n9 (by decide) ?_))
      (first | refine r1 ?_ | refine r2 ?_ | refine r3 ?_); intro K hK; simp only [go_sem, hP, hn]; (repeat (refine ⟨by first | trivial | omega | (simp <;> omega) | (simp +contextual; done) | (clear hK; grind), ?_⟩)); refine hK _ ?_; clear K hK
      (repeat (first | refine Tr.seq ?_ | refine Tr.skip ?_ | refine Tr.label ?_ | refine Tr.block ?_ | refine Tr.scope ?_ | refine gs1 ?_ | refine gs2 ?_ | refine gs3 ?_ | refine Tr.exit ?_ | refine Tr.goto ?_ | refine Tr.ret ?_ | refine n1 ?_ | refine n2 ?_ | refine n3 ?_ | refine n4 ?_ | refine n5 ?_ | refine n6 ?_ | refine n7 ?_ | refine n8 ?_ | refine n9 (by decide) ?_))
      rw [h1, Bool.false_or]
      exact ⟨_, (Le.mv (by simp only [go_sem, hP, hn]; first | done | (simp; done) | (simp [intC]; done) | (repeat (first | rfl | constructor))) (by simp only [go_sem, hP, hn]; first | done | (simp; done) | (simp [intC]; done) | (repeat (first | rfl | constructor)))), rfl⟩
    rintro s rfl
    (repeat (first | refine Tr.seq ?_ | refine Tr.skip ?_ | refine Tr.label ?_ | refine Tr.block ?_ | refine Tr.scope ?_ | refine gs1 ?_ | refine gs2 ?_ | refine gs3 ?_ | refine Tr.exit ?_ | refine Tr.goto ?_ | refine Tr.ret ?_ | refine n1 ?_ | refine n2 ?_ | refine n3 ?_ | refine n4 ?_ | refine n5 ?_ | refine n6 ?_ | refine n7 ?_ | refine n8 ?_ | refine n9 (by decide) ?_))
    refine Tr.cond rfl (fun h3 => ?_) (fun h3 => ?_)
    · (repeat (first | refine Tr.seq ?_ | refine Tr.skip ?_ | refine Tr.label ?_ | refine Tr.block ?_ | refine Tr.scope ?_ | refine gs1 ?_ | refine gs2 ?_ | refine gs3 ?_ | refine Tr.exit ?_ | refine Tr.goto ?_ | refine Tr.ret ?_ | refine n1 ?_ | refine n2 ?_ | refine n3 ?_ | refine n4 ?_ | refine n5 ?_ | refine n6 ?_ | refine n7 ?_ | refine n8 ?_ | refine n9 (by decide) ?_))
      (first | refine r1 ?_ | refine r2 ?_ | refine r3 ?_); intro K hK; simp only [go_sem, hP, hn]
      (repeat (refine ⟨by first | trivial | omega | (simp <;> omega) | (simp +contextual; done) | (clear hK; grind), ?_⟩))
      refine CallN_cx (Hi := []) (by rw [hP, hT]; exact eachA_c Tk.m fs w (fun xs => rd xs (mostV xs)) 32 hA (by omega) h.len (fun k k0 k1 => F1_c Tk.m (col fs k) (by rw [col_len]; omega) (by rw [col_len]; omega)) ) rfl rfl rfl trivial (by simp only [go_sem, hP, hn]; try trivial) (by simp only [go_sem, hP, hn]; try rfl) trivial (by rw [hn]; decide) (fun r Ho hr => ?_); obtain  ⟨rfl, rfl⟩ := hr; refine ⟨fun k _ => hpn k rfl, ?_⟩; simp only [cgS, newK, touK, go_sem, hP, hn]; (repeat (refine ⟨by first | trivial | omega | (simp <;> omega) | (simp +contextual; done) | (clear hK; grind), ?_⟩))
      refine hK _ ?_; clear K hK
      (repeat (first | ((first | refine r1 ?_ | refine r2 ?_ | refine r3 ?_); intro K hK; simp only [go_sem, hP, hn]; (repeat (refine ⟨by first | trivial | omega | (simp <;> omega) | (simp +contextual; done) | (clear hK; grind), ?_⟩)); refine hK _ ?_; clear K hK) | refine Tr.seq ?_ | refine Tr.skip ?_ | refine Tr.label ?_ | refine Tr.block ?_ | refine Tr.scope ?_ | refine gs1 ?_ | refine gs2 ?_ | refine gs3 ?_ | refine Tr.exit ?_ | refine Tr.goto ?_ | refine Tr.ret ?_ | refine n1 ?_ | refine n2 ?_ | refine n3 ?_ | refine n4 ?_ | refine n5 ?_ | refine n6 ?_ | refine n7 ?_ | refine n8 ?_ | refine n9 (by decide) ?_))
      simp only [RetG, go_sem]; (repeat (with_reducible refine And.intro ?_ ?_; (· first | trivial | omega | (simp <;> omega) | (simp +contextual; done) | (clear hK; grind))))
      unfold frameV
      rw [if_neg (by rw [hw]; decide), if_pos (by simpa using h3)]
    refine Tr.seq ?_
    refine Tr.meet (fun s => s = ⟨[(1, .d (frD fs)), (2, .ptr 1000 0), (13, .d (.i .i64 n.k)), (26, .d (.b (n.k == 4 || n.k == 12)))], [(1000, .box 27 n.cs)]⟩) ?_ ?_
    rotate_left
    · (repeat (first | refine Tr.seq ?_ | refine Tr.skip ?_ | refine Tr.label ?_ | refine Tr.block ?_ | refine Tr.scope ?_ | refine gs1 ?_ | refine gs2 ?_ | refine gs3 ?_ | refine Tr.exit ?_ | refine Tr.goto ?_ | refine Tr.ret ?_ | refine n1 ?_ | refine n2 ?_ | refine n3 ?_ | refine n4 ?_ | refine n5 ?_ | refine n6 ?_ | refine n7 ?_ | refine n8 ?_ | refine n9 (by decide) ?_))
      (first | refine r1 ?_ | refine r2 ?_ | refine r3 ?_); intro K hK; simp only [go_sem, hP, hn]; (repeat (refine ⟨by first | trivial | omega | (simp <;> omega) | (simp +contextual; done) | (clear hK; grind), ?_⟩)); refine hK _ ?_; clear K hK
      (repeat (first | refine Tr.seq ?_ | refine Tr.skip ?_ | refine Tr.label ?_ | refine Tr.block ?_ | refine Tr.scope ?_ | refine gs1 ?_ | refine gs2 ?_ | refine gs3 ?_ | refine Tr.exit ?_ | refine Tr.goto ?_ | refine Tr.ret ?_ | refine n1 ?_ | refine n2 ?_ | refine n3 ?_ | refine n4 ?_ | refine n5 ?_ | refine n6 ?_ | refine n7 ?_ | refine n8 ?_ | refine n9 (by decide) ?_))
      refine Tr.cond rfl (fun h1 => ?_) (fun h1 => ?_)
      · rw [h1, Bool.true_or]
        (repeat (first | refine Tr.seq ?_ | refine Tr.skip ?_ | refine Tr.label ?_ | refine Tr.block ?_ | refine Tr.scope ?_ | refine gs1 ?_ | refine gs2 ?_ | refine gs3 ?_ | refine Tr.exit ?_ | refine Tr.goto ?_ | refine Tr.ret ?_ | refine n1 ?_ | refine n2 ?_ | refine n3 ?_ | refine n4 ?_ | refine n5 ?_ | refine n6 ?_ | refine n7 ?_ | refine n8 ?_ | refine n9 (by decide) ?_))
        exact ⟨_, (Le.mv (by simp only [go_sem, hP, hn]; first | done | (simp; done) | (simp [intC]; done) | (repeat (first | rfl | constructor))) (by simp only [go_sem, hP, hn]; first | done | (simp; done) | (simp [intC]; done) | (repeat (first | rfl | constructor)))), rfl⟩
      (repeat (first | refine Tr.seq ?_ | refine Tr.skip ?_ | refine Tr.label ?_ | refine Tr.block ?_ | refine Tr.scope ?_ | refine gs1 ?_ | refine gs2 ?_ | refine gs3 ?_ | refine Tr.exit ?_ | refine Tr.goto ?_ | refine Tr.ret ?_ | refine n1 ?_ | refine n2 ?_ | refine n3 ?_ | refine n4 ?_ | refine n5 ?_ | refine n6 ?_ | refine n7 ?_ | refine n8 ?_ | refine n9 (by decide) ?_))
      (first | refine r1 ?_ | refine r2 ?_ | refine r3 ?_); intro K hK; simp only [go_sem, hP, hn]; (repeat (refine ⟨by first | trivial | omega | (simp <;> omega) | (simp +contextual; done) | (clear hK; grind), ?_⟩)); refine hK _ ?_; clear K hK
      (repeat (first | refine Tr.seq ?_ | refine Tr.skip ?_ | refine Tr.label ?_ | refine Tr.block ?_ | refine Tr.scope ?_ | refine gs1 ?_ | refine gs2 ?_ | refine gs3 ?_ | refine Tr.exit ?_ | refine Tr.goto ?_ | refine Tr.ret ?_ | refine n1 ?_ | refine n2 ?_ | refine n3 ?_ | refine n4 ?_ | refine n5 ?_ | refine n6 ?_ | refine n7 ?_ | refine n8 ?_ | refine n9 (by decide) ?_))
      rw [h1, Bool.false_or]
      exact ⟨_, (Le.mv (by simp only [go_sem, hP, hn]; first | done | (simp; done) | (simp [intC]; done) | (repeat (first | rfl | constructor))) (by simp only [go_sem, hP, hn]; first | done | (simp; done) | (simp [intC]; done) | (repeat (first | rfl | constructor)))), rfl⟩
    rintro s rfl
    (repeat (first | refine Tr.seq ?_ | refine Tr.skip ?_ | refine Tr.label ?_ | refine Tr.block ?_ | refine Tr.scope ?_ | refine gs1 ?_ | refine gs2 ?_ | refine gs3 ?_ | refine Tr.exit ?_ | refine Tr.goto ?_ | refine Tr.ret ?_ | refine n1 ?_ | refine n2 ?_ | refine n3 ?_ | refine n4 ?_ | refine n5 ?_ | refine n6 ?_ | refine n7 ?_ | refine n8 ?_ | refine n9 (by decide) ?_))
    have h3' : ¬ (n.k = 3 ∨ n.k = 5) := by simpa using h3
    clear h3
    have hw' : ¬ rWeighs n.k = true := by rw [hw]; decide
    refine Tr.cond rfl (fun h4 => ?_) (fun h4 => ?_)
    · (repeat (first | refine Tr.seq ?_ | refine Tr.skip ?_ | refine Tr.label ?_ | refine Tr.block ?_ | refine Tr.scope ?_ | refine gs1 ?_ | refine gs2 ?_ | refine gs3 ?_ | refine Tr.exit ?_ | refine Tr.goto ?_ | refine Tr.ret ?_ | refine n1 ?_ | refine n2 ?_ | refine n3 ?_ | refine n4 ?_ | refine n5 ?_ | refine n6 ?_ | refine n7 ?_ | refine n8 ?_ | refine n9 (by decide) ?_))
      (first | refine r1 ?_ | refine r2 ?_ | refine r3 ?_); intro K hK; simp only [go_sem, hP, hn]
      (repeat (refine ⟨by first | trivial | omega | (simp <;> omega) | (simp +contextual; done) | (clear hK; grind), ?_⟩))
      refine CallN_cx (Hi := []) (by rw [hP, hT]; exact eachA_c Tk.m fs w meanV 34 hA (by omega) h.len (fun k k0 k1 => F2_c Tk.m (col fs k) (by rw [col_len]; omega) (by rw [col_len]; omega) (h.col k0 k1)) ) rfl rfl rfl trivial (by simp only [go_sem, hP, hn]; try trivial) (by simp only [go_sem, hP, hn]; try rfl) trivial (by rw [hn]; decide) (fun r Ho hr => ?_); obtain  ⟨rfl, rfl⟩ := hr; refine ⟨fun k _ => hpn k rfl, ?_⟩; simp only [cgS, newK, touK, go_sem, hP, hn]; (repeat (refine ⟨by first | trivial | omega | (simp <;> omega) | (simp +contextual; done) | (clear hK; grind), ?_⟩))
      refine hK _ ?_; clear K hK
      (repeat (first | ((first | refine r1 ?_ | refine r2 ?_ | refine r3 ?_); intro K hK; simp only [go_sem, hP, hn]; (repeat (refine ⟨by first | trivial | omega | (simp <;> omega) | (simp +contextual; done) | (clear hK; grind), ?_⟩)); refine hK _ ?_; clear K hK) | refine Tr.seq ?_ | refine Tr.skip ?_ | refine Tr.label ?_ | refine Tr.block ?_ | refine Tr.scope ?_ | refine gs1 ?_ | refine gs2 ?_ | refine gs3 ?_ | refine Tr.exit ?_ | refine Tr.goto ?_ | refine Tr.ret ?_ | refine n1 ?_ | refine n2 ?_ | refine n3 ?_ | refine n4 ?_ | refine n5 ?_ | refine n6 ?_ | refine n7 ?_ | refine n8 ?_ | refine n9 (by decide) ?_))
      simp only [RetG, go_sem]; (repeat (with_reducible refine And.intro ?_ ?_; (· first | trivial | omega | (simp <;> omega) | (simp +contextual; done) | (clear hK; grind))))
      unfold frameV
      rw [if_neg hw', if_neg h3', if_pos (by simpa using h4)]
    have h4' : ¬ (n.k = 4 ∨ n.k = 12) := by simpa using h4
    clear h4
    (repeat (first | refine Tr.seq ?_ | refine Tr.skip ?_ | refine Tr.label ?_ | refine Tr.block ?_ | refine Tr.scope ?_ | refine gs1 ?_ | refine gs2 ?_ | refine gs3 ?_ | refine Tr.exit ?_ | refine Tr.goto ?_ | refine Tr.ret ?_ | refine n1 ?_ | refine n2 ?_ | refine n3 ?_ | refine n4 ?_ | refine n5 ?_ | refine n6 ?_ | refine n7 ?_ | refine n8 ?_ | refine n9 (by decide) ?_))
    (first | refine r1 ?_ | refine r2 ?_ | refine r3 ?_); intro K hK; simp only [go_sem, hP, hn]; (repeat (refine ⟨by first | trivial | omega | (simp <;> omega) | (simp +contextual; done) | (clear hK; grind), ?_⟩)); refine hK _ ?_; clear K hK
    (repeat (first | refine Tr.seq ?_ | refine Tr.skip ?_ | refine Tr.label ?_ | refine Tr.block ?_ | refine Tr.scope ?_ | refine gs1 ?_ | refine gs2 ?_ | refine gs3 ?_ | refine Tr.exit ?_ | refine Tr.goto ?_ | refine Tr.ret ?_ | refine n1 ?_ | refine n2 ?_ | refine n3 ?_ | refine n4 ?_ | refine n5 ?_ | refine n6 ?_ | refine n7 ?_ | refine n8 ?_ | refine n9 (by decide) ?_))
    refine Tr.cond rfl (fun h7 => ?_) (fun h7 => ?_)
    · (repeat (first | refine Tr.seq ?_ | refine Tr.skip ?_ | refine Tr.label ?_ | refine Tr.block ?_ | refine Tr.scope ?_ | refine gs1 ?_ | refine gs2 ?_ | refine gs3 ?_ | refine Tr.exit ?_ | refine Tr.goto ?_ | refine Tr.ret ?_ | refine n1 ?_ | refine n2 ?_ | refine n3 ?_ | refine n4 ?_ | refine n5 ?_ | refine n6 ?_ | refine n7 ?_ | refine n8 ?_ | refine n9 (by decide) ?_))
      (first | refine r1 ?_ | refine r2 ?_ | refine r3 ?_); intro K hK; simp only [go_sem, hP, hn]
      (repeat (refine ⟨by first | trivial | omega | (simp <;> omega) | (simp +contextual; done) | (clear hK; grind), ?_⟩))
      refine CallN_cx (Hi := []) (by rw [hP, hT]; exact eachA_c Tk.m fs w addV 36 hA (by omega) h.len (fun k k0 k1 => F3_c Tk.m (col fs k) (by rw [col_len]; omega) (h.col k0 k1)) ) rfl rfl rfl trivial (by simp only [go_sem, hP, hn]; try trivial) (by simp only [go_sem, hP, hn]; try rfl) trivial (by rw [hn]; decide) (fun r Ho hr => ?_); obtain  ⟨rfl, rfl⟩ := hr; refine ⟨fun k _ => hpn k rfl, ?_⟩; simp only [cgS, newK, touK, go_sem, hP, hn]; (repeat (refine ⟨by first | trivial | omega | (simp <;> omega) | (simp +contextual; done) | (clear hK; grind), ?_⟩))
      refine hK _ ?_; clear K hK
      (repeat (first | ((first | refine r1 ?_ | refine r2 ?_ | refine r3 ?_); intro K hK; simp only [go_sem, hP, hn]; (repeat (refine ⟨by first | trivial | omega | (simp <;> omega) | (simp +contextual; done) | (clear hK; grind), ?_⟩)); refine hK _ ?_; clear K hK) | refine Tr.seq ?_ | refine Tr.skip ?_ | refine Tr.label ?_ | refine Tr.block ?_ | refine Tr.scope ?_ | refine gs1 ?_ | refine gs2 ?_ | refine gs3 ?_ | refine Tr.exit ?_ | refine Tr.goto ?_ | refine Tr.ret ?_ | refine n1 ?_ | refine n2 ?_ | refine n3 ?_ | refine n4 ?_ | refine n5 ?_ | refine n6 ?_ | refine n7 ?_ | refine n8 ?_ | refine n9 (by decide) ?_))
      simp only [RetG, go_sem]; (repeat (with_reducible refine And.intro ?_ ?_; (· first | trivial | omega | (simp <;> omega) | (simp +contextual; done) | (clear hK; grind))))
      unfold frameV
      rw [if_neg hw', if_neg h3', if_neg h4', if_pos (by simpa using h7)]
    have h7' : ¬ n.k = 7 := by simpa using h7
    clear h7
    (repeat (first | refine Tr.seq ?_ | refine Tr.skip ?_ | refine Tr.label ?_ | refine Tr.block ?_ | refine Tr.scope ?_ | refine gs1 ?_ | refine gs2 ?_ | refine gs3 ?_ | refine Tr.exit ?_ | refine Tr.goto ?_ | refine Tr.ret ?_ | refine n1 ?_ | refine n2 ?_ | refine n3 ?_ | refine n4 ?_ | refine n5 ?_ | refine n6 ?_ | refine n7 ?_ | refine n8 ?_ | refine n9 (by decide) ?_))
    (first | refine r1 ?_ | refine r2 ?_ | refine r3 ?_); intro K hK; simp only [go_sem, hP, hn]; (repeat (refine ⟨by first | trivial | omega | (simp <;> omega) | (simp +contextual; done) | (clear hK; grind), ?_⟩)); refine hK _ ?_; clear K hK
    (repeat (first | refine Tr.seq ?_ | refine Tr.skip ?_ | refine Tr.label ?_ | refine Tr.block ?_ | refine Tr.scope ?_ | refine gs1 ?_ | refine gs2 ?_ | refine gs3 ?_ | refine Tr.exit ?_ | refine Tr.goto ?_ | refine Tr.ret ?_ | refine n1 ?_ | refine n2 ?_ | refine n3 ?_ | refine n4 ?_ | refine n5 ?_ | refine n6 ?_ | refine n7 ?_ | refine n8 ?_ | refine n9 (by decide) ?_))
    refine Tr.cond rfl (fun h9 => ?_) (fun h9 => ?_)
    · (repeat (first | refine Tr.seq ?_ | refine Tr.skip ?_ | refine Tr.label ?_ | refine Tr.block ?_ | refine Tr.scope ?_ | refine gs1 ?_ | refine gs2 ?_ | refine gs3 ?_ | refine Tr.exit ?_ | refine Tr.goto ?_ | refine Tr.ret ?_ | refine n1 ?_ | refine n2 ?_ | refine n3 ?_ | refine n4 ?_ | refine n5 ?_ | refine n6 ?_ | refine n7 ?_ | refine n8 ?_ | refine n9 (by decide) ?_))
      (first | refine r1 ?_ | refine r2 ?_ | refine r3 ?_); intro K hK; simp only [go_sem, hP, hn]
      (repeat (refine ⟨by first | trivial | omega | (simp <;> omega) | (simp +contextual; done) | (clear hK; grind), ?_⟩))
      refine CallN_cx (Hi := [(1000, .box 27 n.cs)] ) (by rw [hP, hT]; exact  eachB_c Tk.m fs w (fun xs => clampV (rd xs 0) n.low n.high) n 38 hA (by omega) h.len (fun k k0 k1 => F4_c Tk.m n (col fs k) (by rw [col_len]; omega)) ) rfl rfl rfl trivial (by simp only [go_sem, hP, hn]; try trivial) (by simp only [go_sem, hP, hn]; try rfl) (by simp only [inH, go_sem, hP, hn]; try simp) (by rw [hn]; decide) (fun r Ho hr => ?_); obtain  ⟨rfl, rfl⟩ := hr; refine ⟨fun k _ => hpn k rfl, ?_⟩; simp only [cgS, newK, touK, go_sem, hP, hn]; (repeat (refine ⟨by first | trivial | omega | (simp <;> omega) | (simp +contextual; done) | (clear hK; grind), ?_⟩))
      refine hK _ ?_; clear K hK
      (repeat (first | ((first | refine r1 ?_ | refine r2 ?_ | refine r3 ?_); intro K hK; simp only [go_sem, hP, hn]; (repeat (refine ⟨by first | trivial | omega | (simp <;> omega) | (simp +contextual; done) | (clear hK; grind), ?_⟩)); refine hK _ ?_; clear K hK) | refine Tr.seq ?_ | refine Tr.skip ?_ | refine Tr.label ?_ | refine Tr.block ?_ | refine Tr.scope ?_ | refine gs1 ?_ | refine gs2 ?_ | refine gs3 ?_ | refine Tr.exit ?_ | refine Tr.goto ?_ | refine Tr.ret ?_ | refine n1 ?_ | refine n2 ?_ | refine n3 ?_ | refine n4 ?_ | refine n5 ?_ | refine n6 ?_ | refine n7 ?_ | refine n8 ?_ | refine n9 (by decide) ?_))
      simp only [RetG, go_sem]; (repeat (with_reducible refine And.intro ?_ ?_; (· first | trivial | omega | (simp <;> omega) | (simp +contextual; done) | (clear hK; grind))))
      unfold frameV
      rw [if_neg hw', if_neg h3', if_neg h4', if_neg h7', if_pos (by simpa using h9)]
    have h9' : ¬ n.k = 9 := by simpa using h9
    clear h9
    (repeat (first | refine Tr.seq ?_ | refine Tr.skip ?_ | refine Tr.label ?_ | refine Tr.block ?_ | refine Tr.scope ?_ | refine gs1 ?_ | refine gs2 ?_ | refine gs3 ?_ | refine Tr.exit ?_ | refine Tr.goto ?_ | refine Tr.ret ?_ | refine n1 ?_ | refine n2 ?_ | refine n3 ?_ | refine n4 ?_ | refine n5 ?_ | refine n6 ?_ | refine n7 ?_ | refine n8 ?_ | refine n9 (by decide) ?_))
    (first | refine r1 ?_ | refine r2 ?_ | refine r3 ?_); intro K hK; simp only [go_sem, hP, hn]; (repeat (refine ⟨by first | trivial | omega | (simp <;> omega) | (simp +contextual; done) | (clear hK; grind), ?_⟩)); refine hK _ ?_; clear K hK
    (repeat (first | refine Tr.seq ?_ | refine Tr.skip ?_ | refine Tr.label ?_ | refine Tr.block ?_ | refine Tr.scope ?_ | refine gs1 ?_ | refine gs2 ?_ | refine gs3 ?_ | refine Tr.exit ?_ | refine Tr.goto ?_ | refine Tr.ret ?_ | refine n1 ?_ | refine n2 ?_ | refine n3 ?_ | refine n4 ?_ | refine n5 ?_ | refine n6 ?_ | refine n7 ?_ | refine n8 ?_ | refine n9 (by decide) ?_))
    refine Tr.cond rfl (fun hx => ?_) (fun hx => ?_)
    · (repeat (first | refine Tr.seq ?_ | refine Tr.skip ?_ | refine Tr.label ?_ | refine Tr.block ?_ | refine Tr.scope ?_ | refine gs1 ?_ | refine gs2 ?_ | refine gs3 ?_ | refine Tr.exit ?_ | refine Tr.goto ?_ | refine Tr.ret ?_ | refine n1 ?_ | refine n2 ?_ | refine n3 ?_ | refine n4 ?_ | refine n5 ?_ | refine n6 ?_ | refine n7 ?_ | refine n8 ?_ | refine n9 (by decide) ?_))
      (first | refine r1 ?_ | refine r2 ?_ | refine r3 ?_); intro K hK; simp only [go_sem, hP, hn]
      (repeat (refine ⟨by first | trivial | omega | (simp <;> omega) | (simp +contextual; done) | (clear hK; grind), ?_⟩))
      refine CallN_cx (Hi := [(1000, .box 27 n.cs)] ) (by rw [hP, hT]; exact  eachB_c Tk.m fs w (fun xs => scaleV (rd xs 0) n.mult n.shift) n 40 hA (by omega) h.len (fun k k0 k1 => F5_c Tk.m n (col fs k) (by rw [col_len]; omega) (h.col k0 k1 _ (rd_mem (by decide) (by rw [col_len]; omega)))) ) rfl rfl rfl trivial (by simp only [go_sem, hP, hn]; try trivial) (by simp only [go_sem, hP, hn]; try rfl) (by simp only [inH, go_sem, hP, hn]; try simp) (by rw [hn]; decide) (fun r Ho hr => ?_); obtain  ⟨rfl, rfl⟩ := hr; refine ⟨fun k _ => hpn k rfl, ?_⟩; simp only [cgS, newK, touK, go_sem, hP, hn]; (repeat (refine ⟨by first | trivial | omega | (simp <;> omega) | (simp +contextual; done) | (clear hK; grind), ?_⟩))
      refine hK _ ?_; clear K hK
      (repeat (first | ((first | refine r1 ?_ | refine r2 ?_ | refine r3 ?_); intro K hK; simp only [go_sem, hP, hn]; (repeat (refine ⟨by first | trivial | omega | (simp <;> omega) | (simp +contextual; done) | (clear hK; grind), ?_⟩)); refine hK _ ?_; clear K hK) | refine Tr.seq ?_ | refine Tr.skip ?_ | refine Tr.label ?_ | refine Tr.block ?_ | refine Tr.scope ?_ | refine gs1 ?_ | refine gs2 ?_ | refine gs3 ?_ | refine Tr.exit ?_ | refine Tr.goto ?_ | refine Tr.ret ?_ | refine n1 ?_ | refine n2 ?_ | refine n3 ?_ | refine n4 ?_ | refine n5 ?_ | refine n6 ?_ | refine n7 ?_ | refine n8 ?_ | refine n9 (by decide) ?_))
      simp only [RetG, go_sem]; (repeat (with_reducible refine And.intro ?_ ?_; (· first | trivial | omega | (simp <;> omega) | (simp +contextual; done) | (clear hK; grind))))
      unfold frameV
      rw [if_neg hw', if_neg h3', if_neg h4', if_neg h7', if_neg h9', if_pos (by simpa using hx)]
    have hx' : ¬ n.k = 10 := by simpa using hx
    clear hx
    (repeat (first | refine Tr.seq ?_ | refine Tr.skip ?_ | refine Tr.label ?_ | refine Tr.block ?_ | refine Tr.scope ?_ | refine gs1 ?_ | refine gs2 ?_ | refine gs3 ?_ | refine Tr.exit ?_ | refine Tr.goto ?_ | refine Tr.ret ?_ | refine n1 ?_ | refine n2 ?_ | refine n3 ?_ | refine n4 ?_ | refine n5 ?_ | refine n6 ?_ | refine n7 ?_ | refine n8 ?_ | refine n9 (by decide) ?_))
    (first | refine r1 ?_ | refine r2 ?_ | refine r3 ?_); intro K hK; simp only [go_sem, hP, hn]; (repeat (refine ⟨by first | trivial | omega | (simp <;> omega) | (simp +contextual; done) | (clear hK; grind), ?_⟩)); refine hK _ ?_; clear K hK
    (repeat (first | refine Tr.seq ?_ | refine Tr.skip ?_ | refine Tr.label ?_ | refine Tr.block ?_ | refine Tr.scope ?_ | refine gs1 ?_ | refine gs2 ?_ | refine gs3 ?_ | refine Tr.exit ?_ | refine Tr.goto ?_ | refine Tr.ret ?_ | refine n1 ?_ | refine n2 ?_ | refine n3 ?_ | refine n4 ?_ | refine n5 ?_ | refine n6 ?_ | refine n7 ?_ | refine n8 ?_ | refine n9 (by decide) ?_))
    refine Tr.cond rfl (fun hb => ?_) (fun hb => ?_)
    · (repeat (first | refine Tr.seq ?_ | refine Tr.skip ?_ | refine Tr.label ?_ | refine Tr.block ?_ | refine Tr.scope ?_ | refine gs1 ?_ | refine gs2 ?_ | refine gs3 ?_ | refine Tr.exit ?_ | refine Tr.goto ?_ | refine Tr.ret ?_ | refine n1 ?_ | refine n2 ?_ | refine n3 ?_ | refine n4 ?_ | refine n5 ?_ | refine n6 ?_ | refine n7 ?_ | refine n8 ?_ | refine n9 (by decide) ?_))
      (first | refine r1 ?_ | refine r2 ?_ | refine r3 ?_); intro K hK; simp only [go_sem, hP, hn]
      rw [show (fs.map frE).getD 0 [.nil] = [.row [.i .i64 0] ((fr fs 0).map intC)] from rw_fr fs 0 (by omega) (by omega)]
      simp only [go_sem, hP, hn]
      (repeat (refine ⟨by first | trivial | omega | (simp <;> omega) | (simp +contextual; done) | (clear hK; grind), ?_⟩))
      refine c1 (by rw [hP, hT]; exact most_c Tk.m (fr fs 0) (by omega) (by omega)) rfl rfl rfl trivial (by simp only [go_sem, hP, hn]; try trivial) (by simp only [go_sem, hP, hn]; try rfl) (by rw [hn]; decide) (by rfl) ?_; simp only [go_sem, hP, hn]; (repeat (refine ⟨by first | trivial | omega | (simp <;> omega) | (simp +contextual; done) | (clear hK; grind), ?_⟩))
      (repeat (refine ⟨by first | trivial | omega | (simp <;> omega) | (simp +contextual; done) | (clear hK; grind), ?_⟩))
      refine hK _ ?_; clear K hK
      refine Tr.le (Le.keep [4]) ?_; simp only [List.map_cons, List.map_nil, lk, Nat.reduceEqDiff, reduceIte]
      refine Tr.le (Le.ren 51 2000 (by rw [hpn] <;> rfl) rfl rfl) ?_; simp only [renT, renH, renO, renS, renL, rn, go_sem, hP, hn]
      (repeat (first | ((first | refine r1 ?_ | refine r2 ?_ | refine r3 ?_); intro K hK; simp only [go_sem, hP, hn]; (repeat (refine ⟨by first | trivial | omega | (simp <;> omega) | (simp +contextual; done) | (clear hK; grind), ?_⟩)); refine hK _ ?_; clear K hK) | refine Tr.seq ?_ | refine Tr.skip ?_ | refine Tr.label ?_ | refine Tr.block ?_ | refine Tr.scope ?_ | refine gs1 ?_ | refine gs2 ?_ | refine gs3 ?_ | refine Tr.exit ?_ | refine Tr.goto ?_ | refine Tr.ret ?_ | refine n1 ?_ | refine n2 ?_ | refine n3 ?_ | refine n4 ?_ | refine n5 ?_ | refine n6 ?_ | refine n7 ?_ | refine n8 ?_ | refine n9 (by decide) ?_))
      simp only [RetG, go_sem]; (repeat (with_reducible refine And.intro ?_ ?_; (· first | trivial | omega | (simp <;> omega) | (simp +contextual; done) | (clear hK; grind))))
      unfold frameV
      rw [if_neg hw', if_neg h3', if_neg h4', if_neg h7', if_neg h9', if_neg hx', if_pos (by simpa using hb)]
      rfl
    have hb' : ¬ n.k = 11 := by simpa using hb
    (repeat (first | refine Tr.seq ?_ | refine Tr.skip ?_ | refine Tr.label ?_ | refine Tr.block ?_ | refine Tr.scope ?_ | refine gs1 ?_ | refine gs2 ?_ | refine gs3 ?_ | refine Tr.exit ?_ | refine Tr.goto ?_ | refine Tr.ret ?_ | refine n1 ?_ | refine n2 ?_ | refine n3 ?_ | refine n4 ?_ | refine n5 ?_ | refine n6 ?_ | refine n7 ?_ | refine n8 ?_ | refine n9 (by decide) ?_))
    exact ⟨_, (Le.mv (by simp only [go_sem, hP, hn]; first | done | (simp; done) | (simp [intC]; done) | (repeat (first | rfl | constructor))) (by simp only [go_sem, hP, hn]; first | done | (simp; done) | (simp [intC]; done) | (repeat (first | rfl | constructor)))), ⟨by simpa using hw, h3', h4', h7', h9', hx', hb'⟩, rfl⟩
  rintro s ⟨⟨hw, h3', h4', h7', h9', hx', hb'⟩, rfl⟩
  have hFv : frameV n fs w = fs.flatten := by
    unfold frameV
    rw [if_neg (by rw [hw]; decide), if_neg h3', if_neg h4', if_neg h7', if_neg h9', if_neg hx', if_neg hb']
  rw [hFv]
  (repeat (first | refine Tr.seq ?_ | refine Tr.skip ?_ | refine Tr.label ?_ | refine Tr.block ?_ | refine Tr.scope ?_ | refine gs1 ?_ | refine gs2 ?_ | refine gs3 ?_ | refine Tr.exit ?_ | refine Tr.goto ?_ | refine Tr.ret ?_ | refine n1 ?_ | refine n2 ?_ | refine n3 ?_ | refine n4 ?_ | refine n5 ?_ | refine n6 ?_ | refine n7 ?_ | refine n8 ?_ | refine n9 (by decide) ?_))
  (first | refine r1 ?_ | refine r2 ?_ | refine r3 ?_); intro K hK; simp only [go_sem, hP, hn]; (repeat (refine ⟨by first | trivial | omega | (simp <;> omega) | (simp +contextual; done) | (clear hK; grind), ?_⟩)); refine hK _ ?_; clear K hK
  refine Tr.le (Le.nilslot 3001 5 3 [.i .i64 0] rfl (by rw [hpn] <;> rfl) rfl rfl) ?_
  (repeat (first | refine Tr.seq ?_ | refine Tr.skip ?_ | refine Tr.label ?_ | refine Tr.block ?_ | refine Tr.scope ?_ | refine gs1 ?_ | refine gs2 ?_ | refine gs3 ?_ | refine Tr.exit ?_ | refine Tr.goto ?_ | refine Tr.ret ?_ | refine n1 ?_ | refine n2 ?_ | refine n3 ?_ | refine n4 ?_ | refine n5 ?_ | refine n6 ?_ | refine n7 ?_ | refine n8 ?_ | refine n9 (by decide) ?_))
  (first | refine r1 ?_ | refine r2 ?_ | refine r3 ?_); intro K hK; simp only [go_sem, hP, hn]; (repeat (refine ⟨by first | trivial | omega | (simp <;> omega) | (simp +contextual; done) | (clear hK; grind), ?_⟩)); refine hK _ ?_; clear K hK
  (repeat (first | refine Tr.seq ?_ | refine Tr.skip ?_ | refine Tr.label ?_ | refine Tr.block ?_ | refine Tr.scope ?_ | refine gs1 ?_ | refine gs2 ?_ | refine gs3 ?_ | refine Tr.exit ?_ | refine Tr.goto ?_ | refine Tr.ret ?_ | refine n1 ?_ | refine n2 ?_ | refine n3 ?_ | refine n4 ?_ | refine n5 ?_ | refine n6 ?_ | refine n7 ?_ | refine n8 ?_ | refine n9 (by decide) ?_))
  refine Tr.le (Le.keep [5, 52, 53, 54]) ?_; simp only [List.map_cons, List.map_nil, lk, Nat.reduceEqDiff, reduceIte]
  refine Tr.loop (fun q s => ∃ (i : Int) (L : List Int), s = ⟨[(5, .own 3001), (52, .d (frD fs)), (53, .d (.i .i64 fs.length)), (54, .d (.i .i64 i))], [(3001, .row 3 [.i .i64 0] (L.map intC))]⟩ ∧ 0 ≤ i ∧ i + q = fs.length ∧ L = (fs.take i.toNat).flatten ∧ L.length ≤ i.toNat * 16) fs.length ⟨_, (Le.mv (by simp only [go_sem, hP, hn]; first | done | (simp; done) | (simp [intC]; done) | (repeat (first | rfl | constructor))) (by simp only [go_sem, hP, hn]; first | done | (simp; done) | (simp [intC]; done) | (repeat (first | rfl | constructor)))), 0, [], rfl, by omega, by omega, rfl, by simp⟩ ?_
  rintro q s ⟨i, L, rfl, i0, iq, hL, hLl⟩
  (repeat (first | refine Tr.seq ?_ | refine Tr.skip ?_ | refine Tr.label ?_ | refine Tr.block ?_ | refine Tr.scope ?_ | refine gs1 ?_ | refine gs2 ?_ | refine gs3 ?_ | refine Tr.exit ?_ | refine Tr.goto ?_ | refine Tr.ret ?_ | refine n1 ?_ | refine n2 ?_ | refine n3 ?_ | refine n4 ?_ | refine n5 ?_ | refine n6 ?_ | refine n7 ?_ | refine n8 ?_ | refine n9 (by decide) ?_))
  (first | refine r1 ?_ | refine r2 ?_ | refine r3 ?_); intro K hK; simp only [go_sem, hP, hn]; (repeat (refine ⟨by first | trivial | omega | (simp <;> omega) | (simp +contextual; done) | (clear hK; grind), ?_⟩)); refine hK _ ?_; clear K hK
  (repeat (first | refine Tr.seq ?_ | refine Tr.skip ?_ | refine Tr.label ?_ | refine Tr.block ?_ | refine Tr.scope ?_ | refine gs1 ?_ | refine gs2 ?_ | refine gs3 ?_ | refine Tr.exit ?_ | refine Tr.goto ?_ | refine Tr.ret ?_ | refine n1 ?_ | refine n2 ?_ | refine n3 ?_ | refine n4 ?_ | refine n5 ?_ | refine n6 ?_ | refine n7 ?_ | refine n8 ?_ | refine n9 (by decide) ?_))
  refine Tr.cond rfl (fun hb => ?_) (fun hb => ?_)
  · have hi : i < fs.length := by simpa using hb
    have hfl := h.len _ (fr_mem i0 hi)
    clear hb
    (repeat (first | refine Tr.seq ?_ | refine Tr.skip ?_ | refine Tr.label ?_ | refine Tr.block ?_ | refine Tr.scope ?_ | refine gs1 ?_ | refine gs2 ?_ | refine gs3 ?_ | refine Tr.exit ?_ | refine Tr.goto ?_ | refine Tr.ret ?_ | refine n1 ?_ | refine n2 ?_ | refine n3 ?_ | refine n4 ?_ | refine n5 ?_ | refine n6 ?_ | refine n7 ?_ | refine n8 ?_ | refine n9 (by decide) ?_))
    (first | refine r1 ?_ | refine r2 ?_ | refine r3 ?_); intro K hK; simp only [go_sem, hP, hn]
    rw [rw_fr fs i i0 hi]
    simp only [go_sem, hP, hn]
    (repeat (refine ⟨by first | trivial | omega | (simp <;> omega) | (simp +contextual; done) | (clear hK; grind), ?_⟩))
    refine hK _ ?_; clear K hK
    (repeat (first | refine Tr.seq ?_ | refine Tr.skip ?_ | refine Tr.label ?_ | refine Tr.block ?_ | refine Tr.scope ?_ | refine gs1 ?_ | refine gs2 ?_ | refine gs3 ?_ | refine Tr.exit ?_ | refine Tr.goto ?_ | refine Tr.ret ?_ | refine n1 ?_ | refine n2 ?_ | refine n3 ?_ | refine n4 ?_ | refine n5 ?_ | refine n6 ?_ | refine n7 ?_ | refine n8 ?_ | refine n9 (by decide) ?_))
    (first | refine r1 ?_ | refine r2 ?_ | refine r3 ?_); intro K hK; simp only [go_sem, hP, hn]; (repeat (refine ⟨by first | trivial | omega | (simp <;> omega) | (simp +contextual; done) | (clear hK; grind), ?_⟩)); refine hK _ ?_; clear K hK
    (repeat (first | refine Tr.seq ?_ | refine Tr.skip ?_ | refine Tr.label ?_ | refine Tr.block ?_ | refine Tr.scope ?_ | refine gs1 ?_ | refine gs2 ?_ | refine gs3 ?_ | refine Tr.exit ?_ | refine Tr.goto ?_ | refine Tr.ret ?_ | refine n1 ?_ | refine n2 ?_ | refine n3 ?_ | refine n4 ?_ | refine n5 ?_ | refine n6 ?_ | refine n7 ?_ | refine n8 ?_ | refine n9 (by decide) ?_))
    (first | refine r1 ?_ | refine r2 ?_ | refine r3 ?_); intro K hK; simp only [go_sem, hP, hn]; (repeat (refine ⟨by first | trivial | omega | (simp <;> omega) | (simp +contextual; done) | (clear hK; grind), ?_⟩)); refine hK _ ?_; clear K hK
    (repeat (first | refine Tr.seq ?_ | refine Tr.skip ?_ | refine Tr.label ?_ | refine Tr.block ?_ | refine Tr.scope ?_ | refine gs1 ?_ | refine gs2 ?_ | refine gs3 ?_ | refine Tr.exit ?_ | refine Tr.goto ?_ | refine Tr.ret ?_ | refine n1 ?_ | refine n2 ?_ | refine n3 ?_ | refine n4 ?_ | refine n5 ?_ | refine n6 ?_ | refine n7 ?_ | refine n8 ?_ | refine n9 (by decide) ?_))
    rw [w64 (x := i + 1) (by omega) (by omega)]
    refine ⟨q - 1, _, by omega, ?_, i + 1, L ++ fr fs i, rfl, by omega, by omega, ?_, by rw [List.length_append]; omega⟩
    · refine Le.trans (b := ⟨[(5, .own 60), (52, .d (frD fs)), (53, .d (.i .i64 fs.length)), (54, .d (.i .i64 (i + 1)))], [(60, .row 3 [.i .i64 0] ((L ++ fr fs i).map intC))]⟩) (Le.mv (by simp only [go_sem, hP, hn]; first | done | (simp; done) | (simp [intC]; done) | (repeat (first | rfl | constructor))) (by simp only [go_sem, hP, hn]; first | done | (simp; done) | (simp [intC]; done) | (repeat (first | rfl | constructor)))) ?_
      refine Le.trans (Le.ren 60 3001 (by rw [hpn] <;> rfl) rfl rfl) ?_; simp only [renT, renH, renO, renS, renL, rn, go_sem, hP, hn]
      exact (Le.mv (by simp only [go_sem, hP, hn]; first | done | (simp; done) | (simp [intC]; done) | (repeat (first | rfl | constructor))) (by simp only [go_sem, hP, hn]; first | done | (simp; done) | (simp [intC]; done) | (repeat (first | rfl | constructor))))
    · have hk : i.toNat < fs.length := by omega
      rw [hL, show (i + 1).toNat = i.toNat + 1 by omega, List.take_succ_eq_append_getElem hk, List.flatten_append]
      unfold fr
      rw [List.getD_eq_getElem?_getD, List.getElem?_eq_getElem hk]
      simp
  · have hi : i = fs.length := by have := of_decide_eq_false hb; omega
    subst hi
    rw [Int.toNat_natCast, List.take_of_length_le (Nat.le_refl _)] at hL
    subst hL
    refine Tr.le (Le.keep [5]) ?_; simp only [List.map_cons, List.map_nil, lk, Nat.reduceEqDiff, reduceIte]
    refine Tr.le (Le.ren 3001 2000 (by rw [hpn] <;> rfl) rfl rfl) ?_; simp only [renT, renH, renO, renS, renL, rn, go_sem, hP, hn]
    (repeat (first | ((first | refine r1 ?_ | refine r2 ?_ | refine r3 ?_); intro K hK; simp only [go_sem, hP, hn]; (repeat (refine ⟨by first | trivial | omega | (simp <;> omega) | (simp +contextual; done) | (clear hK; grind), ?_⟩)); refine hK _ ?_; clear K hK) | refine Tr.seq ?_ | refine Tr.skip ?_ | refine Tr.label ?_ | refine Tr.block ?_ | refine Tr.scope ?_ | refine gs1 ?_ | refine gs2 ?_ | refine gs3 ?_ | refine Tr.exit ?_ | refine Tr.goto ?_ | refine Tr.ret ?_ | refine n1 ?_ | refine n2 ?_ | refine n3 ?_ | refine n4 ?_ | refine n5 ?_ | refine n6 ?_ | refine n7 ?_ | refine n8 ?_ | refine n9 (by decide) ?_))
    simp only [RetG, go_sem]; (repeat (with_reducible refine And.intro ?_ ?_; (· first | trivial | omega | (simp <;> omega) | (simp +contextual; done) | (clear hK; grind))))
end
end Go.Proofs.YtgijboakaodcgaaDoor.Aw
namespace Go.Proofs.YtgijboakaodcgaaDoor.Aw
open Go.RowKit
/-! an operation that stands where a call may stand; a value whose nils are rows of none -/
section
variable {E : Env} {ops : List Oper} {o : Oper} {s : St} {rest : List Oper} {K : St → Prop} {d : Nat}
theorem CallN_le {s' : St} (hl : Le E s s') (h : CallN E ops o none s' rest K) : CallN E ops o none s rest K := fun _ hg Q a w η hR hK =>
  let ⟨η', hR'⟩ := hl a w η hR
  h (fun g e => by cases e) hg Q a w η' hR' hK
theorem Le.wagg (i : Nat) {cs : List S} (cs' : List S) (hi : lk s.t i = .agg cs) (h : wk cs cs') : Le E s ⟨(i, .agg cs') :: s.t, s.h⟩ := fun a w η hR => ⟨η, hR.sz, hR.df, fun j => by
  show RS η _ w (lk ((i, .agg cs') :: s.t) j) _
  simp only [lk]
  by_cases e : i = j
  · subst e
    rw [if_pos rfl]
    have := hR.tm i
    rw [hi] at this
    simp only [RS] at this ⊢
    obtain ⟨vs, h1, h2⟩ := this
    exact ⟨vs, h1, wk_ok h h2⟩
  · rw [if_neg e]; exact hR.tm j, hR.ob, hR.ge, hR.sep, hR.bel, hR.pn⟩
end
end Go.Proofs.YtgijboakaodcgaaDoor.Aw
namespace Go.Proofs.YtgijboakaodcgaaDoor.Aw
open Go.RowKit
attribute [local go_sem_proc] Nat.reduceAdd Nat.reduceMul Nat.reduceSub Nat.reduceEqDiff Nat.reduceLeDiff Nat.reduceBEq Nat.reduceBNe Int.reduceToNat reduceIte reduceCtorEq
attribute [local go_sem] initT SQ so pe he ev lk constS stp stc gdS nth pickS pickD loadS cellsAt okAt fieldAddrS fieldS partS indexAddrS indexS extractS binS binD binI isShift unS convS lenS sliceS bndI bndC mmS mm2 mmD builtS fillS okCells cellsS splS solid aliveL alive okS boxS allocS makeS bsliceS elemsOf dcells stF storeS frzA frz frzT frzS frzL frzO frzH appS srcS appVC killS killT killC killH killO k1 k2 S.has S.hasL St.add St.upd dropH lh cond_or cond_and rw_intC rw_intC0 rw_set rw_app rw_apps rw_rep rw_slice wr64 cond_true cond_false true_and and_true List.map_cons List.map_nil List.length_cons List.length_nil List.drop_succ_cons List.drop_zero List.take_succ_cons List.take_zero List.nil_append List.cons_append List.getD_cons_zero List.getD_cons_succ List.headD_cons List.length_map ite_true ite_false if_true if_false Bool.false_eq_true and_self forall_const List.drop_nil List.take_nil List.append_nil Option.map_some Option.map_none List.mapM_cons List.mapM_nil Option.bind_eq_bind Option.bind_some Option.pure_def knows resL resV oneS freshS freshL cv cvL stpL stcL or_true true_or or_false false_or List.all_cons List.all_nil Bool.and_self Bool.or_self Bool.true_and Bool.and_true Bool.or_false Bool.false_or implies_true flatD allm_nil allm_cons List.getElem?_cons_zero List.getElem?_cons_succ Nd.cs Nd.ds ml mln Option.isSome_some Option.isSome_none eq_self Int.toNat_natCast AP ldOk isLd inL subL crt chg chgS chgP idxs aliveW Option.toList_some Option.toList_none Option.toList RetG Nd.win frzA offK keepH aliveK nkH closedH closedO keysK inH St.upd rowO List.contains_cons List.contains_nil Bool.or_self Option.isNone_none Option.isNone_some Bool.not_true Bool.not_false gcs rowN e0N frzC
attribute [local go_sem] sz2 ag2 ok2 kk2 iu2 zc2 zd2 by2 sz3 ag3 ok3 kk3 iu3 zc3 zd3 by3 sz4 ag4 ok4 bo4 zc4 zd4 by4 sz5 ag5 ok5 kk5 iu5 zc5 zd5 by5 sz9 ag9 ok9 st9 zc9 zd9 by9 sz12 ag12 ok12 kk12 iu12 zc12 zd12 by12 sz15 ag15 ok15 zc15 by15 sz16 ag16 ok16 zc16 by16 sz21 ag21 ok21 kk21 iu21 zc21 zd21 by21 sz22 ag22 ok22 sl22 zc22 zd22 by22 sz23 ag23 ok23 zc23 zd23 pl23 by23 fl23_0 fl23_1 fl23_2 fl23_3 fl23_4 fl23_5 sz24 ag24 ok24 zc24 zd24 pl24 by24 fl24_0 fl24_1 fl24_2 fl24_3 fl24_4 fl24_5 sz26 ag26 ok26 zc26 zd26 pl26 by26 fl26_0 fl26_1 fl26_2 fl26_3 fl26_4 fl26_5 fl26_6 fl26_7 fl26_8 fl26_9 fl26_10 fl26_11 fl26_12 fl26_13 fl26_14 sz27 ag27 ok27 zc27 zd27 pl27 by27 fl27_0 fl27_1 fl27_2 fl27_3 fl27_4 fl27_5 fl27_6 fl27_7 fl27_8 fl27_9 fl27_10 fl27_11 fl27_12 fl27_13 fl27_14 sz28 ag28 ok28 sl28 zc28 zd28 by28 sz38 ag38 ok38 sl38 ar38 zc38 zd38 pl38 by38 sz44 ag44 ok44 sl44 ar44 zc44 zd44 pl44 by44 sz45 ag45 ok45 sl45 zc45 zd45 by45 sz46 ag46 ok46 zc46 zd46 pl46 by46 fl46_0 fl46_1 fl46_2 fl46_3 fl46_4 sz47 ag47 ok47 zc47 zd47 pl47 by47 fl47_0 fl47_1 fl47_2 fl47_3 fl47_4 sz49 ag49 ok49 kk49 iu49 zc49 zd49 by49 sz53 ag53 ok53 sl53 ar53 zc53 zd53 pl53 by53 sz54 ag54 ok54 kk54 iu54 zc54 zd54 by54 sz55 ag55 ok55 kk55 iu55 zc55 zd55 by55 sz56 ag56 ok56 sl56 zc56 zd56 by56 sz57 ag57 ok57 kk57 iu57 zc57 zd57 by57 sz60 ag60 ok60 zc60 zd60 pl60 by60 fl60_0 fl60_1 fl60_2 fl60_3 sz61 ag61 ok61 zc61 zd61 pl61 by61 fl61_0 fl61_1 fl61_2 fl61_3 sz64 ag64 ok64 zc64 by64 sz65 ag65 ok65 zc65 zd65 pl65 by65 fl65_0 fl65_1 sz66 ag66 ok66 zc66 zd66 pl66 by66 fl66_0 fl66_1 sz78 ag78 ok78 sl78 ar78 zc78 zd78 pl78 by78 sz79 ag79 ok79 sl79 ar79 zc79 zd79 pl79 by79 sz81 ag81 ok81 zc81 zd81 pl81 by81 fl81_0 fl81_1 sz82 ag82 ok82 zc82 zd82 pl82 by82 fl82_0 fl82_1 sz84 ag84 ok84 zc84 zd84 pl84 by84 fl84_0 fl84_1 fl84_2 fl84_3 sz85 ag85 ok85 zc85 zd85 pl85 by85 fl85_0 fl85_1 fl85_2 fl85_3 sz92 ag92 ok92 sl92 ar92 zc92 zd92 pl92 by92 sz101 ag101 ok101 zc101 zd101 pl101 by101 fl101_0 fl101_1 sz102 ag102 ok102 zc102 zd102 pl102 by102 fl102_0 fl102_1 sz109 ag109 ok109 zc109 zd109 pl109 by109 fl109_0 fl109_1 fl109_2 sz110 ag110 ok110 zc110 zd110 pl110 by110 fl110_0 fl110_1 fl110_2 sz120 ag120 ok120 sl120 ar120 zc120 zd120 pl120 by120 sz121 ag121 ok121 zc121 zd121 pl121 by121 fl121_0 fl121_1 sz122 ag122 ok122 sl122 ar122 zc122 zd122 pl122 by122 sz130 ag130 ok130 zc130 by130 sz140 ag140 ok140 kk140 iu140 zc140 zd140 by140 sz144 ag144 ok144 zc144 by144
theorem Same_c {T : World → Prop} (Tm : TP T) (a b : List Int) (hl : a.length ≤ 4096) : Ct Go.Proofs.Tryd.prog T 14 [.d (.row [.i .i64 0] (a.map intC)), .d (.row [.i .i64 0] (b.map intC))] true (fun r => r = .d (.b (decide (a = b)))) := by
  refine Ct_of Tm Go.Proofs.Tryd.func14 rfl rfl Go.Proofs.Tryd.ntmps14 (by simp) (rs := [.tmp 4]) rfl fun E hP hn hT => ?_
  (repeat (first | ((first | refine r1 ?_ | refine r2 ?_ | refine r3 ?_); intro K hK; simp only [go_sem, hP, hn]; (repeat (refine ⟨by first | trivial | omega | (simp <;> omega) | (simp +contextual; done) | (clear hK; grind), ?_⟩)); refine hK _ ?_; clear K hK) | refine Tr.seq ?_ | refine Tr.skip ?_ | refine Tr.label ?_ | refine Tr.block ?_ | refine Tr.scope ?_ | refine gs1 ?_ | refine gs2 ?_ | refine gs3 ?_ | refine Tr.exit ?_ | refine Tr.goto ?_ | refine Tr.ret ?_ | refine n1 ?_ | refine n2 ?_ | refine n3 ?_ | refine n4 ?_ | refine n5 ?_ | refine n6 ?_ | refine n7 ?_ | refine n8 ?_ | refine n9 (by decide) ?_))
  refine Tr.cond rfl (fun hb => ?_) (fun hb => ?_)
  · (repeat (first | ((first | refine r1 ?_ | refine r2 ?_ | refine r3 ?_); intro K hK; simp only [go_sem, hP, hn]; (repeat (refine ⟨by first | trivial | omega | (simp <;> omega) | (simp +contextual; done) | (clear hK; grind), ?_⟩)); refine hK _ ?_; clear K hK) | refine Tr.seq ?_ | refine Tr.skip ?_ | refine Tr.label ?_ | refine Tr.block ?_ | refine Tr.scope ?_ | refine gs1 ?_ | refine gs2 ?_ | refine gs3 ?_ | refine Tr.exit ?_ | refine Tr.goto ?_ | refine Tr.ret ?_ | refine n1 ?_ | refine n2 ?_ | refine n3 ?_ | refine n4 ?_ | refine n5 ?_ | refine n6 ?_ | refine n7 ?_ | refine n8 ?_ | refine n9 (by decide) ?_))
    simp only [RetQ, go_sem]
    have : ¬ a = b := fun e => by subst e; simp at hb
    simp [this]
  have hlen : a.length = b.length := by simp at hb; omega
  (repeat (first | ((first | refine r1 ?_ | refine r2 ?_ | refine r3 ?_); intro K hK; simp only [go_sem, hP, hn]; (repeat (refine ⟨by first | trivial | omega | (simp <;> omega) | (simp +contextual; done) | (clear hK; grind), ?_⟩)); refine hK _ ?_; clear K hK) | refine Tr.seq ?_ | refine Tr.skip ?_ | refine Tr.label ?_ | refine Tr.block ?_ | refine Tr.scope ?_ | refine gs1 ?_ | refine gs2 ?_ | refine gs3 ?_ | refine Tr.exit ?_ | refine Tr.goto ?_ | refine Tr.ret ?_ | refine n1 ?_ | refine n2 ?_ | refine n3 ?_ | refine n4 ?_ | refine n5 ?_ | refine n6 ?_ | refine n7 ?_ | refine n8 ?_ | refine n9 (by decide) ?_))
  refine Tr.loop (fun n s => ∃ j : Int, s = ⟨[(0, .d (.row [.i .i64 0] (a.map intC))), (1, .d (.row [.i .i64 0] (b.map intC))), (5, .d (.i .i64 j))], []⟩ ∧ 0 ≤ j ∧ j + n = a.length ∧ (a = b ↔ a.drop j.toNat = b.drop j.toNat)) a.length ⟨_, (Le.mv (by simp only [go_sem, hP, hn]; first | done | (simp; done) | (simp [intC]; done) | (repeat (first | rfl | constructor))) (by simp only [go_sem, hP, hn]; first | done | (simp; done) | (simp [intC]; done) | (repeat (first | rfl | constructor)))), 0, rfl, by omega, by omega, by simp⟩ ?_
  rintro n s ⟨j, rfl, h0, h1, h2⟩
  (repeat (first | ((first | refine r1 ?_ | refine r2 ?_ | refine r3 ?_); intro K hK; simp only [go_sem, hP, hn]; (repeat (refine ⟨by first | trivial | omega | (simp <;> omega) | (simp +contextual; done) | (clear hK; grind), ?_⟩)); refine hK _ ?_; clear K hK) | refine Tr.seq ?_ | refine Tr.skip ?_ | refine Tr.label ?_ | refine Tr.block ?_ | refine Tr.scope ?_ | refine gs1 ?_ | refine gs2 ?_ | refine gs3 ?_ | refine Tr.exit ?_ | refine Tr.goto ?_ | refine Tr.ret ?_ | refine n1 ?_ | refine n2 ?_ | refine n3 ?_ | refine n4 ?_ | refine n5 ?_ | refine n6 ?_ | refine n7 ?_ | refine n8 ?_ | refine n9 (by decide) ?_))
  refine Tr.cond rfl (fun hb => ?_) (fun hb => ?_)
  · have hj : j < a.length := by simpa using hb
    (repeat (first | ((first | refine r1 ?_ | refine r2 ?_ | refine r3 ?_); intro K hK; simp only [go_sem, hP, hn]; (repeat (refine ⟨by first | trivial | omega | (simp <;> omega) | (simp +contextual; done) | (clear hK; grind), ?_⟩)); refine hK _ ?_; clear K hK) | refine Tr.seq ?_ | refine Tr.skip ?_ | refine Tr.label ?_ | refine Tr.block ?_ | refine Tr.scope ?_ | refine gs1 ?_ | refine gs2 ?_ | refine gs3 ?_ | refine Tr.exit ?_ | refine Tr.goto ?_ | refine Tr.ret ?_ | refine n1 ?_ | refine n2 ?_ | refine n3 ?_ | refine n4 ?_ | refine n5 ?_ | refine n6 ?_ | refine n7 ?_ | refine n8 ?_ | refine n9 (by decide) ?_))
    (first | refine d1 (.p true 0 (.p true 1 (.p true 2 (.p true 3 (.p true 4 (.p true 5 (.p true 6 (.p true 7 (.p true 8 .nil))))))))) [] (by rw [hP]; kernel_rfl) (by kernel_rfl) (by simp only [go_sem, hP, hn]; try simp) (fun _ _ h => h) fun K hK => ?_ | refine d2 (.p true 0 (.p true 1 (.p true 2 (.p true 3 (.p true 4 (.p true 5 (.p true 6 (.p true 7 (.p true 8 .nil))))))))) [] (by rw [hP]; kernel_rfl) (by kernel_rfl) (by simp only [go_sem, hP, hn]; try simp) (fun _ _ h => h) fun K hK => ?_ | refine d4 (.p true 0 (.p true 1 (.p true 2 (.p true 3 (.p true 4 (.p true 5 (.p true 6 (.p true 7 (.p true 8 .nil))))))))) [] (by rw [hP]; kernel_rfl) (by kernel_rfl) (by simp only [go_sem, hP, hn]; try simp) (fun _ _ h => h) fun K hK => ?_); simp only [go_sem, hP, hn]; (repeat (refine ⟨by first | trivial | omega | (simp <;> omega) | (simp +contextual; done) | (clear hK; grind), ?_⟩)); refine hK _ ?_; clear K hK
    refine Tr.cond rfl (fun hb => ?_) (fun hb => ?_)
    · (repeat (first | ((first | refine r1 ?_ | refine r2 ?_ | refine r3 ?_); intro K hK; simp only [go_sem, hP, hn]; (repeat (refine ⟨by first | trivial | omega | (simp <;> omega) | (simp +contextual; done) | (clear hK; grind), ?_⟩)); refine hK _ ?_; clear K hK) | refine Tr.seq ?_ | refine Tr.skip ?_ | refine Tr.label ?_ | refine Tr.block ?_ | refine Tr.scope ?_ | refine gs1 ?_ | refine gs2 ?_ | refine gs3 ?_ | refine Tr.exit ?_ | refine Tr.goto ?_ | refine Tr.ret ?_ | refine n1 ?_ | refine n2 ?_ | refine n3 ?_ | refine n4 ?_ | refine n5 ?_ | refine n6 ?_ | refine n7 ?_ | refine n8 ?_ | refine n9 (by decide) ?_))
      simp only [RetQ, go_sem]
      rw [drop_rd h0 hj, drop_rd h0 (by omega)] at h2
      have : ¬ a = b := fun e => by have := h2.1 e; simp_all
      simp [this]
    · (repeat (first | ((first | refine r1 ?_ | refine r2 ?_ | refine r3 ?_); intro K hK; simp only [go_sem, hP, hn]; (repeat (refine ⟨by first | trivial | omega | (simp <;> omega) | (simp +contextual; done) | (clear hK; grind), ?_⟩)); refine hK _ ?_; clear K hK) | refine Tr.seq ?_ | refine Tr.skip ?_ | refine Tr.label ?_ | refine Tr.block ?_ | refine Tr.scope ?_ | refine gs1 ?_ | refine gs2 ?_ | refine gs3 ?_ | refine Tr.exit ?_ | refine Tr.goto ?_ | refine Tr.ret ?_ | refine n1 ?_ | refine n2 ?_ | refine n3 ?_ | refine n4 ?_ | refine n5 ?_ | refine n6 ?_ | refine n7 ?_ | refine n8 ?_ | refine n9 (by decide) ?_))
      rw [w64 (by omega) (by omega)]
      refine ⟨n - 1, _, by omega, ?_, j + 1, rfl, by omega, by omega, ?_⟩
      · exact (Le.mv (by simp only [go_sem, hP, hn]; first | done | (simp; done) | (simp [intC]; done) | (repeat (first | rfl | constructor))) (by simp only [go_sem, hP, hn]; first | done | (simp; done) | (simp [intC]; done) | (repeat (first | rfl | constructor))))
      rw [drop_rd h0 hj, drop_rd h0 (by omega)] at h2
      simp_all
  · (repeat (first | ((first | refine r1 ?_ | refine r2 ?_ | refine r3 ?_); intro K hK; simp only [go_sem, hP, hn]; (repeat (refine ⟨by first | trivial | omega | (simp <;> omega) | (simp +contextual; done) | (clear hK; grind), ?_⟩)); refine hK _ ?_; clear K hK) | refine Tr.seq ?_ | refine Tr.skip ?_ | refine Tr.label ?_ | refine Tr.block ?_ | refine Tr.scope ?_ | refine gs1 ?_ | refine gs2 ?_ | refine gs3 ?_ | refine Tr.exit ?_ | refine Tr.goto ?_ | refine Tr.ret ?_ | refine n1 ?_ | refine n2 ?_ | refine n3 ?_ | refine n4 ?_ | refine n5 ?_ | refine n6 ?_ | refine n7 ?_ | refine n8 ?_ | refine n9 (by decide) ?_))
    simp only [RetQ, go_sem]
    rw [drop_end (by simpa using hb), drop_end (by have := of_decide_eq_false hb; omega)] at h2
    have : a = b := h2.2 rfl
    simp [this]
section
attribute [local go_sem] frD frE
def nA : Nd := ⟨6, [0], 1, 0, 0, 0, 0, 0, [2, -1], [5], 0, 0, 0, 0, 0⟩
def nBst : Nd := ⟨11, [0], 0, 0, 0, 0, 0, 0, [], [], 0, 0, 0, 0, 0⟩
theorem nA_ok : KOk nA [[3, 4]] 2 := ⟨by decide, by decide, by simp, (by simp; decide), fun e => (by cases (show (false : Bool) = true from e)), fun e => (by cases (show (false : Bool) = true from e)), fun _ _ _ => rfl, by decide +kernel, by decide, by decide, by decide⟩
theorem nBst_ok : KOk nBst [[4, 9, 9]] 3 := ⟨by decide, by decide, by simp, (by simp; decide), fun e => (by cases (show (false : Bool) = true from e)), fun e => (by cases (show (false : Bool) = true from e)), fun _ _ _ => rfl, by decide +kernel, by decide, by decide, by decide⟩
theorem nA_v : frameV nA [[3, 4]] 2 = [7] := by decide +kernel
theorem nBst_v : frameV nBst [[4, 9, 9]] 3 = [1] := by decide +kernel
attribute [local go_sem] nA nBst
theorem awake17_c {T : World → Prop} (Tk : KT T) : Cg Go.Proofs.Tryd.prog T 12 [] [] (fun r H => H = [] ∧ r = .d (.b true)) := by
  have hA := Frame_c Tk nA [[3, 4]] 2 nA_ok
  have hB := Frame_c Tk nBst [[4, 9, 9]] 3 nBst_ok
  rw [nA_v] at hA
  rw [nBst_v] at hB
  refine Cg_of [] Tk.m Go.Proofs.Tryd.func12 rfl rfl Go.Proofs.Tryd.ntmps12 (by simp) rfl (rs := [.tmp 0]) rfl fun E hP hn hT hpn => ?_
  (repeat (first | refine Tr.seq ?_ | refine Tr.skip ?_ | refine Tr.label ?_ | refine Tr.block ?_ | refine Tr.scope ?_ | refine gs1 ?_ | refine gs2 ?_ | refine gs3 ?_ | refine Tr.exit ?_ | refine Tr.goto ?_ | refine Tr.ret ?_ | refine n1 ?_ | refine n2 ?_ | refine n3 ?_ | refine n4 ?_ | refine n5 ?_ | refine n6 ?_ | refine n7 ?_ | refine n8 ?_ | refine n9 (by decide) ?_))
  (first | refine r1 ?_ | refine r2 ?_ | refine r3 ?_); intro K hK; simp only [go_sem, hP, hn]; (repeat (refine ⟨by first | trivial | omega | (simp <;> omega) | (simp +contextual; done) | (clear hK; grind), ?_⟩)); refine hK _ ?_; clear K hK
  (repeat (first | refine Tr.seq ?_ | refine Tr.skip ?_ | refine Tr.label ?_ | refine Tr.block ?_ | refine Tr.scope ?_ | refine gs1 ?_ | refine gs2 ?_ | refine gs3 ?_ | refine Tr.exit ?_ | refine Tr.goto ?_ | refine Tr.ret ?_ | refine n1 ?_ | refine n2 ?_ | refine n3 ?_ | refine n4 ?_ | refine n5 ?_ | refine n6 ?_ | refine n7 ?_ | refine n8 ?_ | refine n9 (by decide) ?_))
  (first | refine r1 ?_ | refine r2 ?_ | refine r3 ?_); intro K hK; simp only [go_sem, hP, hn]
  (repeat (refine ⟨by first | trivial | omega | (simp <;> omega) | (simp +contextual; done) | (clear hK; grind), ?_⟩))
  refine CallN_frz 3 ?_; simp only [go_sem, hP, hn]
  refine CallN_frz 4 ?_; simp only [go_sem, hP, hn]
  refine CallN_frz 5 ?_; simp only [go_sem, hP, hn]
  refine CallN_frz 8 ?_; simp only [go_sem, hP, hn]
  refine CallN_cx (Hi := []) (by rw [hP, hT]; exact hA ) rfl rfl rfl trivial (by simp only [go_sem, hP, hn]; try trivial) (by simp only [go_sem, hP, hn]; try rfl) trivial (by rw [hn]; decide) (fun r Ho hr => ?_); obtain  ⟨rfl, rfl⟩ := hr; refine ⟨fun k _ => hpn k rfl, ?_⟩; simp only [cgS, newK, touK, go_sem, hP, hn]; (repeat (refine ⟨by first | trivial | omega | (simp <;> omega) | (simp +contextual; done) | (clear hK; grind), ?_⟩))
  refine CallN_frz 10 ?_; simp only [go_sem, hP, hn]
  refine CallN_frz 2000 ?_; simp only [go_sem, hP, hn]
  refine c1 (by rw [hP, hT]; exact Same_c Tk.m [7] [7] (by decide)) rfl rfl rfl trivial (by simp only [go_sem, hP, hn]; try trivial) (by simp only [go_sem, hP, hn]; try rfl) (by rw [hn]; decide) (by rfl) ?_; simp only [go_sem, hP, hn]; (repeat (refine ⟨by first | trivial | omega | (simp <;> omega) | (simp +contextual; done) | (clear hK; grind), ?_⟩))
  refine hK _ ?_; clear K hK
  refine Tr.le (Le.keep [1]) ?_; simp only [List.map_cons, List.map_nil, lk, Nat.reduceEqDiff, reduceIte]
  (repeat (first | refine Tr.seq ?_ | refine Tr.skip ?_ | refine Tr.label ?_ | refine Tr.block ?_ | refine Tr.scope ?_ | refine gs1 ?_ | refine gs2 ?_ | refine gs3 ?_ | refine Tr.exit ?_ | refine Tr.goto ?_ | refine Tr.ret ?_ | refine n1 ?_ | refine n2 ?_ | refine n3 ?_ | refine n4 ?_ | refine n5 ?_ | refine n6 ?_ | refine n7 ?_ | refine n8 ?_ | refine n9 (by decide) ?_))
  (first | refine r1 ?_ | refine r2 ?_ | refine r3 ?_); intro K hK; simp only [go_sem, hP, hn]
  (repeat (refine ⟨by first | trivial | omega | (simp <;> omega) | (simp +contextual; done) | (clear hK; grind), ?_⟩))
  refine CallN_frz 12 ?_; simp only [go_sem, hP, hn]
  refine CallN_frz 15 ?_; simp only [go_sem, hP, hn]
  refine CallN_le (Le.wagg 13 nBst.cs rfl (by simp [wk, Nd.cs, intC, go_sem])) ?_; simp only [go_sem, hP, hn]
  refine CallN_cx (Hi := []) (by rw [hP, hT]; exact hB ) rfl rfl rfl trivial (by simp only [go_sem, hP, hn]; try trivial) (by simp only [go_sem, hP, hn]; try rfl) trivial (by rw [hn]; decide) (fun r Ho hr => ?_); obtain  ⟨rfl, rfl⟩ := hr; refine ⟨fun k _ => hpn k rfl, ?_⟩; simp only [cgS, newK, touK, go_sem, hP, hn]; (repeat (refine ⟨by first | trivial | omega | (simp <;> omega) | (simp +contextual; done) | (clear hK; grind), ?_⟩))
  refine CallN_frz 17 ?_; simp only [go_sem, hP, hn]
  refine CallN_frz 2000 ?_; simp only [go_sem, hP, hn]
  refine c1 (by rw [hP, hT]; exact Same_c Tk.m [1] [1] (by decide)) rfl rfl rfl trivial (by simp only [go_sem, hP, hn]; try trivial) (by simp only [go_sem, hP, hn]; try rfl) (by rw [hn]; decide) (by rfl) ?_; simp only [go_sem, hP, hn]; (repeat (refine ⟨by first | trivial | omega | (simp <;> omega) | (simp +contextual; done) | (clear hK; grind), ?_⟩))
  refine hK _ ?_; clear K hK
  refine Tr.le (Le.keep [1, 2]) ?_; simp only [List.map_cons, List.map_nil, lk, Nat.reduceEqDiff, reduceIte]
  (repeat (first | ((first | refine r1 ?_ | refine r2 ?_ | refine r3 ?_); intro K hK; simp only [go_sem, hP, hn]; (repeat (refine ⟨by first | trivial | omega | (simp <;> omega) | (simp +contextual; done) | (clear hK; grind), ?_⟩)); refine hK _ ?_; clear K hK) | refine Tr.seq ?_ | refine Tr.skip ?_ | refine Tr.label ?_ | refine Tr.block ?_ | refine Tr.scope ?_ | refine gs1 ?_ | refine gs2 ?_ | refine gs3 ?_ | refine Tr.exit ?_ | refine Tr.goto ?_ | refine Tr.ret ?_ | refine n1 ?_ | refine n2 ?_ | refine n3 ?_ | refine n4 ?_ | refine n5 ?_ | refine n6 ?_ | refine n7 ?_ | refine n8 ?_ | refine n9 (by decide) ?_))
  simp only [RetG, go_sem]; (repeat (with_reducible refine And.intro ?_ ?_; (· first | trivial | omega | (simp <;> omega) | (simp +contextual; done) | (clear hK; grind))))
  rfl
end
end Go.Proofs.YtgijboakaodcgaaDoor.Aw
namespace Go.Proofs.YtgijboakaodcgaaDoor.Aw
open Go.RowKit
/-! the plain law of kernels -/
theorem scale32 (x m s : Int) : in32 (scaleV x m s) := by
  unfold scaleV
  split
  · exact clamp32 _
  · decide
theorem pst32 (n : Nd) (x : Int) (hl : -2147483648 ≤ n.low) (hm : n.low ≤ n.high) (hh : n.high ≤ 2147483647) : in32 (n.pst x) := by
  unfold Nd.pst
  split
  · have := clampV_in (x := if (Go.bits .and .i64 n.post 1 != 0) = true then scaleV (clampV x (-2147483648) 2147483647) n.mult n.shift else clampV x (-2147483648) 2147483647) hm
    unfold in32; omega
  · split
    · exact scale32 _ _ _
    · exact clamp32 _
/-- another Post, another Bias, and what they need -/
def Nd.wq (n : Nd) (bs : List Int) (mu sh lo hi po : Int) : Nd := { n with bs := bs, mult := mu, shift := sh, low := lo, high := hi, post := po }
def Nd.wp (n : Nd) (mu sh lo hi po : Int) : Nd := n.wq n.bs mu sh lo hi po
theorem rchk_postq {n : Nd} {l bs : List Int} {mu sh lo hi po : Int} (h : n.rchk l = 0) (hw : rWeighs n.k = true) (hbl : bs.length = n.bs.length) (h21 : ∀ v m, n.s21 v m = false → (n.wq bs mu sh lo hi po).s21 v m = false) (h9 : 0 ≤ po ∧ po ≤ 3) (h12 : (n.wq bs mu sh lo hi po).e12 = true) (h27 : (n.wq bs mu sh lo hi po).s27 = true) : (n.wq bs mu sh lo hi po).rchk l = 0 := by
  obtain ⟨c1, c7, c9, he, hs, hL⟩ := rchk_unpack h
  have d1 : (n.wq bs mu sh lo hi po).chk1 l = false := c1
  have d7 : (n.wq bs mu sh lo hi po).r7 l = false := c7
  have d9 : (n.wq bs mu sh lo hi po).r9 = false := by
    show (decide (po < 0) || decide (3 < po) || po != 0 && !rWeighs n.k) = false
    rw [hw, decide_eq_false (by omega), decide_eq_false (by omega)]; simp
  have de : (n.wq bs mu sh lo hi po).else0 = true := by
    show (if n.e6 = true then false else if n.e8 = true then false else if (n.wq bs mu sh lo hi po).e10 = true then false else (n.wq bs mu sh lo hi po).e12) = true
    unfold Nd.else0 at he
    rw [h12]
    split at he
    · cases he
    · rename_i q1
      rw [if_neg q1]
      split at he
      · cases he
      · rename_i q2
        rw [if_neg q2]
        split at he
        · cases he
        · rename_i q3
          rw [if_neg (by rw [show (n.wq bs mu sh lo hi po).e10 = n.e10 by unfold Nd.e10; rw [show (n.wq bs mu sh lo hi po).bs.length = n.bs.length from hbl]; rfl]; exact q3)]
  have ds : (n.wq bs mu sh lo hi po).sized (rd l 0) = true := by
    show (if n.s4 = true then false else if n.s8 = true then false else if n.s10 = true then false else if n.s13 = true then false else
      if rWeighs n.k = true then (if ((n.wq bs mu sh lo hi po).s21 (rd l 0) (if (n.k == 2) = true then rd l 0 else n.wid)) = true then false else (n.wq bs mu sh lo hi po).s27) else (n.wq bs mu sh lo hi po).s27) = true
    unfold Nd.sized at hs
    rw [h27]
    rw [if_pos hw] at hs ⊢
    split at hs
    · cases hs
    · rename_i q1
      rw [if_neg q1]
      split at hs
      · cases hs
      · rename_i q2
        rw [if_neg q2]
        split at hs
        · cases hs
        · rename_i q3
          rw [if_neg q3]
          split at hs
          · cases hs
          · rename_i q4
            rw [if_neg q4]
            generalize (if (n.k == 2) = true then rd l 0 else n.wid) = mm at hs ⊢
            split at hs
            · cases hs
            · rename_i q5
              rw [if_neg (by rw [h21 _ _ (by simpa using q5)]; decide)]
  have dL : (n.wq bs mu sh lo hi po).chkL (rd l 0) 0 l = 0 := by
    have : ∀ (v s : Int) (l : List Int), (n.wq bs mu sh lo hi po).chkL v s l = n.chkL v s l := by
      intro v s l
      induction l generalizing s with
      | nil => rfl
      | cons x l ih => simp only [Nd.chkL]; rw [ih]; rfl
    exact (this _ _ _).trans hL
  unfold Nd.rchk
  rw [d1, d7, d9, de, ds, dL]
  rfl
theorem rchk_post {n : Nd} {l : List Int} {mu sh lo hi po : Int} (h : n.rchk l = 0) (hw : rWeighs n.k = true) (h9 : 0 ≤ po ∧ po ≤ 3) (h12 : (n.wp mu sh lo hi po).e12 = true) (h27 : (n.wp mu sh lo hi po).s27 = true) : (n.wp mu sh lo hi po).rchk l = 0 :=
  rchk_postq h hw rfl (fun _ _ h => h) h9 h12 h27
theorem KOk.wp {n : Nd} {fs : List (List Int)} {w : Nat} {mu sh lo hi po : Int} (h : KOk n fs w) (hw : rWeighs n.k = true) (h9 : 0 ≤ po ∧ po ≤ 3) (h12 : (n.wp mu sh lo hi po).e12 = true) (h27 : (n.wp mu sh lo hi po).s27 = true) : KOk (n.wp mu sh lo hi po) fs w :=
  ⟨h.w0, h.m0, h.len, h.num, h.win, h.many, h.one, rchk_post h.chk hw h9 h12 h27, h.il, h.wl, h.bl⟩
theorem weighed_num {n : Nd} {fs : List (List Int)} {w : Nat} (hl : -2147483648 ≤ n.low) (hm : n.low ≤ n.high) (hh : n.high ≤ 2147483647) : ∀ b, ∀ x ∈ weighedN n fs w b, in32 x
  | 0, x, hx => by simp [weighedN] at hx
  | b + 1, x, hx => by
    unfold weighedN at hx
    rcases List.mem_append.1 hx with h | h
    · exact weighed_num hl hm hh b x h
    · obtain rfl := List.mem_singleton.1 h; exact pst32 n _ hl hm hh
theorem KOk.s27 {n : Nd} {fs : List (List Int)} {w : Nat} (h : KOk n fs w) : n.s27 = true := by
  have hs := h.sized
  unfold Nd.sized at hs
  repeat' (split at hs <;> try (cases hs; done))
  all_goals exact hs
set_option maxRecDepth 100000
/-! the plain law of kernels: sums -/
theorem mul_abs (a b : Int) (ha : -128 ≤ a ∧ a ≤ 128) (hb : -512 ≤ b ∧ b ≤ 512) : -65536 ≤ a * b ∧ a * b ≤ 65536 := by
  have h1 : (a * b).natAbs ≤ 128 * 512 := by
    rw [Int.natAbs_mul]
    exact Nat.mul_le_mul (by omega) (by omega)
  omega
theorem dotK_lin (ws f g h : List Int) (o : Int) (hw : ∀ i, -128 ≤ rd ws i ∧ rd ws i ≤ 128) (B x y : Int) (hx : -B ≤ x ∧ x ≤ B) (hy : -B ≤ y ∧ y ≤ B) : ∀ (k : Nat), B + k * 65536 ≤ 1099511627776 → (∀ i : Nat, i < k → rd h i = rd f i + rd g i ∧ (-512 ≤ rd f i ∧ rd f i ≤ 512) ∧ -512 ≤ rd g i ∧ rd g i ≤ 512) →
    dotK ws o h k (x + y) = dotK ws o f k x + dotK ws o g k y ∧ (-(B + k * 65536) ≤ dotK ws o f k x ∧ dotK ws o f k x ≤ B + k * 65536) ∧ -(B + k * 65536) ≤ dotK ws o g k y ∧ dotK ws o g k y ≤ B + k * 65536 := by
  intro k
  induction k with
  | zero => intro _ _; simp only [dotK]; refine ⟨trivial, ?_, ?_⟩ <;> omega
  | succ k ih =>
    intro hB hf
    obtain ⟨e, b1, b2⟩ := ih (by omega) (fun i hi => hf i (by omega))
    obtain ⟨h1, h2, h3⟩ := hf k (by omega)
    have m1 := mul_abs _ _ (hw (o + (k : Nat))) h2
    have m2 := mul_abs _ _ (hw (o + (k : Nat))) h3
    simp only [dotK]
    rw [h1, e, Int.mul_add]
    generalize rd ws (o + (k : Nat)) * rd f (k : Nat) = p at m1 ⊢
    generalize rd ws (o + (k : Nat)) * rd g (k : Nat) = q at m2 ⊢
    generalize dotK ws o f k x = u at b1 ⊢
    generalize dotK ws o g k y = v at b2 ⊢
    rw [w64 (x := p) (by omega) (by omega), w64 (x := q) (by omega) (by omega), w64 (x := p + q) (by omega) (by omega), w64 (x := u + p) (by omega) (by omega), w64 (x := v + q) (by omega) (by omega), w64 (by omega) (by omega)]
    refine ⟨by omega, ?_, ?_⟩ <;> omega
structure Adds (fs gs hs : List (List Int)) (w : Nat) : Prop where
  fl : gs.length = fs.length
  hl : hs.length = fs.length
  add : ∀ j k : Int, 0 ≤ j → j < fs.length → 0 ≤ k → k < w → rd (fr hs j) k = rd (fr fs j) k + rd (fr gs j) k ∧ (-512 ≤ rd (fr fs j) k ∧ rd (fr fs j) k ≤ 512) ∧ -512 ≤ rd (fr gs j) k ∧ rd (fr gs j) k ≤ 512
theorem accW_lin {n : Nd} {fs gs hs : List (List Int)} {w : Nat} (hA : Adds fs gs hs w) (hw : ∀ i, -128 ≤ rd n.ws i ∧ rd n.ws i ≤ 128) (hw1 : 1 ≤ w ∧ w ≤ 16) (c : Int) (c0 : 0 ≤ c) (c1 : n.k = 2 → c < w) (hb : rd n.bs c = 0) : ∀ j : Nat, j ≤ fs.length → j ≤ 16 →
    accW n hs w c j = accW n fs w c j + accW n gs w c j ∧ (-(j * 1048576) ≤ accW n fs w c j ∧ accW n fs w c j ≤ j * 1048576) ∧ -(j * 1048576) ≤ accW n gs w c j ∧ accW n gs w c j ≤ j * 1048576
  | 0, _, _ => by simp only [accW, hb]; omega
  | j + 1, h1, h2 => by
    obtain ⟨e, b1, b2⟩ := accW_lin hA hw hw1 c c0 c1 hb j (by omega) (by omega)
    simp only [accW]
    rw [e, hA.hl, hA.fl]
    have key := dotK_lin n.ws (rowF n fs c j) (rowF n gs c j) (rowF n hs c j) ((c * fs.length + j) * stW n w) hw (j * 1048576) _ _ b1 b2 (stW n w) (by unfold stW; split <;> omega) (fun i hi => by
      unfold rowF
      unfold stW at hi
      split
      · rename_i h2
        rw [if_pos h2] at hi
        obtain rfl : i = 0 := by omega
        exact hA.add j c (by omega) (by omega) c0 (c1 h2)
      · rename_i h2
        rw [if_neg h2] at hi
        exact hA.add j i (by omega) (by omega) (by omega) (by omega))
    have hs : stW n w ≤ 16 := by unfold stW; split <;> omega
    refine ⟨key.1, ?_, ?_⟩ <;> omega
/-- without Post, and Bias -/
def Nd.w0 (n : Nd) : Nd := n.wq (List.replicate n.bs.length 0) 0 0 0 0 0
theorem rep_rd (m : Nat) (c : Int) : rd (List.replicate m 0) c = 0 := by
  unfold rd
  rw [List.getD_eq_getElem?_getD, List.getElem?_replicate]
  split <;> rfl
theorem all_rd {ws : List Int} (h : ws.all (inB · (-128) 127) = true) (i : Int) : -128 ≤ rd ws i ∧ rd ws i ≤ 128 := by
  unfold rd
  rw [List.getD_eq_getElem?_getD]
  cases hq : ws[i.toNat]? with
  | none => simp
  | some z =>
    have := inB_iff.1 (List.all_eq_true.1 h z (List.mem_of_getElem? hq))
    simp; omega
theorem KOk.w0' {n : Nd} {fs : List (List Int)} {w : Nat} (h : KOk n fs w) (hw : rWeighs n.k = true) : KOk n.w0 fs w := by
  refine ⟨h.w0, h.m0, h.len, h.num, h.win, h.many, h.one, rchk_postq h.chk hw (by simp) (fun v m hv => ?_) (by omega) ?_ ?_, h.il, h.wl, by have := h.bl; show (List.replicate n.bs.length (0 : Int)).length ≤ 4096; rw [List.length_replicate]; exact this⟩
  · unfold Nd.s21 at hv ⊢
    simp only [Bool.or_eq_false_iff] at hv ⊢
    refine ⟨⟨⟨hv.1.1.1, ?_⟩, hv.1.2⟩, ?_⟩
    · have := hv.1.1.2
      show (((List.replicate n.bs.length (0 : Int)).length : Int) != m) = false
      rw [List.length_replicate]; exact this
    · show (!(List.replicate n.bs.length (0 : Int)).all (inB · (-16777216) 16777216)) = false
      rw [Bool.not_eq_false', List.all_eq_true]
      intro x hx
      obtain rfl := List.eq_of_mem_replicate hx
      decide
  · show ((n.k == 10 || Go.bits .and .i64 0 1 == 1 || (0 : Int) == 0 && (0 : Int) == 0) && (n.k == 9 || Go.bits .and .i64 0 2 == 2 || (0 : Int) == 0 && (0 : Int) == 0)) = true
    simp
  · rfl
theorem KOk.wsall {n : Nd} {fs : List (List Int)} {w : Nat} (h : KOk n fs w) (hw : rWeighs n.k = true) : n.ws.all (inB · (-128) 127) = true := by
  have hs := h.sized
  unfold Nd.sized at hs
  rw [if_pos hw] at hs
  have h21 : n.s21 w (if (n.k == 2) = true then (w : Int) else n.wid) = false := by
    cases e : n.s21 w (if (n.k == 2) = true then (w : Int) else n.wid) with
    | false => rfl
    | true => rw [e] at hs; simp at hs
  unfold Nd.s21 at h21
  simp only [Bool.or_eq_false_iff, Bool.not_eq_false'] at h21
  exact h21.1.2
theorem w0_pst (n : Nd) (x : Int) : n.w0.pst x = clampV x (-2147483648) 2147483647 := by
  show (if (Go.bits .and .i64 0 2 != 0) = true then _ else if (Go.bits .and .i64 0 1 != 0) = true then _ else _) = _
  rw [if_neg (by decide), if_neg (by decide)]
theorem sums {n : Nd} {fs gs hs : List (List Int)} {w : Nat} (h : KOk n.w0 fs w) (hw : rWeighs n.k = true) (hA : Adds fs gs hs w) (c : Int) (c0 : 0 ≤ c) (c1 : c < n.bs.length) :
    rd (weighedV n.w0 hs w) c = rd (weighedV n.w0 fs w) c + rd (weighedV n.w0 gs w) c := by
  have hk := h.wok hw
  have hbl : n.w0.bs.length = n.bs.length := by simp [Nd.w0, Nd.wq]
  obtain ⟨e, b1, b2⟩ := accW_lin (n := n.w0) hA (all_rd (h.wsall hw)) h.w0 c c0 (fun h2 => by have := hk.dp h2; omega) (rep_rd _ _) fs.length (Nat.le_refl _) h.m0.2
  have hm := h.m0
  unfold weighedV
  rw [weighedN_rd _ _ _ _ _ c0 (by omega), weighedN_rd _ _ _ _ _ c0 (by omega), weighedN_rd _ _ _ _ _ c0 (by omega), w0_pst, w0_pst, w0_pst, hA.hl, hA.fl, e, clampV_id (by omega) (by omega), clampV_id (by omega) (by omega), clampV_id (by omega) (by omega)]
end Go.Proofs.YtgijboakaodcgaaDoor.Aw
namespace Go.Proofs.YtgijboakaodcgaaDoor.Aw
open Go.RowKit
attribute [local go_sem_proc] Nat.reduceAdd Nat.reduceMul Nat.reduceSub Nat.reduceEqDiff Nat.reduceLeDiff Nat.reduceBEq Nat.reduceBNe Int.reduceToNat reduceIte reduceCtorEq
attribute [local go_sem] initT SQ so pe he ev lk constS stp stc gdS nth pickS pickD loadS cellsAt okAt fieldAddrS fieldS partS indexAddrS indexS extractS binS binD binI isShift unS convS lenS sliceS bndI bndC mmS mm2 mmD builtS fillS okCells cellsS splS solid aliveL alive okS boxS allocS makeS bsliceS elemsOf dcells stF storeS frzA frz frzT frzS frzL frzO frzH appS srcS appVC killS killT killC killH killO k1 k2 S.has S.hasL St.add St.upd dropH lh cond_or cond_and rw_intC rw_intC0 rw_set rw_app rw_apps rw_rep rw_slice wr64 cond_true cond_false true_and and_true List.map_cons List.map_nil List.length_cons List.length_nil List.drop_succ_cons List.drop_zero List.take_succ_cons List.take_zero List.nil_append List.cons_append List.getD_cons_zero List.getD_cons_succ List.headD_cons List.length_map ite_true ite_false if_true if_false Bool.false_eq_true and_self forall_const List.drop_nil List.take_nil List.append_nil Option.map_some Option.map_none List.mapM_cons List.mapM_nil Option.bind_eq_bind Option.bind_some Option.pure_def knows resL resV oneS freshS freshL cv cvL stpL stcL or_true true_or or_false false_or List.all_cons List.all_nil Bool.and_self Bool.or_self Bool.true_and Bool.and_true Bool.or_false Bool.false_or implies_true flatD allm_nil allm_cons List.getElem?_cons_zero List.getElem?_cons_succ Nd.cs Nd.ds ml mln Option.isSome_some Option.isSome_none eq_self Int.toNat_natCast AP ldOk isLd inL subL crt chg chgS chgP idxs aliveW Option.toList_some Option.toList_none Option.toList RetG Nd.win frzA offK keepH aliveK nkH closedH closedO keysK inH St.upd rowO List.contains_cons List.contains_nil Bool.or_self Option.isNone_none Option.isNone_some Bool.not_true Bool.not_false gcs rowN e0N frzC
attribute [local go_sem] sz2 ag2 ok2 kk2 iu2 zc2 zd2 by2 sz3 ag3 ok3 kk3 iu3 zc3 zd3 by3 sz4 ag4 ok4 bo4 zc4 zd4 by4 sz5 ag5 ok5 kk5 iu5 zc5 zd5 by5 sz9 ag9 ok9 st9 zc9 zd9 by9 sz12 ag12 ok12 kk12 iu12 zc12 zd12 by12 sz15 ag15 ok15 zc15 by15 sz16 ag16 ok16 zc16 by16 sz21 ag21 ok21 kk21 iu21 zc21 zd21 by21 sz22 ag22 ok22 sl22 zc22 zd22 by22 sz23 ag23 ok23 zc23 zd23 pl23 by23 fl23_0 fl23_1 fl23_2 fl23_3 fl23_4 fl23_5 sz24 ag24 ok24 zc24 zd24 pl24 by24 fl24_0 fl24_1 fl24_2 fl24_3 fl24_4 fl24_5 sz26 ag26 ok26 zc26 zd26 pl26 by26 fl26_0 fl26_1 fl26_2 fl26_3 fl26_4 fl26_5 fl26_6 fl26_7 fl26_8 fl26_9 fl26_10 fl26_11 fl26_12 fl26_13 fl26_14 sz27 ag27 ok27 zc27 zd27 pl27 by27 fl27_0 fl27_1 fl27_2 fl27_3 fl27_4 fl27_5 fl27_6 fl27_7 fl27_8 fl27_9 fl27_10 fl27_11 fl27_12 fl27_13 fl27_14 sz28 ag28 ok28 sl28 zc28 zd28 by28 sz38 ag38 ok38 sl38 ar38 zc38 zd38 pl38 by38 sz44 ag44 ok44 sl44 ar44 zc44 zd44 pl44 by44 sz45 ag45 ok45 sl45 zc45 zd45 by45 sz46 ag46 ok46 zc46 zd46 pl46 by46 fl46_0 fl46_1 fl46_2 fl46_3 fl46_4 sz47 ag47 ok47 zc47 zd47 pl47 by47 fl47_0 fl47_1 fl47_2 fl47_3 fl47_4 sz49 ag49 ok49 kk49 iu49 zc49 zd49 by49 sz53 ag53 ok53 sl53 ar53 zc53 zd53 pl53 by53 sz54 ag54 ok54 kk54 iu54 zc54 zd54 by54 sz55 ag55 ok55 kk55 iu55 zc55 zd55 by55 sz56 ag56 ok56 sl56 zc56 zd56 by56 sz57 ag57 ok57 kk57 iu57 zc57 zd57 by57 sz60 ag60 ok60 zc60 zd60 pl60 by60 fl60_0 fl60_1 fl60_2 fl60_3 sz61 ag61 ok61 zc61 zd61 pl61 by61 fl61_0 fl61_1 fl61_2 fl61_3 sz64 ag64 ok64 zc64 by64 sz65 ag65 ok65 zc65 zd65 pl65 by65 fl65_0 fl65_1 sz66 ag66 ok66 zc66 zd66 pl66 by66 fl66_0 fl66_1 sz78 ag78 ok78 sl78 ar78 zc78 zd78 pl78 by78 sz79 ag79 ok79 sl79 ar79 zc79 zd79 pl79 by79 sz81 ag81 ok81 zc81 zd81 pl81 by81 fl81_0 fl81_1 sz82 ag82 ok82 zc82 zd82 pl82 by82 fl82_0 fl82_1 sz84 ag84 ok84 zc84 zd84 pl84 by84 fl84_0 fl84_1 fl84_2 fl84_3 sz85 ag85 ok85 zc85 zd85 pl85 by85 fl85_0 fl85_1 fl85_2 fl85_3 sz92 ag92 ok92 sl92 ar92 zc92 zd92 pl92 by92 sz101 ag101 ok101 zc101 zd101 pl101 by101 fl101_0 fl101_1 sz102 ag102 ok102 zc102 zd102 pl102 by102 fl102_0 fl102_1 sz109 ag109 ok109 zc109 zd109 pl109 by109 fl109_0 fl109_1 fl109_2 sz110 ag110 ok110 zc110 zd110 pl110 by110 fl110_0 fl110_1 fl110_2 sz120 ag120 ok120 sl120 ar120 zc120 zd120 pl120 by120 sz121 ag121 ok121 zc121 zd121 pl121 by121 fl121_0 fl121_1 sz122 ag122 ok122 sl122 ar122 zc122 zd122 pl122 by122 sz130 ag130 ok130 zc130 by130 sz140 ag140 ok140 kk140 iu140 zc140 zd140 by140 sz144 ag144 ok144 zc144 by144
theorem next_num (x n : Int) (hn : 0 < n) (h1 : n ≤ 1000000) : 0 ≤ Int.tmod (wrap64 (Int.tmod x n + n)) n ∧ Int.tmod (wrap64 (Int.tmod x n + n)) n < n := by
  have a1 : -n < Int.tmod x n := by have := Int.lt_tmod_of_pos x hn; omega
  have a2 : Int.tmod x n < n := Int.tmod_lt_of_pos x hn
  rw [w64 (by omega) (by omega)]
  exact ⟨Int.tmod_nonneg _ (by omega), Int.tmod_lt_of_pos _ hn⟩
theorem Next_c {T : World → Prop} (Tm : TP T) (l : List Int) (i n : Int) (hl : l.length ≤ 4096) (h0 : 0 ≤ i) (h1 : i ≤ l.length) (n0 : 0 < n) (n1 : n ≤ 1000000) : C1 Go.Proofs.Tryd.prog T 61 1000 (rowO l i) [.ptr 1000 0, .d (.i .i64 n)] (fun r o => ∃ v j : Int, r = .d (.i .i64 v) ∧ o = rowO l j ∧ 0 ≤ v ∧ v < n ∧ 0 ≤ j ∧ j ≤ l.length) := by
  refine Cg_of [1000] Tm Go.Proofs.Tryd.func61 rfl rfl Go.Proofs.Tryd.ntmps61 (by simp) rfl (rs := [.tmp 4]) rfl fun E hP hn hT hpn => ?_
  (repeat (first | ((first | refine r1 ?_ | refine r2 ?_ | refine r3 ?_); intro K hK; simp only [go_sem, hP, hn]; (repeat (refine ⟨by first | trivial | omega | (simp <;> omega) | (simp +contextual; done) | (clear hK; grind), ?_⟩)); refine hK _ ?_; clear K hK) | refine Tr.seq ?_ | refine Tr.skip ?_ | refine Tr.label ?_ | refine Tr.block ?_ | refine Tr.scope ?_ | refine gs1 ?_ | refine gs2 ?_ | refine gs3 ?_ | refine Tr.exit ?_ | refine Tr.goto ?_ | refine Tr.ret ?_ | refine n1 ?_ | refine n2 ?_ | refine n3 ?_ | refine n4 ?_ | refine n5 ?_ | refine n6 ?_ | refine n7 ?_ | refine n8 ?_ | refine n9 (by decide) ?_))
  (first | refine d1 (.p true 0 (.p true 1 (.p true 2 (.p true 3 (.p true 4 (.p true 5 (.p true 6 (.p true 7 (.p true 8 (.p true 9 .nil)))))))))) [] (by rw [hP]; kernel_rfl) (by kernel_rfl) (by simp only [go_sem, hP, hn]; try simp) (fun _ _ h => h) fun K hK => ?_ | refine d2 (.p true 0 (.p true 1 (.p true 2 (.p true 3 (.p true 4 (.p true 5 (.p true 6 (.p true 7 (.p true 8 (.p true 9 .nil)))))))))) [] (by rw [hP]; kernel_rfl) (by kernel_rfl) (by simp only [go_sem, hP, hn]; try simp) (fun _ _ h => h) fun K hK => ?_ | refine d4 (.p true 0 (.p true 1 (.p true 2 (.p true 3 (.p true 4 (.p true 5 (.p true 6 (.p true 7 (.p true 8 (.p true 9 .nil)))))))))) [] (by rw [hP]; kernel_rfl) (by kernel_rfl) (by simp only [go_sem, hP, hn]; try simp) (fun _ _ h => h) fun K hK => ?_); simp only [go_sem, hP, hn]; (repeat (refine ⟨by first | trivial | omega | (simp <;> omega) | (simp +contextual; done) | (clear hK; grind), ?_⟩)); refine hK _ ?_; clear K hK
  refine Tr.cond rfl (fun hb => ?_) (fun hb => ?_)
  · (repeat (first | ((first | refine r1 ?_ | refine r2 ?_ | refine r3 ?_); intro K hK; simp only [go_sem, hP, hn]; (repeat (refine ⟨by first | trivial | omega | (simp <;> omega) | (simp +contextual; done) | (clear hK; grind), ?_⟩)); refine hK _ ?_; clear K hK) | refine Tr.seq ?_ | refine Tr.skip ?_ | refine Tr.label ?_ | refine Tr.block ?_ | refine Tr.scope ?_ | refine gs1 ?_ | refine gs2 ?_ | refine gs3 ?_ | refine Tr.exit ?_ | refine Tr.goto ?_ | refine Tr.ret ?_ | refine n1 ?_ | refine n2 ?_ | refine n3 ?_ | refine n4 ?_ | refine n5 ?_ | refine n6 ?_ | refine n7 ?_ | refine n8 ?_ | refine n9 (by decide) ?_))
    simp only [RetG, go_sem]; (repeat (with_reducible refine And.intro ?_ ?_; (· first | trivial | omega | (simp <;> omega) | (simp +contextual; done) | (clear hK; grind))))
    exact ⟨_, rfl, 0, i, rfl, rfl, by omega, by omega, h0, h1⟩
  · have hj : i < l.length := by have := of_decide_eq_false hb; omega
    (repeat (first | ((first | refine r1 ?_ | refine r2 ?_ | refine r3 ?_); intro K hK; simp only [go_sem, hP, hn]; (repeat (refine ⟨by first | trivial | omega | (simp <;> omega) | (simp +contextual; done) | (clear hK; grind), ?_⟩)); refine hK _ ?_; clear K hK) | refine Tr.seq ?_ | refine Tr.skip ?_ | refine Tr.label ?_ | refine Tr.block ?_ | refine Tr.scope ?_ | refine gs1 ?_ | refine gs2 ?_ | refine gs3 ?_ | refine Tr.exit ?_ | refine Tr.goto ?_ | refine Tr.ret ?_ | refine n1 ?_ | refine n2 ?_ | refine n3 ?_ | refine n4 ?_ | refine n5 ?_ | refine n6 ?_ | refine n7 ?_ | refine n8 ?_ | refine n9 (by decide) ?_))
    rw [w64 (x := i + 1) (by omega) (by omega)]
    (first | refine d1 (.p true 0 (.p true 1 (.p true 2 (.p true 3 (.p true 4 (.p true 5 (.p true 6 (.p true 7 (.p true 8 (.p true 9 (.p true 10 (.p true 11 (.p true 12 (.p true 13 (.p true 14 (.p true 15 (.p true 16 (.p true 17 .nil)))))))))))))))))) [] (by rw [hP]; kernel_rfl) (by kernel_rfl) (by simp only [go_sem, hP, hn]; try simp) (fun _ _ h => h) fun K hK => ?_ | refine d2 (.p true 0 (.p true 1 (.p true 2 (.p true 3 (.p true 4 (.p true 5 (.p true 6 (.p true 7 (.p true 8 (.p true 9 (.p true 10 (.p true 11 (.p true 12 (.p true 13 (.p true 14 (.p true 15 (.p true 16 (.p true 17 .nil)))))))))))))))))) [] (by rw [hP]; kernel_rfl) (by kernel_rfl) (by simp only [go_sem, hP, hn]; try simp) (fun _ _ h => h) fun K hK => ?_ | refine d4 (.p true 0 (.p true 1 (.p true 2 (.p true 3 (.p true 4 (.p true 5 (.p true 6 (.p true 7 (.p true 8 (.p true 9 (.p true 10 (.p true 11 (.p true 12 (.p true 13 (.p true 14 (.p true 15 (.p true 16 (.p true 17 .nil)))))))))))))))))) [] (by rw [hP]; kernel_rfl) (by kernel_rfl) (by simp only [go_sem, hP, hn]; try simp) (fun _ _ h => h) fun K hK => ?_); simp only [go_sem, hP, hn]
    rw [w64 (x := i + 1 - 1) (by omega) (by omega)]
    (repeat (refine ⟨by first | trivial | omega | (simp <;> omega) | (simp +contextual; done) | (clear hK; grind), ?_⟩))
    refine hK _ ?_; clear K hK
    (repeat (first | ((first | refine r1 ?_ | refine r2 ?_ | refine r3 ?_); intro K hK; simp only [go_sem, hP, hn]; (repeat (refine ⟨by first | trivial | omega | (simp <;> omega) | (simp +contextual; done) | (clear hK; grind), ?_⟩)); refine hK _ ?_; clear K hK) | refine Tr.seq ?_ | refine Tr.skip ?_ | refine Tr.label ?_ | refine Tr.block ?_ | refine Tr.scope ?_ | refine gs1 ?_ | refine gs2 ?_ | refine gs3 ?_ | refine Tr.exit ?_ | refine Tr.goto ?_ | refine Tr.ret ?_ | refine n1 ?_ | refine n2 ?_ | refine n3 ?_ | refine n4 ?_ | refine n5 ?_ | refine n6 ?_ | refine n7 ?_ | refine n8 ?_ | refine n9 (by decide) ?_))
    simp only [RetG, go_sem]; (repeat (with_reducible refine And.intro ?_ ?_; (· first | trivial | omega | (simp <;> omega) | (simp +contextual; done) | (clear hK; grind))))
    trace_state
    exact ⟨_, rfl, _, i + 1, rfl, rfl, (next_num _ n n0 n1).1, (next_num _ n n0 n1).2, by omega, by omega⟩
theorem row_c {T : World → Prop} (Tm : TP T) (l : List Int) (i m lo most : Int) (hl : l.length ≤ 4096) (h0 : 0 ≤ i) (h1 : i ≤ l.length) (m0 : 0 ≤ m) (m1 : m ≤ 4096) (n0 : 0 < most) (n1 : most ≤ 1000000) (lo0 : -1000000 ≤ lo) (lo1 : lo ≤ 1000000) : C1 Go.Proofs.Tryd.prog T 63 1000 (rowO l i) [.ptr 1000 0, .d (.i .i64 m), .d (.i .i64 lo), .d (.i .i64 most)] (fun r o => ∃ (xs : List Int) (j : Int), r = .d (.row [.i .i64 0] (xs.map intC)) ∧ o = rowO l j ∧ (xs.length : Int) = m ∧ (∀ x ∈ xs, lo ≤ x ∧ x < lo + most) ∧ 0 ≤ j ∧ j ≤ l.length) := by
  refine Cg_of [1000] Tm Go.Proofs.Tryd.func63 rfl rfl Go.Proofs.Tryd.ntmps63 (by simp) rfl (rs := [.tmp 8]) rfl fun E hP hn hT hpn => ?_
  (repeat (first | ((first | refine r1 ?_ | refine r2 ?_ | refine r3 ?_); intro K hK; simp only [go_sem, hP, hn]; (repeat (refine ⟨by first | trivial | omega | (simp <;> omega) | (simp +contextual; done) | (clear hK; grind), ?_⟩)); refine hK _ ?_; clear K hK) | refine Tr.seq ?_ | refine Tr.skip ?_ | refine Tr.label ?_ | refine Tr.block ?_ | refine Tr.scope ?_ | refine gs1 ?_ | refine gs2 ?_ | refine gs3 ?_ | refine Tr.exit ?_ | refine Tr.goto ?_ | refine Tr.ret ?_ | refine n1 ?_ | refine n2 ?_ | refine n3 ?_ | refine n4 ?_ | refine n5 ?_ | refine n6 ?_ | refine n7 ?_ | refine n8 ?_ | refine n9 (by decide) ?_))
  refine Tr.loop (fun n s => ∃ (xs : List Int) (k j : Int) (x : S) (H : Hp), s = ⟨[(0, .ptr 1000 0), (1, .d (.i .i64 m)), (2, .d (.i .i64 lo)), (3, .d (.i .i64 most)), (10, .d (.i .i64 k)), (9, x)], H⟩ ∧ ((x = .d .nil ∧ H = [(1000, rowO l j)] ∧ xs = []) ∨ (x = .own 23 ∧ H = [(23, .row 3 [.i .i64 0] (xs.map intC)), (1000, rowO l j)])) ∧ k = xs.length ∧ k + n = m ∧ (∀ x ∈ xs, lo ≤ x ∧ x < lo + most) ∧ 0 ≤ j ∧ j ≤ l.length) m.toNat ⟨_, (Le.mv (by simp only [go_sem, hP, hn]; first | done | (simp; done) | (simp [intC]; done) | (repeat (first | rfl | constructor))) (by simp only [go_sem, hP, hn]; first | done | (simp; done) | (simp [intC]; done) | (repeat (first | rfl | constructor)))), [], 0, i, _, _, rfl, .inl ⟨rfl, rfl, rfl⟩, by simp, by omega, by simp, h0, h1⟩ ?_
  rintro n s ⟨xs, k, j, x, H, rfl, (⟨rfl, rfl, rfl⟩ | ⟨rfl, rfl⟩), hk, hn1, hx, hj0, hj1⟩
  · simp only [List.length_nil] at hk
    (repeat (first | ((first | refine r1 ?_ | refine r2 ?_ | refine r3 ?_); intro K hK; simp only [go_sem, hP, hn]; (repeat (refine ⟨by first | trivial | omega | (simp <;> omega) | (simp +contextual; done) | (clear hK; grind), ?_⟩)); refine hK _ ?_; clear K hK) | refine Tr.seq ?_ | refine Tr.skip ?_ | refine Tr.label ?_ | refine Tr.block ?_ | refine Tr.scope ?_ | refine gs1 ?_ | refine gs2 ?_ | refine gs3 ?_ | refine Tr.exit ?_ | refine Tr.goto ?_ | refine Tr.ret ?_ | refine n1 ?_ | refine n2 ?_ | refine n3 ?_ | refine n4 ?_ | refine n5 ?_ | refine n6 ?_ | refine n7 ?_ | refine n8 ?_ | refine n9 (by decide) ?_))
    refine Tr.cond rfl (fun hb => ?_) (fun hb => ?_)
    · have hkm : k < m := by simpa using hb
      (repeat (first | ((first | refine r1 ?_ | refine r2 ?_ | refine r3 ?_); intro K hK; simp only [go_sem, hP, hn]; (repeat (refine ⟨by first | trivial | omega | (simp <;> omega) | (simp +contextual; done) | (clear hK; grind), ?_⟩)); refine hK _ ?_; clear K hK) | refine Tr.seq ?_ | refine Tr.skip ?_ | refine Tr.label ?_ | refine Tr.block ?_ | refine Tr.scope ?_ | refine gs1 ?_ | refine gs2 ?_ | refine gs3 ?_ | refine Tr.exit ?_ | refine Tr.goto ?_ | refine Tr.ret ?_ | refine n1 ?_ | refine n2 ?_ | refine n3 ?_ | refine n4 ?_ | refine n5 ?_ | refine n6 ?_ | refine n7 ?_ | refine n8 ?_ | refine n9 (by decide) ?_))
      (first | refine r1 ?_ | refine r2 ?_ | refine r3 ?_); intro K hK; simp only [go_sem, hP, hn]
      (repeat (refine ⟨by first | trivial | omega | (simp <;> omega) | (simp +contextual; done) | (clear hK; grind), ?_⟩))
      refine CallN_c1 (by rw [hP, hT]; exact Next_c Tm l j most hl hj0 hj1 n0 n1 ) rfl rfl rfl trivial (by simp only [go_sem, hP, hn]; try trivial) (by simp only [go_sem, hP, hn]; try rfl) (by simp only [go_sem, hP, hn]; try rfl) (by rw [hn]; decide) (fun r ob' hr => ?_); obtain  ⟨v, j', rfl, rfl, hv0, hv1, hj0', hj1'⟩ := hr; simp only [go_sem, hP, hn]; (repeat (refine ⟨by first | trivial | omega | (simp <;> omega) | (simp +contextual; done) | (clear hK; grind), ?_⟩))
      refine hK _ ?_; clear K hK
      (repeat (first | ((first | refine r1 ?_ | refine r2 ?_ | refine r3 ?_); intro K hK; simp only [go_sem, hP, hn]; (repeat (refine ⟨by first | trivial | omega | (simp <;> omega) | (simp +contextual; done) | (clear hK; grind), ?_⟩)); refine hK _ ?_; clear K hK) | refine Tr.seq ?_ | refine Tr.skip ?_ | refine Tr.label ?_ | refine Tr.block ?_ | refine Tr.scope ?_ | refine gs1 ?_ | refine gs2 ?_ | refine gs3 ?_ | refine Tr.exit ?_ | refine Tr.goto ?_ | refine Tr.ret ?_ | refine n1 ?_ | refine n2 ?_ | refine n3 ?_ | refine n4 ?_ | refine n5 ?_ | refine n6 ?_ | refine n7 ?_ | refine n8 ?_ | refine n9 (by decide) ?_))
      rw [w64 (x := k + 1) (by omega) (by omega), w64 (x := lo + v) (by omega) (by omega)]
      refine ⟨n - 1, _, by omega, ?_, [lo + v], k + 1, j', .own 23, [(23, .row 3 [.i .i64 0] (([lo + v]).map intC)), (1000, rowO l j')], rfl, .inr ⟨rfl, rfl⟩, by simp; omega, by omega, ?_, hj0', hj1'⟩
      · exact (Le.mv (by simp only [go_sem, hP, hn]; first | done | (simp; done) | (simp [intC]; done) | (repeat (first | rfl | constructor))) (by simp only [go_sem, hP, hn]; first | done | (simp; done) | (simp [intC]; done) | (repeat (first | rfl | constructor))))
      · intro x hx'
        simp only [List.mem_append, List.mem_cons, List.not_mem_nil, or_false, false_or] at hx'
        subst hx'; omega
    · refine Tr.le (Le.nilrow 9 [.i .i64 0] rfl) ?_
      (repeat (first | ((first | refine r1 ?_ | refine r2 ?_ | refine r3 ?_); intro K hK; simp only [go_sem, hP, hn]; (repeat (refine ⟨by first | trivial | omega | (simp <;> omega) | (simp +contextual; done) | (clear hK; grind), ?_⟩)); refine hK _ ?_; clear K hK) | refine Tr.seq ?_ | refine Tr.skip ?_ | refine Tr.label ?_ | refine Tr.block ?_ | refine Tr.scope ?_ | refine gs1 ?_ | refine gs2 ?_ | refine gs3 ?_ | refine Tr.exit ?_ | refine Tr.goto ?_ | refine Tr.ret ?_ | refine n1 ?_ | refine n2 ?_ | refine n3 ?_ | refine n4 ?_ | refine n5 ?_ | refine n6 ?_ | refine n7 ?_ | refine n8 ?_ | refine n9 (by decide) ?_))
      simp only [RetG, go_sem]; (repeat (with_reducible refine And.intro ?_ ?_; (· first | trivial | omega | (simp <;> omega) | (simp +contextual; done) | (clear hK; grind))))
      exact ⟨_, rfl, [], j, rfl, rfl, by have := of_decide_eq_false hb; simp at hk ⊢; omega, by simp, hj0, hj1⟩
  · skip
    (repeat (first | ((first | refine r1 ?_ | refine r2 ?_ | refine r3 ?_); intro K hK; simp only [go_sem, hP, hn]; (repeat (refine ⟨by first | trivial | omega | (simp <;> omega) | (simp +contextual; done) | (clear hK; grind), ?_⟩)); refine hK _ ?_; clear K hK) | refine Tr.seq ?_ | refine Tr.skip ?_ | refine Tr.label ?_ | refine Tr.block ?_ | refine Tr.scope ?_ | refine gs1 ?_ | refine gs2 ?_ | refine gs3 ?_ | refine Tr.exit ?_ | refine Tr.goto ?_ | refine Tr.ret ?_ | refine n1 ?_ | refine n2 ?_ | refine n3 ?_ | refine n4 ?_ | refine n5 ?_ | refine n6 ?_ | refine n7 ?_ | refine n8 ?_ | refine n9 (by decide) ?_))
    refine Tr.cond rfl (fun hb => ?_) (fun hb => ?_)
    · have hkm : k < m := by simpa using hb
      (repeat (first | ((first | refine r1 ?_ | refine r2 ?_ | refine r3 ?_); intro K hK; simp only [go_sem, hP, hn]; (repeat (refine ⟨by first | trivial | omega | (simp <;> omega) | (simp +contextual; done) | (clear hK; grind), ?_⟩)); refine hK _ ?_; clear K hK) | refine Tr.seq ?_ | refine Tr.skip ?_ | refine Tr.label ?_ | refine Tr.block ?_ | refine Tr.scope ?_ | refine gs1 ?_ | refine gs2 ?_ | refine gs3 ?_ | refine Tr.exit ?_ | refine Tr.goto ?_ | refine Tr.ret ?_ | refine n1 ?_ | refine n2 ?_ | refine n3 ?_ | refine n4 ?_ | refine n5 ?_ | refine n6 ?_ | refine n7 ?_ | refine n8 ?_ | refine n9 (by decide) ?_))
      (first | refine r1 ?_ | refine r2 ?_ | refine r3 ?_); intro K hK; simp only [go_sem, hP, hn]
      (repeat (refine ⟨by first | trivial | omega | (simp <;> omega) | (simp +contextual; done) | (clear hK; grind), ?_⟩))
      refine CallN_c1 (by rw [hP, hT]; exact Next_c Tm l j most hl hj0 hj1 n0 n1 ) rfl rfl rfl trivial (by simp only [go_sem, hP, hn]; try trivial) (by simp only [go_sem, hP, hn]; try rfl) (by simp only [go_sem, hP, hn]; try rfl) (by rw [hn]; decide) (fun r ob' hr => ?_); obtain  ⟨v, j', rfl, rfl, hv0, hv1, hj0', hj1'⟩ := hr; simp only [go_sem, hP, hn]; (repeat (refine ⟨by first | trivial | omega | (simp <;> omega) | (simp +contextual; done) | (clear hK; grind), ?_⟩))
      refine hK _ ?_; clear K hK
      (repeat (first | ((first | refine r1 ?_ | refine r2 ?_ | refine r3 ?_); intro K hK; simp only [go_sem, hP, hn]; (repeat (refine ⟨by first | trivial | omega | (simp <;> omega) | (simp +contextual; done) | (clear hK; grind), ?_⟩)); refine hK _ ?_; clear K hK) | refine Tr.seq ?_ | refine Tr.skip ?_ | refine Tr.label ?_ | refine Tr.block ?_ | refine Tr.scope ?_ | refine gs1 ?_ | refine gs2 ?_ | refine gs3 ?_ | refine Tr.exit ?_ | refine Tr.goto ?_ | refine Tr.ret ?_ | refine n1 ?_ | refine n2 ?_ | refine n3 ?_ | refine n4 ?_ | refine n5 ?_ | refine n6 ?_ | refine n7 ?_ | refine n8 ?_ | refine n9 (by decide) ?_))
      rw [w64 (x := k + 1) (by omega) (by omega), w64 (x := lo + v) (by omega) (by omega)]
      refine ⟨n - 1, _, by omega, ?_, xs ++ [(lo + v)], k + 1, j', .own 23, [(23, .row 3 [.i .i64 0] ((xs ++ [(lo + v)]).map intC)), (1000, rowO l j')], rfl, .inr ⟨rfl, rfl⟩, by simp; omega, by omega, ?_, hj0', hj1'⟩
      · exact (Le.mv (by simp only [go_sem, hP, hn]; first | done | (simp; done) | (simp [intC]; done) | (repeat (first | rfl | constructor))) (by simp only [go_sem, hP, hn]; first | done | (simp; done) | (simp [intC]; done) | (repeat (first | rfl | constructor))))
      · intro x hx'
        simp only [List.mem_append, List.mem_cons, List.not_mem_nil, or_false, false_or] at hx'
        rcases hx' with hx' | rfl
        · exact hx x hx'
        · omega
    · (repeat (first | ((first | refine r1 ?_ | refine r2 ?_ | refine r3 ?_); intro K hK; simp only [go_sem, hP, hn]; (repeat (refine ⟨by first | trivial | omega | (simp <;> omega) | (simp +contextual; done) | (clear hK; grind), ?_⟩)); refine hK _ ?_; clear K hK) | refine Tr.seq ?_ | refine Tr.skip ?_ | refine Tr.label ?_ | refine Tr.block ?_ | refine Tr.scope ?_ | refine gs1 ?_ | refine gs2 ?_ | refine gs3 ?_ | refine Tr.exit ?_ | refine Tr.goto ?_ | refine Tr.ret ?_ | refine n1 ?_ | refine n2 ?_ | refine n3 ?_ | refine n4 ?_ | refine n5 ?_ | refine n6 ?_ | refine n7 ?_ | refine n8 ?_ | refine n9 (by decide) ?_))
      simp only [RetG, go_sem]; (repeat (with_reducible refine And.intro ?_ ?_; (· first | trivial | omega | (simp <;> omega) | (simp +contextual; done) | (clear hK; grind))))
      exact ⟨_, rfl, xs, j, rfl, rfl, by have := of_decide_eq_false hb; omega, hx, hj0, hj1⟩
theorem Windows_r {T : World → Prop} (Tm : TP T) (k : Int) : Ct Go.Proofs.Tryd.prog T 28 [.d (.i .i64 k)] true (fun r => r = .d (.b (rWin k))) := by
  refine Ct_of Tm Go.Proofs.Tryd.func28 rfl rfl Go.Proofs.Tryd.ntmps28 (by simp) (rs := [.tmp 2]) rfl fun E hP hn hT => ?_
  (repeat (first | ((first | refine r1 ?_ | refine r2 ?_ | refine r3 ?_); intro K hK; simp only [go_sem, hP, hn]; (repeat (refine ⟨by first | trivial | omega | (simp <;> omega) | (simp +contextual; done) | (clear hK; grind), ?_⟩)); refine hK _ ?_; clear K hK) | refine Tr.seq ?_ | refine Tr.skip ?_ | refine Tr.label ?_ | refine Tr.block ?_ | refine Tr.scope ?_ | refine gs1 ?_ | refine gs2 ?_ | refine gs3 ?_ | refine Tr.exit ?_ | refine Tr.goto ?_ | refine Tr.ret ?_ | refine n1 ?_ | refine n2 ?_ | refine n3 ?_ | refine n4 ?_ | refine n5 ?_ | refine n6 ?_ | refine n7 ?_ | refine n8 ?_ | refine n9 (by decide) ?_))
  simp only [RetQ, go_sem]
  rfl
theorem Span_r {T : World → Prop} (Tm : TP T) (n : Nd) : Ct Go.Proofs.Tryd.prog T 101 [.agg n.cs] true (fun r => r = .d (.i .i64 n.rSpan)) := by
  refine Ct_of Tm Go.Proofs.Tryd.func101 rfl rfl Go.Proofs.Tryd.ntmps101 (by simp) (rs := [.tmp 2]) rfl fun E hP hn hT => ?_
  (repeat (first | ((first | refine r1 ?_ | refine r2 ?_ | refine r3 ?_); intro K hK; simp only [go_sem, hP, hn]; (repeat (refine ⟨by first | trivial | omega | (simp <;> omega) | (simp +contextual; done) | (clear hK; grind), ?_⟩)); refine hK _ ?_; clear K hK) | refine Tr.seq ?_ | refine Tr.skip ?_ | refine Tr.label ?_ | refine Tr.block ?_ | refine Tr.scope ?_ | refine gs1 ?_ | refine gs2 ?_ | refine gs3 ?_ | refine Tr.exit ?_ | refine Tr.goto ?_ | refine Tr.ret ?_ | refine n1 ?_ | refine n2 ?_ | refine n3 ?_ | refine n4 ?_ | refine n5 ?_ | refine n6 ?_ | refine n7 ?_ | refine n8 ?_ | refine n9 (by decide) ?_))
  refine Tr.cond rfl (fun h1 => ?_) (fun h1 => ?_)
  · (repeat (first | ((first | refine r1 ?_ | refine r2 ?_ | refine r3 ?_); intro K hK; simp only [go_sem, hP, hn]; (repeat (refine ⟨by first | trivial | omega | (simp <;> omega) | (simp +contextual; done) | (clear hK; grind), ?_⟩)); refine hK _ ?_; clear K hK) | refine Tr.seq ?_ | refine Tr.skip ?_ | refine Tr.label ?_ | refine Tr.block ?_ | refine Tr.scope ?_ | refine gs1 ?_ | refine gs2 ?_ | refine gs3 ?_ | refine Tr.exit ?_ | refine Tr.goto ?_ | refine Tr.ret ?_ | refine n1 ?_ | refine n2 ?_ | refine n3 ?_ | refine n4 ?_ | refine n5 ?_ | refine n6 ?_ | refine n7 ?_ | refine n8 ?_ | refine n9 (by decide) ?_))
    simp only [RetQ, go_sem]
    unfold Nd.rSpan; rw [h1]; rfl
  (repeat (first | ((first | refine r1 ?_ | refine r2 ?_ | refine r3 ?_); intro K hK; simp only [go_sem, hP, hn]; (repeat (refine ⟨by first | trivial | omega | (simp <;> omega) | (simp +contextual; done) | (clear hK; grind), ?_⟩)); refine hK _ ?_; clear K hK) | refine Tr.seq ?_ | refine Tr.skip ?_ | refine Tr.label ?_ | refine Tr.block ?_ | refine Tr.scope ?_ | refine gs1 ?_ | refine gs2 ?_ | refine gs3 ?_ | refine Tr.exit ?_ | refine Tr.goto ?_ | refine Tr.ret ?_ | refine n1 ?_ | refine n2 ?_ | refine n3 ?_ | refine n4 ?_ | refine n5 ?_ | refine n6 ?_ | refine n7 ?_ | refine n8 ?_ | refine n9 (by decide) ?_))
  (first | refine r1 ?_ | refine r2 ?_ | refine r3 ?_); intro K hK; simp only [go_sem, hP, hn]; (repeat (refine ⟨by first | trivial | omega | (simp <;> omega) | (simp +contextual; done) | (clear hK; grind), ?_⟩)); refine c1 (by rw [hP, hT]; exact Windows_r Tm n.k) rfl rfl rfl trivial (by simp only [go_sem, hP, hn]; try trivial) (by simp only [go_sem, hP, hn]; try rfl) (by rw [hn]; decide) (by rfl) ?_; simp only [go_sem, hP, hn]; (repeat (refine ⟨by first | trivial | omega | (simp <;> omega) | (simp +contextual; done) | (clear hK; grind), ?_⟩)); refine hK _ ?_; clear K hK
  (repeat (first | ((first | refine r1 ?_ | refine r2 ?_ | refine r3 ?_); intro K hK; simp only [go_sem, hP, hn]; (repeat (refine ⟨by first | trivial | omega | (simp <;> omega) | (simp +contextual; done) | (clear hK; grind), ?_⟩)); refine hK _ ?_; clear K hK) | refine Tr.seq ?_ | refine Tr.skip ?_ | refine Tr.label ?_ | refine Tr.block ?_ | refine Tr.scope ?_ | refine gs1 ?_ | refine gs2 ?_ | refine gs3 ?_ | refine Tr.exit ?_ | refine Tr.goto ?_ | refine Tr.ret ?_ | refine n1 ?_ | refine n2 ?_ | refine n3 ?_ | refine n4 ?_ | refine n5 ?_ | refine n6 ?_ | refine n7 ?_ | refine n8 ?_ | refine n9 (by decide) ?_))
  refine Tr.cond rfl (fun h2 => ?_) (fun h2 => ?_)
  · (repeat (first | ((first | refine r1 ?_ | refine r2 ?_ | refine r3 ?_); intro K hK; simp only [go_sem, hP, hn]; (repeat (refine ⟨by first | trivial | omega | (simp <;> omega) | (simp +contextual; done) | (clear hK; grind), ?_⟩)); refine hK _ ?_; clear K hK) | refine Tr.seq ?_ | refine Tr.skip ?_ | refine Tr.label ?_ | refine Tr.block ?_ | refine Tr.scope ?_ | refine gs1 ?_ | refine gs2 ?_ | refine gs3 ?_ | refine Tr.exit ?_ | refine Tr.goto ?_ | refine Tr.ret ?_ | refine n1 ?_ | refine n2 ?_ | refine n3 ?_ | refine n4 ?_ | refine n5 ?_ | refine n6 ?_ | refine n7 ?_ | refine n8 ?_ | refine n9 (by decide) ?_))
    simp only [RetQ, go_sem]
    unfold Nd.rSpan; rw [h1, h2]; rfl
  · (repeat (first | ((first | refine r1 ?_ | refine r2 ?_ | refine r3 ?_); intro K hK; simp only [go_sem, hP, hn]; (repeat (refine ⟨by first | trivial | omega | (simp <;> omega) | (simp +contextual; done) | (clear hK; grind), ?_⟩)); refine hK _ ?_; clear K hK) | refine Tr.seq ?_ | refine Tr.skip ?_ | refine Tr.label ?_ | refine Tr.block ?_ | refine Tr.scope ?_ | refine gs1 ?_ | refine gs2 ?_ | refine gs3 ?_ | refine Tr.exit ?_ | refine Tr.goto ?_ | refine Tr.ret ?_ | refine n1 ?_ | refine n2 ?_ | refine n3 ?_ | refine n4 ?_ | refine n5 ?_ | refine n6 ?_ | refine n7 ?_ | refine n8 ?_ | refine n9 (by decide) ?_))
    simp only [RetQ, go_sem]
    unfold Nd.rSpan; rw [h1, h2]; rfl




theorem rSpan_win (n : Nd) (sz gp : Int) (h : rFour n.k = true) (s0 : 1 ≤ sz) (s1 : sz ≤ 4) (g0 : 1 ≤ gp) (g1 : gp ≤ 3) (hs : n.size = sz) (hg : n.gap = gp) : 1 ≤ n.rSpan ∧ n.rSpan ≤ 10 := by
  have e1 : (n.k == 12) = false := four_ne _ h
  have e2 : rWin n.k = true := by rw [rWin_four, h]; rfl
  unfold Nd.rSpan
  rw [e1, e2, hs, hg]
  have hm := mul_le (sz - 1) 3 gp 3 (by omega) (by omega) (by omega) g1
  simp only [Bool.false_eq_true, if_false, Bool.not_true]
  rw [w64 (x := sz - 1) (by omega) (by omega), w64 (x := (sz - 1) * gp) (by omega) (by omega), w64 (by omega) (by omega)]
  omega
theorem window_c {T : World → Prop} (Tm : TP T) (l : List Int) (i : Int) (n : Nd) (hk : rFour n.k = true) (hl : l.length ≤ 4096) (h0 : 0 ≤ i) (h1 : i ≤ l.length) : C1 Go.Proofs.Tryd.prog T 62 1000 (rowO l i) [.ptr 1000 0, .agg n.cs] (fun r o => ∃ sz st gp lf rt j : Int, r = .agg (n.win sz st gp lf rt).cs ∧ o = rowO l j ∧ 1 ≤ sz ∧ sz ≤ 4 ∧ 1 ≤ st ∧ st ≤ 3 ∧ 1 ≤ gp ∧ gp ≤ 3 ∧ 0 ≤ lf ∧ lf < (n.win sz st gp lf rt).rSpan ∧ 0 ≤ rt ∧ rt < (n.win sz st gp lf rt).rSpan ∧ 0 ≤ j ∧ j ≤ l.length) := by
  refine Cg_of [1000] Tm Go.Proofs.Tryd.func62 rfl rfl Go.Proofs.Tryd.ntmps62 (by simp) rfl (rs := [.cell 4 27]) rfl fun E hP hn hT hpn => ?_
  (repeat (first | ((first | refine r1 ?_ | refine r2 ?_ | refine r3 ?_); intro K hK; simp only [go_sem, hP, hn]; (repeat (refine ⟨by first | trivial | omega | (simp <;> omega) | (simp +contextual; done) | (clear hK; grind), ?_⟩)); refine hK _ ?_; clear K hK) | refine Tr.seq ?_ | refine Tr.skip ?_ | refine Tr.label ?_ | refine Tr.block ?_ | refine Tr.scope ?_ | refine gs1 ?_ | refine gs2 ?_ | refine gs3 ?_ | refine Tr.exit ?_ | refine Tr.goto ?_ | refine Tr.ret ?_ | refine n1 ?_ | refine n2 ?_ | refine n3 ?_ | refine n4 ?_ | refine n5 ?_ | refine n6 ?_ | refine n7 ?_ | refine n8 ?_ | refine n9 (by decide) ?_))
  (first | refine r1 ?_ | refine r2 ?_ | refine r3 ?_); intro K hK; simp only [go_sem, hP, hn]
  (repeat (refine ⟨by first | trivial | omega | (simp <;> omega) | (simp +contextual; done) | (clear hK; grind), ?_⟩))
  refine CallN_c1 (by rw [hP, hT]; exact Next_c Tm l i 4 hl h0 h1 (by decide) (by decide) ) rfl rfl rfl trivial (by simp only [go_sem, hP, hn]; try trivial) (by simp only [go_sem, hP, hn]; try rfl) (by simp only [go_sem, hP, hn]; try rfl) (by rw [hn]; decide) (fun r ob' hr => ?_); obtain  ⟨v1, j1, rfl, rfl, a1, a2, b1, b2⟩ := hr; simp only [go_sem, hP, hn]; (repeat (refine ⟨by first | trivial | omega | (simp <;> omega) | (simp +contextual; done) | (clear hK; grind), ?_⟩))
  refine hK _ ?_; clear K hK
  (first | refine r1 ?_ | refine r2 ?_ | refine r3 ?_); intro K hK; simp only [go_sem, hP, hn]
  (repeat (refine ⟨by first | trivial | omega | (simp <;> omega) | (simp +contextual; done) | (clear hK; grind), ?_⟩))
  refine CallN_c1 (by rw [hP, hT]; exact Next_c Tm l j1 3 hl b1 b2 (by decide) (by decide) ) rfl rfl rfl trivial (by simp only [go_sem, hP, hn]; try trivial) (by simp only [go_sem, hP, hn]; try rfl) (by simp only [go_sem, hP, hn]; try rfl) (by rw [hn]; decide) (fun r ob' hr => ?_); obtain  ⟨v2, j2, rfl, rfl, q1, q2, b3, b4⟩ := hr; simp only [go_sem, hP, hn]; (repeat (refine ⟨by first | trivial | omega | (simp <;> omega) | (simp +contextual; done) | (clear hK; grind), ?_⟩))
  refine hK _ ?_; clear K hK
  (first | refine r1 ?_ | refine r2 ?_ | refine r3 ?_); intro K hK; simp only [go_sem, hP, hn]
  (repeat (refine ⟨by first | trivial | omega | (simp <;> omega) | (simp +contextual; done) | (clear hK; grind), ?_⟩))
  refine CallN_c1 (by rw [hP, hT]; exact Next_c Tm l j2 3 hl b3 b4 (by decide) (by decide) ) rfl rfl rfl trivial (by simp only [go_sem, hP, hn]; try trivial) (by simp only [go_sem, hP, hn]; try rfl) (by simp only [go_sem, hP, hn]; try rfl) (by rw [hn]; decide) (fun r ob' hr => ?_); obtain  ⟨v3, j3, rfl, rfl, d1, d2, b5, b6⟩ := hr; simp only [go_sem, hP, hn]; (repeat (refine ⟨by first | trivial | omega | (simp <;> omega) | (simp +contextual; done) | (clear hK; grind), ?_⟩))
  refine hK _ ?_; clear K hK
  rw [w64 (x := 1 + v1) (by omega) (by omega), w64 (x := 1 + v2) (by omega) (by omega), w64 (x := 1 + v3) (by omega) (by omega)]
  have hsp := rSpan_win (n.win (1 + v1) (1 + v2) (1 + v3) n.left n.right) (1 + v1) (1 + v3) hk (by omega) (by omega) (by omega) (by omega) rfl rfl
  refine Tr.le (Le.keep [0, 1, 3, 4]) ?_; simp only [List.map_cons, List.map_nil, lk, Nat.reduceEqDiff, reduceIte]
  (first | refine r1 ?_ | refine r2 ?_ | refine r3 ?_); intro K hK; simp only [go_sem, hP, hn]
  (repeat (refine ⟨by first | trivial | omega | (simp <;> omega) | (simp +contextual; done) | (clear hK; grind), ?_⟩))
  refine c1 (by rw [hP, hT]; exact Span_r Tm (n.win (1 + v1) (1 + v2) (1 + v3) n.left n.right)) rfl rfl rfl trivial (by simp only [go_sem, hP, hn]; try trivial) (by simp only [go_sem, hP, hn]; try rfl) (by rw [hn]; decide) (by rfl) ?_; simp only [go_sem, hP, hn]; (repeat (refine ⟨by first | trivial | omega | (simp <;> omega) | (simp +contextual; done) | (clear hK; grind), ?_⟩))
  refine CallN_c1 (by rw [hP, hT]; exact Next_c Tm l j3 (n.win (1 + v1) (1 + v2) (1 + v3) n.left n.right).rSpan hl b5 b6 (by omega) (by omega) ) rfl rfl rfl trivial (by simp only [go_sem, hP, hn]; try trivial) (by simp only [go_sem, hP, hn]; try rfl) (by simp only [go_sem, hP, hn]; try rfl) (by rw [hn]; decide) (fun r ob' hr => ?_); obtain  ⟨v4, j4, rfl, rfl, e1, e2, b7, b8⟩ := hr; simp only [go_sem, hP, hn]; (repeat (refine ⟨by first | trivial | omega | (simp <;> omega) | (simp +contextual; done) | (clear hK; grind), ?_⟩))
  refine hK _ ?_; clear K hK
  (first | refine r1 ?_ | refine r2 ?_ | refine r3 ?_); intro K hK; simp only [go_sem, hP, hn]
  (repeat (refine ⟨by first | trivial | omega | (simp <;> omega) | (simp +contextual; done) | (clear hK; grind), ?_⟩))
  refine c1 (by rw [hP, hT]; exact Span_r Tm (n.win (1 + v1) (1 + v2) (1 + v3) v4 n.right)) rfl rfl rfl trivial (by simp only [go_sem, hP, hn]; try trivial) (by simp only [go_sem, hP, hn]; try rfl) (by rw [hn]; decide) (by rfl) ?_; simp only [go_sem, hP, hn]; (repeat (refine ⟨by first | trivial | omega | (simp <;> omega) | (simp +contextual; done) | (clear hK; grind), ?_⟩))
  refine CallN_c1 (by rw [hP, hT]; exact Next_c Tm l j4 (n.win (1 + v1) (1 + v2) (1 + v3) v4 n.right).rSpan hl b7 b8 (by have : (n.win (1 + v1) (1 + v2) (1 + v3) v4 n.right).rSpan = (n.win (1 + v1) (1 + v2) (1 + v3) n.left n.right).rSpan := rfl; omega) (by have : (n.win (1 + v1) (1 + v2) (1 + v3) v4 n.right).rSpan = (n.win (1 + v1) (1 + v2) (1 + v3) n.left n.right).rSpan := rfl; omega) ) rfl rfl rfl trivial (by simp only [go_sem, hP, hn]; try trivial) (by simp only [go_sem, hP, hn]; try rfl) (by simp only [go_sem, hP, hn]; try rfl) (by rw [hn]; decide) (fun r ob' hr => ?_); obtain  ⟨v5, j5, rfl, rfl, f1, f2, b9, b10⟩ := hr; simp only [go_sem, hP, hn]; (repeat (refine ⟨by first | trivial | omega | (simp <;> omega) | (simp +contextual; done) | (clear hK; grind), ?_⟩))
  refine hK _ ?_; clear K hK
  (repeat (first | ((first | refine r1 ?_ | refine r2 ?_ | refine r3 ?_); intro K hK; simp only [go_sem, hP, hn]; (repeat (refine ⟨by first | trivial | omega | (simp <;> omega) | (simp +contextual; done) | (clear hK; grind), ?_⟩)); refine hK _ ?_; clear K hK) | refine Tr.seq ?_ | refine Tr.skip ?_ | refine Tr.label ?_ | refine Tr.block ?_ | refine Tr.scope ?_ | refine gs1 ?_ | refine gs2 ?_ | refine gs3 ?_ | refine Tr.exit ?_ | refine Tr.goto ?_ | refine Tr.ret ?_ | refine n1 ?_ | refine n2 ?_ | refine n3 ?_ | refine n4 ?_ | refine n5 ?_ | refine n6 ?_ | refine n7 ?_ | refine n8 ?_ | refine n9 (by decide) ?_))
  simp only [RetG, go_sem]; (repeat (with_reducible refine And.intro ?_ ?_; (· first | trivial | omega | (simp <;> omega) | (simp +contextual; done) | (clear hK; grind))))
  exact ⟨_, rfl, 1 + v1, 1 + v2, 1 + v3, v4, v5, j5, rfl, rfl, by omega, by omega, by omega, by omega, by omega, by omega, e1, e2, f1, f2, b9, b10⟩
section
theorem Next_p {T : World → Prop} (Tm : TP T) (l : List Int) (i n : Int) (hl : l.length ≤ 4096) (h0 : 0 ≤ i) (h1 : i ≤ l.length) (n0 : 0 < n) (n1 : n ≤ 1000000) : C1 Go.Proofs.Tryd.prog T 61 1000 (rowO l i) [.ptr 1000 0, .d (.i .i64 n)] (fun r o => ∃ x : Int × Int, r = .d (.i .i64 x.1) ∧ o = rowO l x.2 ∧ (0 ≤ x.1 ∧ x.1 < n) ∧ 0 ≤ x.2 ∧ x.2 ≤ l.length) :=
  (Next_c Tm l i n hl h0 h1 n0 n1).mono fun r H ⟨o, e, v, j, h1, h2, h3, h4, h5, h6⟩ => ⟨o, e, (v, j), h1, h2, ⟨h3, h4⟩, h5, h6⟩
def Z8 : List S := [.d (.i .i64 0), .d .nil, .d (.i .i64 0), .d (.i .i64 0), .d (.i .i64 0), .d (.i .i64 0), .d (.i .i64 0), .d (.i .i64 0), .d .nil, .d .nil, .d (.i .i64 0), .d (.i .i64 0), .d (.i .i64 0), .d (.i .i64 0), .d (.i .i64 0)]
attribute [local go_sem] Z8 intC
theorem guard_j {l : List Int} {i x j : Int} {g : Bool} {P : Prop} (h0 : 0 ≤ i) (h1 : i ≤ l.length) (hx : g = true → P ∧ 0 ≤ j ∧ j ≤ l.length) (hx' : g = false → (x, j) = (0, i)) : 0 ≤ j ∧ j ≤ l.length := by
  cases g with
  | true => exact (hx rfl).2
  | false => obtain ⟨_, rfl⟩ := Prod.mk.inj (hx' rfl); exact ⟨h0, h1⟩
theorem Made_c {T : World → Prop} (Tm : TP T) (l : List Int) (i : Int) (inn ws : List Int) (st : Bool) (hl : l.length ≤ 4096) (h0 : 0 ≤ i) (h1 : i ≤ l.length) (hio : (∃ a w, inn = [a] ∧ ws = [w]) ∨ ∃ a b v w, inn = [a, b] ∧ ws = [v, w]) (hws : ∀ x ∈ ws, 1 ≤ x ∧ x ≤ 16) : C1 Go.Proofs.Tryd.prog T 27 1000 (rowO l i) [.ptr 1000 0, .d (.row [.i .i64 0] (inn.map intC)), .d (.row [.i .i64 0] (ws.map intC)), .d (.b st)] (fun r o => ∃ (n : Nd) (j : Int), r = .agg n.cs ∧ o = rowO l j ∧ MadeN n inn ws st ∧ 0 ≤ j ∧ j ≤ l.length) := by
  have hlen : 0 < ws.length := by rcases hio with ⟨a, w, rfl, rfl⟩ | ⟨a, b, v, w, rfl, rfl⟩ <;> simp
  have hw0 : ∃ w, ws.take 1 = [w] ∧ rd ws 0 = w ∧ 1 ≤ w ∧ w ≤ 16 := by rcases hio with ⟨a, w, rfl, rfl⟩ | ⟨a, b, v, w, rfl, rfl⟩ <;> exact ⟨_, rfl, rfl, hws _ (by simp)⟩
  obtain ⟨w0, hw1, hw2, hw3⟩ := hw0
  refine Cg_of [1000] Tm Go.Proofs.Tryd.func27 rfl rfl Go.Proofs.Tryd.ntmps27 (by simp) rfl (rs := [.cell 8 27]) rfl fun E hP hn hT hpn => ?_
  (repeat (first | ((first | refine r1 ?_ | refine r2 ?_ | refine r3 ?_); intro K hK; simp only [go_sem, hP, hn]; (repeat (refine ⟨by first | trivial | omega | (simp <;> omega) | (simp +contextual; done) | (clear hK; grind), ?_⟩)); refine hK _ ?_; clear K hK) | refine Tr.seq ?_ | refine Tr.skip ?_ | refine Tr.label ?_ | refine Tr.block ?_ | refine Tr.scope ?_ | refine gs1 ?_ | refine gs2 ?_ | refine gs3 ?_ | refine Tr.exit ?_ | refine Tr.goto ?_ | refine Tr.ret ?_ | refine n1 ?_ | refine n2 ?_ | refine n3 ?_ | refine n4 ?_ | refine n5 ?_ | refine n6 ?_ | refine n7 ?_ | refine n8 ?_ | refine n9 (by decide) ?_))
  refine Tr.le (Le.keep [0, 1, 2, 3, 8, 9, 10, 23]) ?_; simp only [List.map_cons, List.map_nil, lk, Nat.reduceEqDiff, reduceIte]
  rw [hw2]
  refine Tr.le (Le.wbox 9 (Nd.mk 0 inn 0 0 0 0 0 0 [] [] 0 0 0 0 0).cs rfl (by simp [wk, Nd.cs])) ?_
  simp only [St.upd, dropH, Nat.reduceBEq, if_true, if_false, reduceIte, Bool.false_eq_true]
  refine Tr.meet (fun s => ∃ (k0 a j : Int), inn.take 1 = [a] ∧ s = ⟨[(0, .ptr 1000 0), (3, .d (.b st)), (8, .ptr 8 0), (9, .ptr 9 0), (10, .d (.i .i64 w0))], [(9, .box 27 (Nd.mk k0 [a] 0 0 0 0 0 0 [] [] 0 0 0 0 0).cs), (8, .box 27 Z8), (1000, rowO l j)]⟩ ∧ 0 ≤ j ∧ j ≤ l.length) ?_ ?_
  rotate_left
  · refine Tr.cond rfl (fun h2 => ?_) (fun h2 => ?_)
    · obtain ⟨a, b, v, w, rfl, rfl⟩ : ∃ a b v w, inn = [a, b] ∧ ws = [v, w] := by
        rcases hio with ⟨a, w, rfl, rfl⟩ | h
        · simp at h2
        · exact h
      have hv := hws v (by simp)
      have hw := hws w (by simp)
      obtain rfl : v = w0 := hw2
      (repeat (first | ((first | refine r1 ?_ | refine r2 ?_ | refine r3 ?_); intro K hK; simp only [go_sem, hP, hn]; (repeat (refine ⟨by first | trivial | omega | (simp <;> omega) | (simp +contextual; done) | (clear hK; grind), ?_⟩)); refine hK _ ?_; clear K hK) | refine Tr.seq ?_ | refine Tr.skip ?_ | refine Tr.label ?_ | refine Tr.block ?_ | refine Tr.scope ?_ | refine gs1 ?_ | refine gs2 ?_ | refine gs3 ?_ | refine Tr.exit ?_ | refine Tr.goto ?_ | refine Tr.ret ?_ | refine n1 ?_ | refine n2 ?_ | refine n3 ?_ | refine n4 ?_ | refine n5 ?_ | refine n6 ?_ | refine n7 ?_ | refine n8 ?_ | refine n9 (by decide) ?_))
      refine Tr.loop (fun m s => ∃ (j s0 : Int) (sm : Bool), s = ⟨[(13, .d (.i .i64 j)), (12, .d (.b sm)), (11, .d (.i .i64 s0)), (0, .ptr 1000 0), (1, .d (.row [.i .i64 0] ([a, b].map intC))), (2, .d (.row [.i .i64 0] ([v, w].map intC))), (3, .d (.b st)), (8, .ptr 8 0), (9, .ptr 9 0), (10, .d (.i .i64 v))], [(9, .box 27 (Nd.mk 8 [a, b] 0 0 0 0 0 0 [] [] 0 0 0 0 0).cs), (8, .box 27 Z8), (1000, rowO l i)]⟩ ∧ j + m = 2 ∧ ((j = 0 ∧ s0 = 0 ∧ sm = true) ∨ (j = 1 ∧ s0 = v ∧ sm = true) ∨ (j = 2 ∧ s0 = v + w ∧ sm = (w == v)))) 2 ⟨_, (Le.mv (by simp only [go_sem, hP, hn]; first | done | (simp; done) | (simp [intC]; done) | (repeat (first | rfl | constructor))) (by simp only [go_sem, hP, hn]; first | done | (simp; done) | (simp [intC]; done) | (repeat (first | rfl | constructor)))), 0, 0, true, rfl, rfl, .inl ⟨rfl, rfl, rfl⟩⟩ ?_
      rintro m s ⟨j, s0, sm, rfl, hm, (⟨rfl, rfl, rfl⟩ | ⟨rfl, rfl, rfl⟩ | ⟨rfl, rfl, rfl⟩)⟩
      · (repeat (first | ((first | refine r1 ?_ | refine r2 ?_ | refine r3 ?_); intro K hK; simp only [go_sem, hP, hn]; (repeat (refine ⟨by first | trivial | omega | (simp <;> omega) | (simp +contextual; done) | (clear hK; grind), ?_⟩)); refine hK _ ?_; clear K hK) | refine Tr.seq ?_ | refine Tr.skip ?_ | refine Tr.label ?_ | refine Tr.block ?_ | refine Tr.scope ?_ | refine gs1 ?_ | refine gs2 ?_ | refine gs3 ?_ | refine Tr.exit ?_ | refine Tr.goto ?_ | refine Tr.ret ?_ | refine n1 ?_ | refine n2 ?_ | refine n3 ?_ | refine n4 ?_ | refine n5 ?_ | refine n6 ?_ | refine n7 ?_ | refine n8 ?_ | refine n9 (by decide) ?_))
        refine Tr.cond rfl (fun hb => ?_) (fun hb => ?_)
        · (repeat (first | ((first | refine r1 ?_ | refine r2 ?_ | refine r3 ?_); intro K hK; simp only [go_sem, hP, hn]; (repeat (refine ⟨by first | trivial | omega | (simp <;> omega) | (simp +contextual; done) | (clear hK; grind), ?_⟩)); refine hK _ ?_; clear K hK) | refine Tr.seq ?_ | refine Tr.skip ?_ | refine Tr.label ?_ | refine Tr.block ?_ | refine Tr.scope ?_ | refine gs1 ?_ | refine gs2 ?_ | refine gs3 ?_ | refine Tr.exit ?_ | refine Tr.goto ?_ | refine Tr.ret ?_ | refine n1 ?_ | refine n2 ?_ | refine n3 ?_ | refine n4 ?_ | refine n5 ?_ | refine n6 ?_ | refine n7 ?_ | refine n8 ?_ | refine n9 (by decide) ?_))
          rw [w64 (x := 0 + v) (by omega) (by omega), w64 (x := 0 + 1) (by omega) (by omega), Int.zero_add]
          refine ⟨m - 1, _, by omega, ?_, 1, v, true, rfl, by omega, .inr (.inl ⟨rfl, rfl, rfl⟩)⟩
          exact (Le.mv (by simp only [go_sem, hP, hn]; first | done | (simp; done) | (simp [intC]; done) | (repeat (first | rfl | constructor))) (by simp only [go_sem, hP, hn]; first | done | (simp; done) | (simp [intC]; done) | (repeat (first | rfl | constructor))))
        · exact absurd hb (by decide)
      · (repeat (first | ((first | refine r1 ?_ | refine r2 ?_ | refine r3 ?_); intro K hK; simp only [go_sem, hP, hn]; (repeat (refine ⟨by first | trivial | omega | (simp <;> omega) | (simp +contextual; done) | (clear hK; grind), ?_⟩)); refine hK _ ?_; clear K hK) | refine Tr.seq ?_ | refine Tr.skip ?_ | refine Tr.label ?_ | refine Tr.block ?_ | refine Tr.scope ?_ | refine gs1 ?_ | refine gs2 ?_ | refine gs3 ?_ | refine Tr.exit ?_ | refine Tr.goto ?_ | refine Tr.ret ?_ | refine n1 ?_ | refine n2 ?_ | refine n3 ?_ | refine n4 ?_ | refine n5 ?_ | refine n6 ?_ | refine n7 ?_ | refine n8 ?_ | refine n9 (by decide) ?_))
        refine Tr.cond rfl (fun hb => ?_) (fun hb => ?_)
        · (repeat (first | ((first | refine r1 ?_ | refine r2 ?_ | refine r3 ?_); intro K hK; simp only [go_sem, hP, hn]; (repeat (refine ⟨by first | trivial | omega | (simp <;> omega) | (simp +contextual; done) | (clear hK; grind), ?_⟩)); refine hK _ ?_; clear K hK) | refine Tr.seq ?_ | refine Tr.skip ?_ | refine Tr.label ?_ | refine Tr.block ?_ | refine Tr.scope ?_ | refine gs1 ?_ | refine gs2 ?_ | refine gs3 ?_ | refine Tr.exit ?_ | refine Tr.goto ?_ | refine Tr.ret ?_ | refine n1 ?_ | refine n2 ?_ | refine n3 ?_ | refine n4 ?_ | refine n5 ?_ | refine n6 ?_ | refine n7 ?_ | refine n8 ?_ | refine n9 (by decide) ?_))
          rw [w64 (x := s0 + w) (by omega) (by omega), w64 (x := 1 + 1) (by omega) (by omega)]
          refine ⟨m - 1, _, by omega, ?_, 2, s0 + w, (w == s0), rfl, by omega, .inr (.inr ⟨rfl, rfl, rfl⟩)⟩
          exact (Le.mv (by simp only [go_sem, hP, hn]; first | done | (simp; done) | (simp [intC]; done) | (repeat (first | rfl | constructor))) (by simp only [go_sem, hP, hn]; first | done | (simp; done) | (simp [intC]; done) | (repeat (first | rfl | constructor))))
        · exact absurd hb (by decide)
      · (repeat (first | ((first | refine r1 ?_ | refine r2 ?_ | refine r3 ?_); intro K hK; simp only [go_sem, hP, hn]; (repeat (refine ⟨by first | trivial | omega | (simp <;> omega) | (simp +contextual; done) | (clear hK; grind), ?_⟩)); refine hK _ ?_; clear K hK) | refine Tr.seq ?_ | refine Tr.skip ?_ | refine Tr.label ?_ | refine Tr.block ?_ | refine Tr.scope ?_ | refine gs1 ?_ | refine gs2 ?_ | refine gs3 ?_ | refine Tr.exit ?_ | refine Tr.goto ?_ | refine Tr.ret ?_ | refine n1 ?_ | refine n2 ?_ | refine n3 ?_ | refine n4 ?_ | refine n5 ?_ | refine n6 ?_ | refine n7 ?_ | refine n8 ?_ | refine n9 (by decide) ?_))
        refine Tr.cond rfl (fun hb => ?_) (fun hb => ?_)
        · exact absurd hb (by decide)
        · (repeat (first | ((first | refine r1 ?_ | refine r2 ?_ | refine r3 ?_); intro K hK; simp only [go_sem, hP, hn]; (repeat (refine ⟨by first | trivial | omega | (simp <;> omega) | (simp +contextual; done) | (clear hK; grind), ?_⟩)); refine hK _ ?_; clear K hK) | refine Tr.seq ?_ | refine Tr.skip ?_ | refine Tr.label ?_ | refine Tr.block ?_ | refine Tr.scope ?_ | refine gs1 ?_ | refine gs2 ?_ | refine gs3 ?_ | refine Tr.exit ?_ | refine Tr.goto ?_ | refine Tr.ret ?_ | refine n1 ?_ | refine n2 ?_ | refine n3 ?_ | refine n4 ?_ | refine n5 ?_ | refine n6 ?_ | refine n7 ?_ | refine n8 ?_ | refine n9 (by decide) ?_))
          refine Tr.le (Le.keep [0, 1, 3, 8, 9, 10, 11, 12]) ?_; simp only [List.map_cons, List.map_nil, lk, Nat.reduceEqDiff, reduceIte]
          (first | refine r1 ?_ | refine r2 ?_ | refine r3 ?_); intro K hK; simp only [go_sem, hP, hn]
          (repeat (refine ⟨by first | trivial | omega | (simp <;> omega) | (simp +contextual; done) | (clear hK; grind), ?_⟩))
          refine CallN_g2 ((0, i) : Int × Int) (fun x => .d (.i .i64 x.1)) (fun x => rowO l x.2) (fun x => (0 ≤ x.1 ∧ x.1 < 2) ∧ 0 ≤ x.2 ∧ x.2 ≤ l.length) rfl (fun hg => by rw [hP, hT]; exact Next_p Tm l i 2 hl h0 h1 (by decide) (by decide)) rfl rfl rfl (fun hg => trivial) (fun hg => by clear hK; revert hg; simp only [go_sem, hP, hn]; first | trivial | omega | (simp; done) | (simp +contextual; done) | grind) (fun hg => by simp only [go_sem, hP, hn]; try rfl) rfl (by rw [hn]; decide) (fun x hx hx' => ?_); obtain ⟨x, j⟩ := x; simp only [go_sem, hP, hn]; (repeat (refine ⟨by first | trivial | omega | (simp <;> omega) | (simp +contextual; done) | (clear hK; grind), ?_⟩))
          refine hK _ ?_; clear K hK
          have hj := guard_j h0 h1 hx hx'
          refine Tr.cond rfl (fun h3 => ?_) (fun h3 => ?_)
          · (repeat (first | ((first | refine r1 ?_ | refine r2 ?_ | refine r3 ?_); intro K hK; simp only [go_sem, hP, hn]; (repeat (refine ⟨by first | trivial | omega | (simp <;> omega) | (simp +contextual; done) | (clear hK; grind), ?_⟩)); refine hK _ ?_; clear K hK) | refine Tr.seq ?_ | refine Tr.skip ?_ | refine Tr.label ?_ | refine Tr.block ?_ | refine Tr.scope ?_ | refine gs1 ?_ | refine gs2 ?_ | refine gs3 ?_ | refine Tr.exit ?_ | refine Tr.goto ?_ | refine Tr.ret ?_ | refine n1 ?_ | refine n2 ?_ | refine n3 ?_ | refine n4 ?_ | refine n5 ?_ | refine n6 ?_ | refine n7 ?_ | refine n8 ?_ | refine n9 (by decide) ?_))
            simp only [RetG, go_sem]; (repeat (with_reducible refine And.intro ?_ ?_; (· first | trivial | omega | (simp <;> omega) | (simp +contextual; done) | (clear hK; grind))))
            have : w = v := by simp only [Bool.and_eq_true, beq_iff_eq] at h3; exact h3.1
            exact ⟨_, rfl, ⟨7, [a, b], 0, 0, 0, 0, 0, 0, [], [], 0, 0, 0, 0, 0⟩, j, rfl, rfl, made_two hv hw (.inl ⟨rfl, this.symm⟩), hj.1, hj.2⟩
          · (repeat (first | ((first | refine r1 ?_ | refine r2 ?_ | refine r3 ?_); intro K hK; simp only [go_sem, hP, hn]; (repeat (refine ⟨by first | trivial | omega | (simp <;> omega) | (simp +contextual; done) | (clear hK; grind), ?_⟩)); refine hK _ ?_; clear K hK) | refine Tr.seq ?_ | refine Tr.skip ?_ | refine Tr.label ?_ | refine Tr.block ?_ | refine Tr.scope ?_ | refine gs1 ?_ | refine gs2 ?_ | refine gs3 ?_ | refine Tr.exit ?_ | refine Tr.goto ?_ | refine Tr.ret ?_ | refine n1 ?_ | refine n2 ?_ | refine n3 ?_ | refine n4 ?_ | refine n5 ?_ | refine n6 ?_ | refine n7 ?_ | refine n8 ?_ | refine n9 (by decide) ?_))
            refine Tr.cond rfl (fun h4 => ?_) (fun h4 => ?_)
            · (repeat (first | ((first | refine r1 ?_ | refine r2 ?_ | refine r3 ?_); intro K hK; simp only [go_sem, hP, hn]; (repeat (refine ⟨by first | trivial | omega | (simp <;> omega) | (simp +contextual; done) | (clear hK; grind), ?_⟩)); refine hK _ ?_; clear K hK) | refine Tr.seq ?_ | refine Tr.skip ?_ | refine Tr.label ?_ | refine Tr.block ?_ | refine Tr.scope ?_ | refine gs1 ?_ | refine gs2 ?_ | refine gs3 ?_ | refine Tr.exit ?_ | refine Tr.goto ?_ | refine Tr.ret ?_ | refine n1 ?_ | refine n2 ?_ | refine n3 ?_ | refine n4 ?_ | refine n5 ?_ | refine n6 ?_ | refine n7 ?_ | refine n8 ?_ | refine n9 (by decide) ?_))
              simp only [RetG, go_sem]; (repeat (with_reducible refine And.intro ?_ ?_; (· first | trivial | omega | (simp <;> omega) | (simp +contextual; done) | (clear hK; grind))))
              exact ⟨_, rfl, ⟨8, [a, b], 0, 0, 0, 0, 0, 0, [], [], 0, 0, 0, 0, 0⟩, j, rfl, rfl, made_two hv hw (.inr ⟨rfl, by simpa using h4⟩), hj.1, hj.2⟩
            · (repeat (first | ((first | refine r1 ?_ | refine r2 ?_ | refine r3 ?_); intro K hK; simp only [go_sem, hP, hn]; (repeat (refine ⟨by first | trivial | omega | (simp <;> omega) | (simp +contextual; done) | (clear hK; grind), ?_⟩)); refine hK _ ?_; clear K hK) | refine Tr.seq ?_ | refine Tr.skip ?_ | refine Tr.label ?_ | refine Tr.block ?_ | refine Tr.scope ?_ | refine gs1 ?_ | refine gs2 ?_ | refine gs3 ?_ | refine Tr.exit ?_ | refine Tr.goto ?_ | refine Tr.ret ?_ | refine n1 ?_ | refine n2 ?_ | refine n3 ?_ | refine n4 ?_ | refine n5 ?_ | refine n6 ?_ | refine n7 ?_ | refine n8 ?_ | refine n9 (by decide) ?_))
              exact ⟨_, (Le.mv (by simp only [go_sem, hP, hn]; first | done | (simp; done) | (simp [intC]; done) | (repeat (first | rfl | constructor))) (by simp only [go_sem, hP, hn]; first | done | (simp; done) | (simp [intC]; done) | (repeat (first | rfl | constructor)))), 8, a, j, rfl, rfl, hj.1, hj.2⟩
    · (repeat (first | ((first | refine r1 ?_ | refine r2 ?_ | refine r3 ?_); intro K hK; simp only [go_sem, hP, hn]; (repeat (refine ⟨by first | trivial | omega | (simp <;> omega) | (simp +contextual; done) | (clear hK; grind), ?_⟩)); refine hK _ ?_; clear K hK) | refine Tr.seq ?_ | refine Tr.skip ?_ | refine Tr.label ?_ | refine Tr.block ?_ | refine Tr.scope ?_ | refine gs1 ?_ | refine gs2 ?_ | refine gs3 ?_ | refine Tr.exit ?_ | refine Tr.goto ?_ | refine Tr.ret ?_ | refine n1 ?_ | refine n2 ?_ | refine n3 ?_ | refine n4 ?_ | refine n5 ?_ | refine n6 ?_ | refine n7 ?_ | refine n8 ?_ | refine n9 (by decide) ?_))
      obtain ⟨a, w, rfl, rfl⟩ : ∃ a w, inn = [a] ∧ ws = [w] := by
        rcases hio with h | ⟨a, b, v, w, rfl, rfl⟩
        · exact h
        · simp at h2
      exact ⟨_, (Le.mv (by simp only [go_sem, hP, hn]; first | done | (simp; done) | (simp [intC]; done) | (repeat (first | rfl | constructor))) (by simp only [go_sem, hP, hn]; first | done | (simp; done) | (simp [intC]; done) | (repeat (first | rfl | constructor)))), 0, a, i, rfl, rfl, h0, h1⟩
  rintro s ⟨k0, a, j, hin, rfl, hj0, hj1⟩
  (repeat (first | ((first | refine r1 ?_ | refine r2 ?_ | refine r3 ?_); intro K hK; simp only [go_sem, hP, hn]; (repeat (refine ⟨by first | trivial | omega | (simp <;> omega) | (simp +contextual; done) | (clear hK; grind), ?_⟩)); refine hK _ ?_; clear K hK) | refine Tr.seq ?_ | refine Tr.skip ?_ | refine Tr.label ?_ | refine Tr.block ?_ | refine Tr.scope ?_ | refine gs1 ?_ | refine gs2 ?_ | refine gs3 ?_ | refine Tr.exit ?_ | refine Tr.goto ?_ | refine Tr.ret ?_ | refine n1 ?_ | refine n2 ?_ | refine n3 ?_ | refine n4 ?_ | refine n5 ?_ | refine n6 ?_ | refine n7 ?_ | refine n8 ?_ | refine n9 (by decide) ?_))
  (first | refine r1 ?_ | refine r2 ?_ | refine r3 ?_); intro K hK; simp only [go_sem, hP, hn]
  (repeat (refine ⟨by first | trivial | omega | (simp <;> omega) | (simp +contextual; done) | (clear hK; grind), ?_⟩))
  refine CallN_c1 (by rw [hP, hT]; exact Next_c Tm l j 12 hl hj0 hj1 (by decide) (by decide) ) rfl rfl rfl trivial (by simp only [go_sem, hP, hn]; try trivial) (by simp only [go_sem, hP, hn]; try rfl) (by simp only [go_sem, hP, hn]; try rfl) (by rw [hn]; decide) (fun r ob' hr => ?_); obtain  ⟨v, j', rfl, rfl, hv0, hv1, hj0', hj1'⟩ := hr; simp only [go_sem, hP, hn]; (repeat (refine ⟨by first | trivial | omega | (simp <;> omega) | (simp +contextual; done) | (clear hK; grind), ?_⟩))
  refine hK _ ?_; clear K hK
  (repeat (first | ((first | refine r1 ?_ | refine r2 ?_ | refine r3 ?_); intro K hK; simp only [go_sem, hP, hn]; (repeat (refine ⟨by first | trivial | omega | (simp <;> omega) | (simp +contextual; done) | (clear hK; grind), ?_⟩)); refine hK _ ?_; clear K hK) | refine Tr.seq ?_ | refine Tr.skip ?_ | refine Tr.label ?_ | refine Tr.block ?_ | refine Tr.scope ?_ | refine gs1 ?_ | refine gs2 ?_ | refine gs3 ?_ | refine Tr.exit ?_ | refine Tr.goto ?_ | refine Tr.ret ?_ | refine n1 ?_ | refine n2 ?_ | refine n3 ?_ | refine n4 ?_ | refine n5 ?_ | refine n6 ?_ | refine n7 ?_ | refine n8 ?_ | refine n9 (by decide) ?_))
  refine Tr.meet (fun s => ∃ (k j : Int), s = ⟨[(15, .d (.i .i64 k)), (14, .ptr 14 0), (0, .ptr 1000 0), (8, .ptr 8 0), (9, .ptr 9 0), (10, .d (.i .i64 w0))], [(14, .box 92 [.d (.i .i64 1), .d (.i .i64 2), .d (.i .i64 3), .d (.i .i64 4), .d (.i .i64 12), .d (.i .i64 1), .d (.i .i64 5), .d (.i .i64 6), .d (.i .i64 9), .d (.i .i64 10), .d (.i .i64 11), .d (.i .i64 6)]), (9, .box 27 (Nd.mk k0 [a] 0 0 0 0 0 0 [] [] 0 0 0 0 0).cs), (8, .box 27 Z8), (1000, rowO l j)]⟩ ∧ 0 ≤ k ∧ k < 12 ∧ (st = true → 7 ≤ k) ∧ 0 ≤ j ∧ j ≤ l.length) ?_ ?_
  rotate_left
  · refine Tr.cond rfl (fun hs => ?_) (fun hs => ?_)
    · (first | refine r1 ?_ | refine r2 ?_ | refine r3 ?_); intro K hK; simp only [go_sem, hP, hn]
      (repeat (refine ⟨by first | trivial | omega | (simp <;> omega) | (simp +contextual; done) | (clear hK; grind), ?_⟩))
      refine CallN_c1 (by rw [hP, hT]; exact Next_c Tm l j' 5 hl hj0' hj1' (by decide) (by decide) ) rfl rfl rfl trivial (by simp only [go_sem, hP, hn]; try trivial) (by simp only [go_sem, hP, hn]; try rfl) (by simp only [go_sem, hP, hn]; try rfl) (by rw [hn]; decide) (fun r ob' hr => ?_); obtain  ⟨v', j2, rfl, rfl, hv0', hv1', hj0'', hj1''⟩ := hr; simp only [go_sem, hP, hn]; (repeat (refine ⟨by first | trivial | omega | (simp <;> omega) | (simp +contextual; done) | (clear hK; grind), ?_⟩))
      refine hK _ ?_; clear K hK
      rw [w64 (x := 7 + v') (by omega) (by omega)]
      exact ⟨_, (Le.mv (by simp only [go_sem, hP, hn]; first | done | (simp; done) | (simp [intC]; done) | (repeat (first | rfl | constructor))) (by simp only [go_sem, hP, hn]; first | done | (simp; done) | (simp [intC]; done) | (repeat (first | rfl | constructor)))), 7 + v', j2, rfl, by omega, by omega, fun _ => by omega, hj0'', hj1''⟩
    · (repeat (first | ((first | refine r1 ?_ | refine r2 ?_ | refine r3 ?_); intro K hK; simp only [go_sem, hP, hn]; (repeat (refine ⟨by first | trivial | omega | (simp <;> omega) | (simp +contextual; done) | (clear hK; grind), ?_⟩)); refine hK _ ?_; clear K hK) | refine Tr.seq ?_ | refine Tr.skip ?_ | refine Tr.label ?_ | refine Tr.block ?_ | refine Tr.scope ?_ | refine gs1 ?_ | refine gs2 ?_ | refine gs3 ?_ | refine Tr.exit ?_ | refine Tr.goto ?_ | refine Tr.ret ?_ | refine n1 ?_ | refine n2 ?_ | refine n3 ?_ | refine n4 ?_ | refine n5 ?_ | refine n6 ?_ | refine n7 ?_ | refine n8 ?_ | refine n9 (by decide) ?_))
      exact ⟨_, (Le.mv (by simp only [go_sem, hP, hn]; first | done | (simp; done) | (simp [intC]; done) | (repeat (first | rfl | constructor))) (by simp only [go_sem, hP, hn]; first | done | (simp; done) | (simp [intC]; done) | (repeat (first | rfl | constructor)))), v, j', rfl, hv0, hv1, fun e => (by rw [hs] at e; cases e), hj0', hj1'⟩
  rintro s ⟨k, j, rfl, hk0, hk1, hks, hj0, hj1⟩
  (first | refine r1 ?_ | refine r2 ?_ | refine r3 ?_); intro K hK
  have tail : ∀ (kk : Int) (s' : St), (kk = 1 ∨ kk = 2 ∨ kk = 3 ∨ kk = 4 ∨ kk = 5 ∨ kk = 6 ∨ kk = 9 ∨ kk = 10 ∨ kk = 11 ∨ kk = 12) → (st = true → 6 ≤ kk ∧ kk ≤ 11) → Le E s' ⟨[(0, .ptr 1000 0), (8, .ptr 8 0), (9, .ptr 9 0), (10, .d (.i .i64 w0))], [(9, .box 27 (Nd.mk kk [a] 0 0 0 0 0 0 [] [] 0 0 0 0 0).cs), (8, .box 27 Z8), (1000, rowO l j)]⟩ → K s' := fun kk s' hkk hst hle => hK _ (Tr.le hle (by
    clear hK hle K
    (repeat (first | ((first | refine r1 ?_ | refine r2 ?_ | refine r3 ?_); intro K hK; simp only [go_sem, hP, hn]; (repeat (refine ⟨by first | trivial | omega | (simp <;> omega) | (simp +contextual; done) | (clear hK; grind), ?_⟩)); refine hK _ ?_; clear K hK) | refine Tr.seq ?_ | refine Tr.skip ?_ | refine Tr.label ?_ | refine Tr.block ?_ | refine Tr.scope ?_ | refine gs1 ?_ | refine gs2 ?_ | refine gs3 ?_ | refine Tr.exit ?_ | refine Tr.goto ?_ | refine Tr.ret ?_ | refine n1 ?_ | refine n2 ?_ | refine n3 ?_ | refine n4 ?_ | refine n5 ?_ | refine n6 ?_ | refine n7 ?_ | refine n8 ?_ | refine n9 (by decide) ?_))
    refine Tr.cond rfl (fun c1' => ?_) (fun c1' => ?_)
    · (repeat (first | ((first | refine r1 ?_ | refine r2 ?_ | refine r3 ?_); intro K hK; simp only [go_sem, hP, hn]; (repeat (refine ⟨by first | trivial | omega | (simp <;> omega) | (simp +contextual; done) | (clear hK; grind), ?_⟩)); refine hK _ ?_; clear K hK) | refine Tr.seq ?_ | refine Tr.skip ?_ | refine Tr.label ?_ | refine Tr.block ?_ | refine Tr.scope ?_ | refine gs1 ?_ | refine gs2 ?_ | refine gs3 ?_ | refine Tr.exit ?_ | refine Tr.goto ?_ | refine Tr.ret ?_ | refine n1 ?_ | refine n2 ?_ | refine n3 ?_ | refine n4 ?_ | refine n5 ?_ | refine n6 ?_ | refine n7 ?_ | refine n8 ?_ | refine n9 (by decide) ?_))
      obtain rfl : kk = 1 := by simpa using c1'
      obtain rfl : st = false := by cases st with
        | false => rfl
        | true => exact absurd (hst rfl).1 (by decide)
      (repeat (first | ((first | refine r1 ?_ | refine r2 ?_ | refine r3 ?_); intro K hK; simp only [go_sem, hP, hn]; (repeat (refine ⟨by first | trivial | omega | (simp <;> omega) | (simp +contextual; done) | (clear hK; grind), ?_⟩)); refine hK _ ?_; clear K hK) | refine Tr.seq ?_ | refine Tr.skip ?_ | refine Tr.label ?_ | refine Tr.block ?_ | refine Tr.scope ?_ | refine gs1 ?_ | refine gs2 ?_ | refine gs3 ?_ | refine Tr.exit ?_ | refine Tr.goto ?_ | refine Tr.ret ?_ | refine n1 ?_ | refine n2 ?_ | refine n3 ?_ | refine n4 ?_ | refine n5 ?_ | refine n6 ?_ | refine n7 ?_ | refine n8 ?_ | refine n9 (by decide) ?_))
      (first | refine r1 ?_ | refine r2 ?_ | refine r3 ?_); intro K hK; simp only [go_sem, hP, hn]
      (repeat (refine ⟨by first | trivial | omega | (simp <;> omega) | (simp +contextual; done) | (clear hK; grind), ?_⟩))
      refine CallN_c1 (by rw [hP, hT]; exact window_c Tm l j (Nd.mk 1 [a] 0 0 0 0 0 0 [] [] 0 0 0 0 0) rfl hl hj0 hj1 ) rfl rfl rfl trivial (by simp only [go_sem, hP, hn]; try trivial) (by simp only [go_sem, hP, hn]; try rfl) (by simp only [go_sem, hP, hn]; try rfl) (by rw [hn]; decide) (fun r ob' hr => ?_); obtain  ⟨sz, s1, gp, lf, rt, j1, rfl, rfl, z0, z1, t0, t1, g0, g1, l0, l1, r0, r1, b0, b1⟩ := hr; simp only [go_sem, hP, hn]; (repeat (refine ⟨by first | trivial | omega | (simp <;> omega) | (simp +contextual; done) | (clear hK; grind), ?_⟩))
      refine hK _ ?_; clear K hK
      (repeat (first | ((first | refine r1 ?_ | refine r2 ?_ | refine r3 ?_); intro K hK; simp only [go_sem, hP, hn]; (repeat (refine ⟨by first | trivial | omega | (simp <;> omega) | (simp +contextual; done) | (clear hK; grind), ?_⟩)); refine hK _ ?_; clear K hK) | refine Tr.seq ?_ | refine Tr.skip ?_ | refine Tr.label ?_ | refine Tr.block ?_ | refine Tr.scope ?_ | refine gs1 ?_ | refine gs2 ?_ | refine gs3 ?_ | refine Tr.exit ?_ | refine Tr.goto ?_ | refine Tr.ret ?_ | refine n1 ?_ | refine n2 ?_ | refine n3 ?_ | refine n4 ?_ | refine n5 ?_ | refine n6 ?_ | refine n7 ?_ | refine n8 ?_ | refine n9 (by decide) ?_))
      (first | refine r1 ?_ | refine r2 ?_ | refine r3 ?_); intro K hK; simp only [go_sem, hP, hn]
      (repeat (refine ⟨by first | trivial | omega | (simp <;> omega) | (simp +contextual; done) | (clear hK; grind), ?_⟩))
      refine CallN_c1 (by rw [hP, hT]; exact Next_c Tm l j1 3 hl b0 b1 (by decide) (by decide) ) rfl rfl rfl trivial (by simp only [go_sem, hP, hn]; try trivial) (by simp only [go_sem, hP, hn]; try rfl) (by simp only [go_sem, hP, hn]; try rfl) (by rw [hn]; decide) (fun r ob' hr => ?_); obtain  ⟨v1, j2, rfl, rfl, e1, e2, b2, b3⟩ := hr; simp only [go_sem, hP, hn]; (repeat (refine ⟨by first | trivial | omega | (simp <;> omega) | (simp +contextual; done) | (clear hK; grind), ?_⟩))
      refine hK _ ?_; clear K hK
      have m1 := mul_le (1 + v1) 3 sz 4 (by omega) (by omega) (by omega) z1
      have m2 := mul_le ((1 + v1) * sz) 12 w0 16 m1.1 m1.2 (by omega) hw3.2
      rw [w64 (x := 1 + v1) (by omega) (by omega)]
      refine Tr.le (Le.keep [0, 8, 9, 10]) ?_; simp only [List.map_cons, List.map_nil, lk, Nat.reduceEqDiff, reduceIte]
      (repeat (first | ((first | refine r1 ?_ | refine r2 ?_ | refine r3 ?_); intro K hK; simp only [go_sem, hP, hn]; (repeat (refine ⟨by first | trivial | omega | (simp <;> omega) | (simp +contextual; done) | (clear hK; grind), ?_⟩)); refine hK _ ?_; clear K hK) | refine Tr.seq ?_ | refine Tr.skip ?_ | refine Tr.label ?_ | refine Tr.block ?_ | refine Tr.scope ?_ | refine gs1 ?_ | refine gs2 ?_ | refine gs3 ?_ | refine Tr.exit ?_ | refine Tr.goto ?_ | refine Tr.ret ?_ | refine n1 ?_ | refine n2 ?_ | refine n3 ?_ | refine n4 ?_ | refine n5 ?_ | refine n6 ?_ | refine n7 ?_ | refine n8 ?_ | refine n9 (by decide) ?_))
      (first | refine r1 ?_ | refine r2 ?_ | refine r3 ?_); intro K hK; simp only [go_sem, hP, hn]
      (repeat (refine ⟨by first | trivial | omega | (simp <;> omega) | (simp +contextual; done) | (clear hK; grind), ?_⟩))
      rw [w64 (x := (1 + v1) * sz) (by omega) (by omega), w64 (x := (1 + v1) * sz * w0) (by omega) (by omega)]
      refine CallN_c1 (by rw [hP, hT]; exact row_c Tm l j2 ((1 + v1) * sz * w0) (-9) 19 hl b2 b3 (by omega) (by omega) (by decide) (by decide) (by decide) (by decide) ) rfl rfl rfl trivial (by simp only [go_sem, hP, hn]; try trivial) (by simp only [go_sem, hP, hn]; try rfl) (by simp only [go_sem, hP, hn]; try rfl) (by rw [hn]; decide) (fun r ob' hr => ?_); obtain  ⟨W, j3, rfl, rfl, e3, e4, b4, b5⟩ := hr; simp only [go_sem, hP, hn]; (repeat (refine ⟨by first | trivial | omega | (simp <;> omega) | (simp +contextual; done) | (clear hK; grind), ?_⟩))
      refine hK _ ?_; clear K hK
      (repeat (first | ((first | refine r1 ?_ | refine r2 ?_ | refine r3 ?_); intro K hK; simp only [go_sem, hP, hn]; (repeat (refine ⟨by first | trivial | omega | (simp <;> omega) | (simp +contextual; done) | (clear hK; grind), ?_⟩)); refine hK _ ?_; clear K hK) | refine Tr.seq ?_ | refine Tr.skip ?_ | refine Tr.label ?_ | refine Tr.block ?_ | refine Tr.scope ?_ | refine gs1 ?_ | refine gs2 ?_ | refine gs3 ?_ | refine Tr.exit ?_ | refine Tr.goto ?_ | refine Tr.ret ?_ | refine n1 ?_ | refine n2 ?_ | refine n3 ?_ | refine n4 ?_ | refine n5 ?_ | refine n6 ?_ | refine n7 ?_ | refine n8 ?_ | refine n9 (by decide) ?_))
      (first | refine r1 ?_ | refine r2 ?_ | refine r3 ?_); intro K hK; simp only [go_sem, hP, hn]
      (repeat (refine ⟨by first | trivial | omega | (simp <;> omega) | (simp +contextual; done) | (clear hK; grind), ?_⟩))
      refine CallN_c1 (by rw [hP, hT]; exact row_c Tm l j3 (1 + v1) (-50) 101 hl b4 b5 (by omega) (by omega) (by decide) (by decide) (by decide) (by decide) ) rfl rfl rfl trivial (by simp only [go_sem, hP, hn]; try trivial) (by simp only [go_sem, hP, hn]; try rfl) (by simp only [go_sem, hP, hn]; try rfl) (by rw [hn]; decide) (fun r ob' hr => ?_); obtain  ⟨B, j4, rfl, rfl, e5, e6, b6, b7⟩ := hr; simp only [go_sem, hP, hn]; (repeat (refine ⟨by first | trivial | omega | (simp <;> omega) | (simp +contextual; done) | (clear hK; grind), ?_⟩))
      refine hK _ ?_; clear K hK
      (repeat (first | ((first | refine r1 ?_ | refine r2 ?_ | refine r3 ?_); intro K hK; simp only [go_sem, hP, hn]; (repeat (refine ⟨by first | trivial | omega | (simp <;> omega) | (simp +contextual; done) | (clear hK; grind), ?_⟩)); refine hK _ ?_; clear K hK) | refine Tr.seq ?_ | refine Tr.skip ?_ | refine Tr.label ?_ | refine Tr.block ?_ | refine Tr.scope ?_ | refine gs1 ?_ | refine gs2 ?_ | refine gs3 ?_ | refine Tr.exit ?_ | refine Tr.goto ?_ | refine Tr.ret ?_ | refine n1 ?_ | refine n2 ?_ | refine n3 ?_ | refine n4 ?_ | refine n5 ?_ | refine n6 ?_ | refine n7 ?_ | refine n8 ?_ | refine n9 (by decide) ?_))
      simp only [RetG, go_sem]; (repeat (with_reducible refine And.intro ?_ ?_; (· first | trivial | omega | (simp <;> omega) | (simp +contextual; done) | (clear hK; grind))))
      exact ⟨_, rfl, ⟨1, [a], 1 + v1, sz, s1, gp, lf, rt, W, B, 0, 0, 0, 0, 0⟩, j4, rfl, rfl, made_conv hin hw1 hw3 ⟨by omega, by omega⟩ ⟨z0, z1⟩ ⟨t0, t1⟩ ⟨g0, g1⟩ l0 l1 r0 r1 e3 (fun x hx => by have := e4 x hx; omega) e5 (fun x hx => by have := e6 x hx; omega), b6, b7⟩
    (repeat (first | ((first | refine r1 ?_ | refine r2 ?_ | refine r3 ?_); intro K hK; simp only [go_sem, hP, hn]; (repeat (refine ⟨by first | trivial | omega | (simp <;> omega) | (simp +contextual; done) | (clear hK; grind), ?_⟩)); refine hK _ ?_; clear K hK) | refine Tr.seq ?_ | refine Tr.skip ?_ | refine Tr.label ?_ | refine Tr.block ?_ | refine Tr.scope ?_ | refine gs1 ?_ | refine gs2 ?_ | refine gs3 ?_ | refine Tr.exit ?_ | refine Tr.goto ?_ | refine Tr.ret ?_ | refine n1 ?_ | refine n2 ?_ | refine n3 ?_ | refine n4 ?_ | refine n5 ?_ | refine n6 ?_ | refine n7 ?_ | refine n8 ?_ | refine n9 (by decide) ?_))
    refine Tr.cond rfl (fun c2' => ?_) (fun c2' => ?_)
    · (repeat (first | ((first | refine r1 ?_ | refine r2 ?_ | refine r3 ?_); intro K hK; simp only [go_sem, hP, hn]; (repeat (refine ⟨by first | trivial | omega | (simp <;> omega) | (simp +contextual; done) | (clear hK; grind), ?_⟩)); refine hK _ ?_; clear K hK) | refine Tr.seq ?_ | refine Tr.skip ?_ | refine Tr.label ?_ | refine Tr.block ?_ | refine Tr.scope ?_ | refine gs1 ?_ | refine gs2 ?_ | refine gs3 ?_ | refine Tr.exit ?_ | refine Tr.goto ?_ | refine Tr.ret ?_ | refine n1 ?_ | refine n2 ?_ | refine n3 ?_ | refine n4 ?_ | refine n5 ?_ | refine n6 ?_ | refine n7 ?_ | refine n8 ?_ | refine n9 (by decide) ?_))
      obtain rfl : kk = 2 := by simpa using c2'
      obtain rfl : st = false := by cases st with
        | false => rfl
        | true => exact absurd (hst rfl).1 (by decide)
      (repeat (first | ((first | refine r1 ?_ | refine r2 ?_ | refine r3 ?_); intro K hK; simp only [go_sem, hP, hn]; (repeat (refine ⟨by first | trivial | omega | (simp <;> omega) | (simp +contextual; done) | (clear hK; grind), ?_⟩)); refine hK _ ?_; clear K hK) | refine Tr.seq ?_ | refine Tr.skip ?_ | refine Tr.label ?_ | refine Tr.block ?_ | refine Tr.scope ?_ | refine gs1 ?_ | refine gs2 ?_ | refine gs3 ?_ | refine Tr.exit ?_ | refine Tr.goto ?_ | refine Tr.ret ?_ | refine n1 ?_ | refine n2 ?_ | refine n3 ?_ | refine n4 ?_ | refine n5 ?_ | refine n6 ?_ | refine n7 ?_ | refine n8 ?_ | refine n9 (by decide) ?_))
      (first | refine r1 ?_ | refine r2 ?_ | refine r3 ?_); intro K hK; simp only [go_sem, hP, hn]
      (repeat (refine ⟨by first | trivial | omega | (simp <;> omega) | (simp +contextual; done) | (clear hK; grind), ?_⟩))
      refine CallN_c1 (by rw [hP, hT]; exact window_c Tm l j (Nd.mk 2 [a] 0 0 0 0 0 0 [] [] 0 0 0 0 0) rfl hl hj0 hj1 ) rfl rfl rfl trivial (by simp only [go_sem, hP, hn]; try trivial) (by simp only [go_sem, hP, hn]; try rfl) (by simp only [go_sem, hP, hn]; try rfl) (by rw [hn]; decide) (fun r ob' hr => ?_); obtain  ⟨sz, s1, gp, lf, rt, j1, rfl, rfl, z0, z1, t0, t1, g0, g1, l0, l1, r0, r1, b0, b1⟩ := hr; simp only [go_sem, hP, hn]; (repeat (refine ⟨by first | trivial | omega | (simp <;> omega) | (simp +contextual; done) | (clear hK; grind), ?_⟩))
      refine hK _ ?_; clear K hK
      have m2 := mul_le sz 4 w0 16 (by omega) (by omega) (by omega) hw3.2
      refine Tr.le (Le.keep [0, 8, 9, 10]) ?_; simp only [List.map_cons, List.map_nil, lk, Nat.reduceEqDiff, reduceIte]
      (repeat (first | ((first | refine r1 ?_ | refine r2 ?_ | refine r3 ?_); intro K hK; simp only [go_sem, hP, hn]; (repeat (refine ⟨by first | trivial | omega | (simp <;> omega) | (simp +contextual; done) | (clear hK; grind), ?_⟩)); refine hK _ ?_; clear K hK) | refine Tr.seq ?_ | refine Tr.skip ?_ | refine Tr.label ?_ | refine Tr.block ?_ | refine Tr.scope ?_ | refine gs1 ?_ | refine gs2 ?_ | refine gs3 ?_ | refine Tr.exit ?_ | refine Tr.goto ?_ | refine Tr.ret ?_ | refine n1 ?_ | refine n2 ?_ | refine n3 ?_ | refine n4 ?_ | refine n5 ?_ | refine n6 ?_ | refine n7 ?_ | refine n8 ?_ | refine n9 (by decide) ?_))
      (first | refine r1 ?_ | refine r2 ?_ | refine r3 ?_); intro K hK; simp only [go_sem, hP, hn]
      (repeat (refine ⟨by first | trivial | omega | (simp <;> omega) | (simp +contextual; done) | (clear hK; grind), ?_⟩))
      rw [w64 (x := sz * w0) (by omega) (by omega)]
      refine CallN_c1 (by rw [hP, hT]; exact row_c Tm l j1 (sz * w0) (-9) 19 hl b0 b1 (by omega) (by omega) (by decide) (by decide) (by decide) (by decide) ) rfl rfl rfl trivial (by simp only [go_sem, hP, hn]; try trivial) (by simp only [go_sem, hP, hn]; try rfl) (by simp only [go_sem, hP, hn]; try rfl) (by rw [hn]; decide) (fun r ob' hr => ?_); obtain  ⟨W, j3, rfl, rfl, e3, e4, b4, b5⟩ := hr; simp only [go_sem, hP, hn]; (repeat (refine ⟨by first | trivial | omega | (simp <;> omega) | (simp +contextual; done) | (clear hK; grind), ?_⟩))
      refine hK _ ?_; clear K hK
      (repeat (first | ((first | refine r1 ?_ | refine r2 ?_ | refine r3 ?_); intro K hK; simp only [go_sem, hP, hn]; (repeat (refine ⟨by first | trivial | omega | (simp <;> omega) | (simp +contextual; done) | (clear hK; grind), ?_⟩)); refine hK _ ?_; clear K hK) | refine Tr.seq ?_ | refine Tr.skip ?_ | refine Tr.label ?_ | refine Tr.block ?_ | refine Tr.scope ?_ | refine gs1 ?_ | refine gs2 ?_ | refine gs3 ?_ | refine Tr.exit ?_ | refine Tr.goto ?_ | refine Tr.ret ?_ | refine n1 ?_ | refine n2 ?_ | refine n3 ?_ | refine n4 ?_ | refine n5 ?_ | refine n6 ?_ | refine n7 ?_ | refine n8 ?_ | refine n9 (by decide) ?_))
      (first | refine r1 ?_ | refine r2 ?_ | refine r3 ?_); intro K hK; simp only [go_sem, hP, hn]
      (repeat (refine ⟨by first | trivial | omega | (simp <;> omega) | (simp +contextual; done) | (clear hK; grind), ?_⟩))
      refine CallN_c1 (by rw [hP, hT]; exact row_c Tm l j3 w0 (-50) 101 hl b4 b5 (by omega) (by omega) (by decide) (by decide) (by decide) (by decide) ) rfl rfl rfl trivial (by simp only [go_sem, hP, hn]; try trivial) (by simp only [go_sem, hP, hn]; try rfl) (by simp only [go_sem, hP, hn]; try rfl) (by rw [hn]; decide) (fun r ob' hr => ?_); obtain  ⟨B, j4, rfl, rfl, e5, e6, b6, b7⟩ := hr; simp only [go_sem, hP, hn]; (repeat (refine ⟨by first | trivial | omega | (simp <;> omega) | (simp +contextual; done) | (clear hK; grind), ?_⟩))
      refine hK _ ?_; clear K hK
      (repeat (first | ((first | refine r1 ?_ | refine r2 ?_ | refine r3 ?_); intro K hK; simp only [go_sem, hP, hn]; (repeat (refine ⟨by first | trivial | omega | (simp <;> omega) | (simp +contextual; done) | (clear hK; grind), ?_⟩)); refine hK _ ?_; clear K hK) | refine Tr.seq ?_ | refine Tr.skip ?_ | refine Tr.label ?_ | refine Tr.block ?_ | refine Tr.scope ?_ | refine gs1 ?_ | refine gs2 ?_ | refine gs3 ?_ | refine Tr.exit ?_ | refine Tr.goto ?_ | refine Tr.ret ?_ | refine n1 ?_ | refine n2 ?_ | refine n3 ?_ | refine n4 ?_ | refine n5 ?_ | refine n6 ?_ | refine n7 ?_ | refine n8 ?_ | refine n9 (by decide) ?_))
      simp only [RetG, go_sem]; (repeat (with_reducible refine And.intro ?_ ?_; (· first | trivial | omega | (simp <;> omega) | (simp +contextual; done) | (clear hK; grind))))
      exact ⟨_, rfl, ⟨2, [a], 0, sz, s1, gp, lf, rt, W, B, 0, 0, 0, 0, 0⟩, j4, rfl, rfl, made_depth hin hw1 hw3 ⟨z0, z1⟩ ⟨t0, t1⟩ ⟨g0, g1⟩ l0 l1 r0 r1 e3 (fun x hx => by have := e4 x hx; omega) e5 (fun x hx => by have := e6 x hx; omega), b6, b7⟩
    (repeat (first | ((first | refine r1 ?_ | refine r2 ?_ | refine r3 ?_); intro K hK; simp only [go_sem, hP, hn]; (repeat (refine ⟨by first | trivial | omega | (simp <;> omega) | (simp +contextual; done) | (clear hK; grind), ?_⟩)); refine hK _ ?_; clear K hK) | refine Tr.seq ?_ | refine Tr.skip ?_ | refine Tr.label ?_ | refine Tr.block ?_ | refine Tr.scope ?_ | refine gs1 ?_ | refine gs2 ?_ | refine gs3 ?_ | refine Tr.exit ?_ | refine Tr.goto ?_ | refine Tr.ret ?_ | refine n1 ?_ | refine n2 ?_ | refine n3 ?_ | refine n4 ?_ | refine n5 ?_ | refine n6 ?_ | refine n7 ?_ | refine n8 ?_ | refine n9 (by decide) ?_))
    refine Tr.cond rfl (fun c6' => ?_) (fun c6' => ?_)
    · (repeat (first | ((first | refine r1 ?_ | refine r2 ?_ | refine r3 ?_); intro K hK; simp only [go_sem, hP, hn]; (repeat (refine ⟨by first | trivial | omega | (simp <;> omega) | (simp +contextual; done) | (clear hK; grind), ?_⟩)); refine hK _ ?_; clear K hK) | refine Tr.seq ?_ | refine Tr.skip ?_ | refine Tr.label ?_ | refine Tr.block ?_ | refine Tr.scope ?_ | refine gs1 ?_ | refine gs2 ?_ | refine gs3 ?_ | refine Tr.exit ?_ | refine Tr.goto ?_ | refine Tr.ret ?_ | refine n1 ?_ | refine n2 ?_ | refine n3 ?_ | refine n4 ?_ | refine n5 ?_ | refine n6 ?_ | refine n7 ?_ | refine n8 ?_ | refine n9 (by decide) ?_))
      obtain rfl : kk = 6 := by simpa using c6'
      (repeat (first | ((first | refine r1 ?_ | refine r2 ?_ | refine r3 ?_); intro K hK; simp only [go_sem, hP, hn]; (repeat (refine ⟨by first | trivial | omega | (simp <;> omega) | (simp +contextual; done) | (clear hK; grind), ?_⟩)); refine hK _ ?_; clear K hK) | refine Tr.seq ?_ | refine Tr.skip ?_ | refine Tr.label ?_ | refine Tr.block ?_ | refine Tr.scope ?_ | refine gs1 ?_ | refine gs2 ?_ | refine gs3 ?_ | refine Tr.exit ?_ | refine Tr.goto ?_ | refine Tr.ret ?_ | refine n1 ?_ | refine n2 ?_ | refine n3 ?_ | refine n4 ?_ | refine n5 ?_ | refine n6 ?_ | refine n7 ?_ | refine n8 ?_ | refine n9 (by decide) ?_))
      (first | refine r1 ?_ | refine r2 ?_ | refine r3 ?_); intro K hK; simp only [go_sem, hP, hn]
      (repeat (refine ⟨by first | trivial | omega | (simp <;> omega) | (simp +contextual; done) | (clear hK; grind), ?_⟩))
      refine CallN_c1 (by rw [hP, hT]; exact Next_c Tm l j 3 hl hj0 hj1 (by decide) (by decide) ) rfl rfl rfl trivial (by simp only [go_sem, hP, hn]; try trivial) (by simp only [go_sem, hP, hn]; try rfl) (by simp only [go_sem, hP, hn]; try rfl) (by rw [hn]; decide) (fun r ob' hr => ?_); obtain  ⟨v1, j2, rfl, rfl, e1, e2, b2, b3⟩ := hr; simp only [go_sem, hP, hn]; (repeat (refine ⟨by first | trivial | omega | (simp <;> omega) | (simp +contextual; done) | (clear hK; grind), ?_⟩))
      refine hK _ ?_; clear K hK
      have m2 := mul_le (1 + v1) 3 w0 16 (by omega) (by omega) (by omega) hw3.2
      rw [w64 (x := 1 + v1) (by omega) (by omega)]
      refine Tr.le (Le.keep [0, 8, 9, 10]) ?_; simp only [List.map_cons, List.map_nil, lk, Nat.reduceEqDiff, reduceIte]
      (repeat (first | ((first | refine r1 ?_ | refine r2 ?_ | refine r3 ?_); intro K hK; simp only [go_sem, hP, hn]; (repeat (refine ⟨by first | trivial | omega | (simp <;> omega) | (simp +contextual; done) | (clear hK; grind), ?_⟩)); refine hK _ ?_; clear K hK) | refine Tr.seq ?_ | refine Tr.skip ?_ | refine Tr.label ?_ | refine Tr.block ?_ | refine Tr.scope ?_ | refine gs1 ?_ | refine gs2 ?_ | refine gs3 ?_ | refine Tr.exit ?_ | refine Tr.goto ?_ | refine Tr.ret ?_ | refine n1 ?_ | refine n2 ?_ | refine n3 ?_ | refine n4 ?_ | refine n5 ?_ | refine n6 ?_ | refine n7 ?_ | refine n8 ?_ | refine n9 (by decide) ?_))
      (first | refine r1 ?_ | refine r2 ?_ | refine r3 ?_); intro K hK; simp only [go_sem, hP, hn]
      (repeat (refine ⟨by first | trivial | omega | (simp <;> omega) | (simp +contextual; done) | (clear hK; grind), ?_⟩))
      rw [w64 (x := (1 + v1) * w0) (by omega) (by omega)]
      refine CallN_c1 (by rw [hP, hT]; exact row_c Tm l j2 ((1 + v1) * w0) (-12) 25 hl b2 b3 (by omega) (by omega) (by decide) (by decide) (by decide) (by decide) ) rfl rfl rfl trivial (by simp only [go_sem, hP, hn]; try trivial) (by simp only [go_sem, hP, hn]; try rfl) (by simp only [go_sem, hP, hn]; try rfl) (by rw [hn]; decide) (fun r ob' hr => ?_); obtain  ⟨W, j3, rfl, rfl, e3, e4, b4, b5⟩ := hr; simp only [go_sem, hP, hn]; (repeat (refine ⟨by first | trivial | omega | (simp <;> omega) | (simp +contextual; done) | (clear hK; grind), ?_⟩))
      refine hK _ ?_; clear K hK
      (repeat (first | ((first | refine r1 ?_ | refine r2 ?_ | refine r3 ?_); intro K hK; simp only [go_sem, hP, hn]; (repeat (refine ⟨by first | trivial | omega | (simp <;> omega) | (simp +contextual; done) | (clear hK; grind), ?_⟩)); refine hK _ ?_; clear K hK) | refine Tr.seq ?_ | refine Tr.skip ?_ | refine Tr.label ?_ | refine Tr.block ?_ | refine Tr.scope ?_ | refine gs1 ?_ | refine gs2 ?_ | refine gs3 ?_ | refine Tr.exit ?_ | refine Tr.goto ?_ | refine Tr.ret ?_ | refine n1 ?_ | refine n2 ?_ | refine n3 ?_ | refine n4 ?_ | refine n5 ?_ | refine n6 ?_ | refine n7 ?_ | refine n8 ?_ | refine n9 (by decide) ?_))
      (first | refine r1 ?_ | refine r2 ?_ | refine r3 ?_); intro K hK; simp only [go_sem, hP, hn]
      (repeat (refine ⟨by first | trivial | omega | (simp <;> omega) | (simp +contextual; done) | (clear hK; grind), ?_⟩))
      refine CallN_c1 (by rw [hP, hT]; exact row_c Tm l j3 (1 + v1) (-5000) 10001 hl b4 b5 (by omega) (by omega) (by decide) (by decide) (by decide) (by decide) ) rfl rfl rfl trivial (by simp only [go_sem, hP, hn]; try trivial) (by simp only [go_sem, hP, hn]; try rfl) (by simp only [go_sem, hP, hn]; try rfl) (by rw [hn]; decide) (fun r ob' hr => ?_); obtain  ⟨B, j4, rfl, rfl, e5, e6, b6, b7⟩ := hr; simp only [go_sem, hP, hn]; (repeat (refine ⟨by first | trivial | omega | (simp <;> omega) | (simp +contextual; done) | (clear hK; grind), ?_⟩))
      refine hK _ ?_; clear K hK
      (repeat (first | ((first | refine r1 ?_ | refine r2 ?_ | refine r3 ?_); intro K hK; simp only [go_sem, hP, hn]; (repeat (refine ⟨by first | trivial | omega | (simp <;> omega) | (simp +contextual; done) | (clear hK; grind), ?_⟩)); refine hK _ ?_; clear K hK) | refine Tr.seq ?_ | refine Tr.skip ?_ | refine Tr.label ?_ | refine Tr.block ?_ | refine Tr.scope ?_ | refine gs1 ?_ | refine gs2 ?_ | refine gs3 ?_ | refine Tr.exit ?_ | refine Tr.goto ?_ | refine Tr.ret ?_ | refine n1 ?_ | refine n2 ?_ | refine n3 ?_ | refine n4 ?_ | refine n5 ?_ | refine n6 ?_ | refine n7 ?_ | refine n8 ?_ | refine n9 (by decide) ?_))
      simp only [RetG, go_sem]; (repeat (with_reducible refine And.intro ?_ ?_; (· first | trivial | omega | (simp <;> omega) | (simp +contextual; done) | (clear hK; grind))))
      exact ⟨_, rfl, ⟨6, [a], 1 + v1, 0, 0, 0, 0, 0, W, B, 0, 0, 0, 0, 0⟩, j4, rfl, rfl, made_dense hin hw1 hw3 ⟨by omega, by omega⟩ e3 (fun x hx => by have := e4 x hx; omega) e5 (fun x hx => by have := e6 x hx; omega), b6, b7⟩
    (repeat (first | ((first | refine r1 ?_ | refine r2 ?_ | refine r3 ?_); intro K hK; simp only [go_sem, hP, hn]; (repeat (refine ⟨by first | trivial | omega | (simp <;> omega) | (simp +contextual; done) | (clear hK; grind), ?_⟩)); refine hK _ ?_; clear K hK) | refine Tr.seq ?_ | refine Tr.skip ?_ | refine Tr.label ?_ | refine Tr.block ?_ | refine Tr.scope ?_ | refine gs1 ?_ | refine gs2 ?_ | refine gs3 ?_ | refine Tr.exit ?_ | refine Tr.goto ?_ | refine Tr.ret ?_ | refine n1 ?_ | refine n2 ?_ | refine n3 ?_ | refine n4 ?_ | refine n5 ?_ | refine n6 ?_ | refine n7 ?_ | refine n8 ?_ | refine n9 (by decide) ?_))
    refine Tr.cond rfl (fun c3' => ?_) (fun c3' => ?_)
    · obtain rfl : kk = 3 := by simpa using c3'
      obtain rfl : st = false := by cases st with
        | false => rfl
        | true => exact absurd (hst rfl).1 (by decide)
      (repeat (first | ((first | refine r1 ?_ | refine r2 ?_ | refine r3 ?_); intro K hK; simp only [go_sem, hP, hn]; (repeat (refine ⟨by first | trivial | omega | (simp <;> omega) | (simp +contextual; done) | (clear hK; grind), ?_⟩)); refine hK _ ?_; clear K hK) | refine Tr.seq ?_ | refine Tr.skip ?_ | refine Tr.label ?_ | refine Tr.block ?_ | refine Tr.scope ?_ | refine gs1 ?_ | refine gs2 ?_ | refine gs3 ?_ | refine Tr.exit ?_ | refine Tr.goto ?_ | refine Tr.ret ?_ | refine n1 ?_ | refine n2 ?_ | refine n3 ?_ | refine n4 ?_ | refine n5 ?_ | refine n6 ?_ | refine n7 ?_ | refine n8 ?_ | refine n9 (by decide) ?_))
      refine Tr.cond rfl (fun cp => ?_) (fun cp => ?_)
      · (repeat (first | ((first | refine r1 ?_ | refine r2 ?_ | refine r3 ?_); intro K hK; simp only [go_sem, hP, hn]; (repeat (refine ⟨by first | trivial | omega | (simp <;> omega) | (simp +contextual; done) | (clear hK; grind), ?_⟩)); refine hK _ ?_; clear K hK) | refine Tr.seq ?_ | refine Tr.skip ?_ | refine Tr.label ?_ | refine Tr.block ?_ | refine Tr.scope ?_ | refine gs1 ?_ | refine gs2 ?_ | refine gs3 ?_ | refine Tr.exit ?_ | refine Tr.goto ?_ | refine Tr.ret ?_ | refine n1 ?_ | refine n2 ?_ | refine n3 ?_ | refine n4 ?_ | refine n5 ?_ | refine n6 ?_ | refine n7 ?_ | refine n8 ?_ | refine n9 (by decide) ?_))
        (first | refine r1 ?_ | refine r2 ?_ | refine r3 ?_); intro K hK; simp only [go_sem, hP, hn]
        (repeat (refine ⟨by first | trivial | omega | (simp <;> omega) | (simp +contextual; done) | (clear hK; grind), ?_⟩))
        refine CallN_c1 (by rw [hP, hT]; exact window_c Tm l j (Nd.mk 3 [a] 0 0 0 0 0 0 [] [] 0 0 0 0 0) rfl hl hj0 hj1 ) rfl rfl rfl trivial (by simp only [go_sem, hP, hn]; try trivial) (by simp only [go_sem, hP, hn]; try rfl) (by simp only [go_sem, hP, hn]; try rfl) (by rw [hn]; decide) (fun r ob' hr => ?_); obtain  ⟨sz, s1, gp, lf, rt, j1, rfl, rfl, z0, z1, t0, t1, g0, g1, l0, l1, r0, r1, b0, b1⟩ := hr; simp only [go_sem, hP, hn]; (repeat (refine ⟨by first | trivial | omega | (simp <;> omega) | (simp +contextual; done) | (clear hK; grind), ?_⟩))
        refine hK _ ?_; clear K hK
        (repeat (first | ((first | refine r1 ?_ | refine r2 ?_ | refine r3 ?_); intro K hK; simp only [go_sem, hP, hn]; (repeat (refine ⟨by first | trivial | omega | (simp <;> omega) | (simp +contextual; done) | (clear hK; grind), ?_⟩)); refine hK _ ?_; clear K hK) | refine Tr.seq ?_ | refine Tr.skip ?_ | refine Tr.label ?_ | refine Tr.block ?_ | refine Tr.scope ?_ | refine gs1 ?_ | refine gs2 ?_ | refine gs3 ?_ | refine Tr.exit ?_ | refine Tr.goto ?_ | refine Tr.ret ?_ | refine n1 ?_ | refine n2 ?_ | refine n3 ?_ | refine n4 ?_ | refine n5 ?_ | refine n6 ?_ | refine n7 ?_ | refine n8 ?_ | refine n9 (by decide) ?_))
        simp only [RetG, go_sem]; (repeat (with_reducible refine And.intro ?_ ?_; (· first | trivial | omega | (simp <;> omega) | (simp +contextual; done) | (clear hK; grind))))
        exact ⟨_, rfl, ⟨3, [a], 0, sz, s1, gp, lf, rt, [], [], 0, 0, 0, 0, 0⟩, j1, rfl, rfl, made_pool hin hw1 hw3 (by decide) ⟨z0, z1⟩ ⟨t0, t1⟩ ⟨g0, g1⟩ l0 l1 r0 r1, b0, b1⟩
      · exact absurd cp (by decide)
    (repeat (first | ((first | refine r1 ?_ | refine r2 ?_ | refine r3 ?_); intro K hK; simp only [go_sem, hP, hn]; (repeat (refine ⟨by first | trivial | omega | (simp <;> omega) | (simp +contextual; done) | (clear hK; grind), ?_⟩)); refine hK _ ?_; clear K hK) | refine Tr.seq ?_ | refine Tr.skip ?_ | refine Tr.label ?_ | refine Tr.block ?_ | refine Tr.scope ?_ | refine gs1 ?_ | refine gs2 ?_ | refine gs3 ?_ | refine Tr.exit ?_ | refine Tr.goto ?_ | refine Tr.ret ?_ | refine n1 ?_ | refine n2 ?_ | refine n3 ?_ | refine n4 ?_ | refine n5 ?_ | refine n6 ?_ | refine n7 ?_ | refine n8 ?_ | refine n9 (by decide) ?_))
    refine Tr.cond rfl (fun c4' => ?_) (fun c4' => ?_)
    · (repeat (first | ((first | refine r1 ?_ | refine r2 ?_ | refine r3 ?_); intro K hK; simp only [go_sem, hP, hn]; (repeat (refine ⟨by first | trivial | omega | (simp <;> omega) | (simp +contextual; done) | (clear hK; grind), ?_⟩)); refine hK _ ?_; clear K hK) | refine Tr.seq ?_ | refine Tr.skip ?_ | refine Tr.label ?_ | refine Tr.block ?_ | refine Tr.scope ?_ | refine gs1 ?_ | refine gs2 ?_ | refine gs3 ?_ | refine Tr.exit ?_ | refine Tr.goto ?_ | refine Tr.ret ?_ | refine n1 ?_ | refine n2 ?_ | refine n3 ?_ | refine n4 ?_ | refine n5 ?_ | refine n6 ?_ | refine n7 ?_ | refine n8 ?_ | refine n9 (by decide) ?_))
      obtain rfl : kk = 4 := by simpa using c4'
      obtain rfl : st = false := by cases st with
        | false => rfl
        | true => exact absurd (hst rfl).1 (by decide)
      (repeat (first | ((first | refine r1 ?_ | refine r2 ?_ | refine r3 ?_); intro K hK; simp only [go_sem, hP, hn]; (repeat (refine ⟨by first | trivial | omega | (simp <;> omega) | (simp +contextual; done) | (clear hK; grind), ?_⟩)); refine hK _ ?_; clear K hK) | refine Tr.seq ?_ | refine Tr.skip ?_ | refine Tr.label ?_ | refine Tr.block ?_ | refine Tr.scope ?_ | refine gs1 ?_ | refine gs2 ?_ | refine gs3 ?_ | refine Tr.exit ?_ | refine Tr.goto ?_ | refine Tr.ret ?_ | refine n1 ?_ | refine n2 ?_ | refine n3 ?_ | refine n4 ?_ | refine n5 ?_ | refine n6 ?_ | refine n7 ?_ | refine n8 ?_ | refine n9 (by decide) ?_))
      (first | refine r1 ?_ | refine r2 ?_ | refine r3 ?_); intro K hK; simp only [go_sem, hP, hn]
      (repeat (refine ⟨by first | trivial | omega | (simp <;> omega) | (simp +contextual; done) | (clear hK; grind), ?_⟩))
      refine CallN_c1 (by rw [hP, hT]; exact window_c Tm l j (Nd.mk 4 [a] 0 0 0 0 0 0 [] [] 0 0 0 0 0) rfl hl hj0 hj1 ) rfl rfl rfl trivial (by simp only [go_sem, hP, hn]; try trivial) (by simp only [go_sem, hP, hn]; try rfl) (by simp only [go_sem, hP, hn]; try rfl) (by rw [hn]; decide) (fun r ob' hr => ?_); obtain  ⟨sz, s1, gp, lf, rt, j1, rfl, rfl, z0, z1, t0, t1, g0, g1, l0, l1, r0, r1, b0, b1⟩ := hr; simp only [go_sem, hP, hn]; (repeat (refine ⟨by first | trivial | omega | (simp <;> omega) | (simp +contextual; done) | (clear hK; grind), ?_⟩))
      refine hK _ ?_; clear K hK
      (repeat (first | ((first | refine r1 ?_ | refine r2 ?_ | refine r3 ?_); intro K hK; simp only [go_sem, hP, hn]; (repeat (refine ⟨by first | trivial | omega | (simp <;> omega) | (simp +contextual; done) | (clear hK; grind), ?_⟩)); refine hK _ ?_; clear K hK) | refine Tr.seq ?_ | refine Tr.skip ?_ | refine Tr.label ?_ | refine Tr.block ?_ | refine Tr.scope ?_ | refine gs1 ?_ | refine gs2 ?_ | refine gs3 ?_ | refine Tr.exit ?_ | refine Tr.goto ?_ | refine Tr.ret ?_ | refine n1 ?_ | refine n2 ?_ | refine n3 ?_ | refine n4 ?_ | refine n5 ?_ | refine n6 ?_ | refine n7 ?_ | refine n8 ?_ | refine n9 (by decide) ?_))
      simp only [RetG, go_sem]; (repeat (with_reducible refine And.intro ?_ ?_; (· first | trivial | omega | (simp <;> omega) | (simp +contextual; done) | (clear hK; grind))))
      exact ⟨_, rfl, ⟨4, [a], 0, sz, s1, gp, lf, rt, [], [], 0, 0, 0, 0, 0⟩, j1, rfl, rfl, made_pool hin hw1 hw3 (by decide) ⟨z0, z1⟩ ⟨t0, t1⟩ ⟨g0, g1⟩ l0 l1 r0 r1, b0, b1⟩
    (repeat (first | ((first | refine r1 ?_ | refine r2 ?_ | refine r3 ?_); intro K hK; simp only [go_sem, hP, hn]; (repeat (refine ⟨by first | trivial | omega | (simp <;> omega) | (simp +contextual; done) | (clear hK; grind), ?_⟩)); refine hK _ ?_; clear K hK) | refine Tr.seq ?_ | refine Tr.skip ?_ | refine Tr.label ?_ | refine Tr.block ?_ | refine Tr.scope ?_ | refine gs1 ?_ | refine gs2 ?_ | refine gs3 ?_ | refine Tr.exit ?_ | refine Tr.goto ?_ | refine Tr.ret ?_ | refine n1 ?_ | refine n2 ?_ | refine n3 ?_ | refine n4 ?_ | refine n5 ?_ | refine n6 ?_ | refine n7 ?_ | refine n8 ?_ | refine n9 (by decide) ?_))
    refine Tr.cond rfl (fun c12' => ?_) (fun c12' => ?_)
    · (repeat (first | ((first | refine r1 ?_ | refine r2 ?_ | refine r3 ?_); intro K hK; simp only [go_sem, hP, hn]; (repeat (refine ⟨by first | trivial | omega | (simp <;> omega) | (simp +contextual; done) | (clear hK; grind), ?_⟩)); refine hK _ ?_; clear K hK) | refine Tr.seq ?_ | refine Tr.skip ?_ | refine Tr.label ?_ | refine Tr.block ?_ | refine Tr.scope ?_ | refine gs1 ?_ | refine gs2 ?_ | refine gs3 ?_ | refine Tr.exit ?_ | refine Tr.goto ?_ | refine Tr.ret ?_ | refine n1 ?_ | refine n2 ?_ | refine n3 ?_ | refine n4 ?_ | refine n5 ?_ | refine n6 ?_ | refine n7 ?_ | refine n8 ?_ | refine n9 (by decide) ?_))
      obtain rfl : kk = 12 := by simpa using c12'
      (repeat (first | ((first | refine r1 ?_ | refine r2 ?_ | refine r3 ?_); intro K hK; simp only [go_sem, hP, hn]; (repeat (refine ⟨by first | trivial | omega | (simp <;> omega) | (simp +contextual; done) | (clear hK; grind), ?_⟩)); refine hK _ ?_; clear K hK) | refine Tr.seq ?_ | refine Tr.skip ?_ | refine Tr.label ?_ | refine Tr.block ?_ | refine Tr.scope ?_ | refine gs1 ?_ | refine gs2 ?_ | refine gs3 ?_ | refine Tr.exit ?_ | refine Tr.goto ?_ | refine Tr.ret ?_ | refine n1 ?_ | refine n2 ?_ | refine n3 ?_ | refine n4 ?_ | refine n5 ?_ | refine n6 ?_ | refine n7 ?_ | refine n8 ?_ | refine n9 (by decide) ?_))
      (first | refine r1 ?_ | refine r2 ?_ | refine r3 ?_); intro K hK; simp only [go_sem, hP, hn]
      (repeat (refine ⟨by first | trivial | omega | (simp <;> omega) | (simp +contextual; done) | (clear hK; grind), ?_⟩))
      refine CallN_c1 (by rw [hP, hT]; exact Next_c Tm l j 5 hl hj0 hj1 (by decide) (by decide) ) rfl rfl rfl trivial (by simp only [go_sem, hP, hn]; try trivial) (by simp only [go_sem, hP, hn]; try rfl) (by simp only [go_sem, hP, hn]; try rfl) (by rw [hn]; decide) (fun r ob' hr => ?_); obtain  ⟨v1, j2, rfl, rfl, e1, e2, b2, b3⟩ := hr; simp only [go_sem, hP, hn]; (repeat (refine ⟨by first | trivial | omega | (simp <;> omega) | (simp +contextual; done) | (clear hK; grind), ?_⟩))
      refine hK _ ?_; clear K hK
      rw [w64 (x := 1 + v1) (by omega) (by omega)]
      (repeat (first | ((first | refine r1 ?_ | refine r2 ?_ | refine r3 ?_); intro K hK; simp only [go_sem, hP, hn]; (repeat (refine ⟨by first | trivial | omega | (simp <;> omega) | (simp +contextual; done) | (clear hK; grind), ?_⟩)); refine hK _ ?_; clear K hK) | refine Tr.seq ?_ | refine Tr.skip ?_ | refine Tr.label ?_ | refine Tr.block ?_ | refine Tr.scope ?_ | refine gs1 ?_ | refine gs2 ?_ | refine gs3 ?_ | refine Tr.exit ?_ | refine Tr.goto ?_ | refine Tr.ret ?_ | refine n1 ?_ | refine n2 ?_ | refine n3 ?_ | refine n4 ?_ | refine n5 ?_ | refine n6 ?_ | refine n7 ?_ | refine n8 ?_ | refine n9 (by decide) ?_))
      simp only [RetG, go_sem]; (repeat (with_reducible refine And.intro ?_ ?_; (· first | trivial | omega | (simp <;> omega) | (simp +contextual; done) | (clear hK; grind))))
      exact ⟨_, rfl, ⟨12, [a], 0, 1 + v1, 0, 0, 0, 0, [], [], 0, 0, 0, 0, 0⟩, j2, rfl, rfl, made_rest hin hw1 hw3 (by decide) (fun h => absurd rfl h) (fun _ => ⟨by omega, by omega⟩) (fun _ => ⟨rfl, rfl⟩) (fun h => absurd h (by decide)) (fun _ => ⟨rfl, rfl⟩) (fun h => absurd h (by decide)) (fun h => absurd (hst h).2 (by decide)), b2, b3⟩
    (repeat (first | ((first | refine r1 ?_ | refine r2 ?_ | refine r3 ?_); intro K hK; simp only [go_sem, hP, hn]; (repeat (refine ⟨by first | trivial | omega | (simp <;> omega) | (simp +contextual; done) | (clear hK; grind), ?_⟩)); refine hK _ ?_; clear K hK) | refine Tr.seq ?_ | refine Tr.skip ?_ | refine Tr.label ?_ | refine Tr.block ?_ | refine Tr.scope ?_ | refine gs1 ?_ | refine gs2 ?_ | refine gs3 ?_ | refine Tr.exit ?_ | refine Tr.goto ?_ | refine Tr.ret ?_ | refine n1 ?_ | refine n2 ?_ | refine n3 ?_ | refine n4 ?_ | refine n5 ?_ | refine n6 ?_ | refine n7 ?_ | refine n8 ?_ | refine n9 (by decide) ?_))
    refine Tr.cond rfl (fun c9' => ?_) (fun c9' => ?_)
    · (repeat (first | ((first | refine r1 ?_ | refine r2 ?_ | refine r3 ?_); intro K hK; simp only [go_sem, hP, hn]; (repeat (refine ⟨by first | trivial | omega | (simp <;> omega) | (simp +contextual; done) | (clear hK; grind), ?_⟩)); refine hK _ ?_; clear K hK) | refine Tr.seq ?_ | refine Tr.skip ?_ | refine Tr.label ?_ | refine Tr.block ?_ | refine Tr.scope ?_ | refine gs1 ?_ | refine gs2 ?_ | refine gs3 ?_ | refine Tr.exit ?_ | refine Tr.goto ?_ | refine Tr.ret ?_ | refine n1 ?_ | refine n2 ?_ | refine n3 ?_ | refine n4 ?_ | refine n5 ?_ | refine n6 ?_ | refine n7 ?_ | refine n8 ?_ | refine n9 (by decide) ?_))
      obtain rfl : kk = 9 := by simpa using c9'
      (repeat (first | ((first | refine r1 ?_ | refine r2 ?_ | refine r3 ?_); intro K hK; simp only [go_sem, hP, hn]; (repeat (refine ⟨by first | trivial | omega | (simp <;> omega) | (simp +contextual; done) | (clear hK; grind), ?_⟩)); refine hK _ ?_; clear K hK) | refine Tr.seq ?_ | refine Tr.skip ?_ | refine Tr.label ?_ | refine Tr.block ?_ | refine Tr.scope ?_ | refine gs1 ?_ | refine gs2 ?_ | refine gs3 ?_ | refine Tr.exit ?_ | refine Tr.goto ?_ | refine Tr.ret ?_ | refine n1 ?_ | refine n2 ?_ | refine n3 ?_ | refine n4 ?_ | refine n5 ?_ | refine n6 ?_ | refine n7 ?_ | refine n8 ?_ | refine n9 (by decide) ?_))
      (first | refine r1 ?_ | refine r2 ?_ | refine r3 ?_); intro K hK; simp only [go_sem, hP, hn]
      (repeat (refine ⟨by first | trivial | omega | (simp <;> omega) | (simp +contextual; done) | (clear hK; grind), ?_⟩))
      refine CallN_c1 (by rw [hP, hT]; exact Next_c Tm l j 200 hl hj0 hj1 (by decide) (by decide) ) rfl rfl rfl trivial (by simp only [go_sem, hP, hn]; try trivial) (by simp only [go_sem, hP, hn]; try rfl) (by simp only [go_sem, hP, hn]; try rfl) (by rw [hn]; decide) (fun r ob' hr => ?_); obtain  ⟨v1, j2, rfl, rfl, e1, e2, b2, b3⟩ := hr; simp only [go_sem, hP, hn]; (repeat (refine ⟨by first | trivial | omega | (simp <;> omega) | (simp +contextual; done) | (clear hK; grind), ?_⟩))
      refine hK _ ?_; clear K hK
      rw [w64 (x := v1 - 150) (by omega) (by omega)]
      refine Tr.le (Le.keep [0, 8, 9, 10]) ?_; simp only [List.map_cons, List.map_nil, lk, Nat.reduceEqDiff, reduceIte]
      (first | refine d1 (.p true 0 (.p true 2 (.alt 1 (.alt 3 (.p false 4 (.p true 5 (.alt 6 .nil .nil))) .nil) (.alt 3 (.alt 1 (.p false 4 (.p true 5 (.alt 6 .nil .nil))) .nil) .nil)))) [9, 1000] (by rw [hP]; kernel_rfl) (by kernel_rfl) (by simp only [go_sem, hP, hn]; try simp) (fun _ _ h => h) fun K hK => ?_ | refine d2 (.p true 0 (.p true 2 (.alt 1 (.alt 3 (.p false 4 (.p true 5 (.alt 6 .nil .nil))) .nil) (.alt 3 (.alt 1 (.p false 4 (.p true 5 (.alt 6 .nil .nil))) .nil) .nil)))) [9, 1000] (by rw [hP]; kernel_rfl) (by kernel_rfl) (by simp only [go_sem, hP, hn]; try simp) (fun _ _ h => h) fun K hK => ?_ | refine d4 (.p true 0 (.p true 2 (.alt 1 (.alt 3 (.p false 4 (.p true 5 (.alt 6 .nil .nil))) .nil) (.alt 3 (.alt 1 (.p false 4 (.p true 5 (.alt 6 .nil .nil))) .nil) .nil)))) [9, 1000] (by rw [hP]; kernel_rfl) (by kernel_rfl) (by simp only [go_sem, hP, hn]; try simp) (fun _ _ h => h) fun K hK => ?_); simp only [go_sem, hP, hn]
      (repeat (refine ⟨by first | trivial | omega | (simp <;> omega) | (simp +contextual; done) | (clear hK; grind), ?_⟩))
      refine ⟨?_, ?_⟩
      · (repeat (refine ⟨by first | trivial | omega | (simp <;> omega) | (simp +contextual; done) | (clear hK; grind), ?_⟩))
        refine CallP_c1 (by rw [hP, hT]; exact Next_c Tm l j2 300 hl b2 b3 (by decide) (by decide) ) rfl rfl rfl trivial (by simp only [go_sem, hP, hn]; try trivial) (by simp only [go_sem, hP, hn]; try rfl) (by simp only [go_sem, hP, hn]; try rfl) (by rw [hn]; decide) rfl (fun r ob' hr => ?_); obtain  ⟨v2, j3, rfl, rfl, e3, e4, b4, b5⟩ := hr; simp only [go_sem, hP, hn]; (repeat (refine ⟨by first | trivial | omega | (simp <;> omega) | (simp +contextual; done) | (clear hK; grind), ?_⟩))
        rw [w64 (x := v1 - 150 + v2) (by omega) (by omega)]
        refine hK _ ?_; clear K hK
        (repeat (first | ((first | refine r1 ?_ | refine r2 ?_ | refine r3 ?_); intro K hK; simp only [go_sem, hP, hn]; (repeat (refine ⟨by first | trivial | omega | (simp <;> omega) | (simp +contextual; done) | (clear hK; grind), ?_⟩)); refine hK _ ?_; clear K hK) | refine Tr.seq ?_ | refine Tr.skip ?_ | refine Tr.label ?_ | refine Tr.block ?_ | refine Tr.scope ?_ | refine gs1 ?_ | refine gs2 ?_ | refine gs3 ?_ | refine Tr.exit ?_ | refine Tr.goto ?_ | refine Tr.ret ?_ | refine n1 ?_ | refine n2 ?_ | refine n3 ?_ | refine n4 ?_ | refine n5 ?_ | refine n6 ?_ | refine n7 ?_ | refine n8 ?_ | refine n9 (by decide) ?_))
        simp only [RetG, go_sem]; (repeat (with_reducible refine And.intro ?_ ?_; (· first | trivial | omega | (simp <;> omega) | (simp +contextual; done) | (clear hK; grind))))
        exact ⟨_, rfl, ⟨9, [a], 0, 0, 0, 0, 0, 0, [], [], 0, 0, v1 - 150, v1 - 150 + v2, 0⟩, j3, rfl, rfl, made_rest hin hw1 hw3 (by decide) (fun _ => rfl) (fun h => absurd h (by decide)) (fun _ => ⟨rfl, rfl⟩) (fun h => absurd h (by decide)) (fun h => absurd rfl h) (fun _ => ⟨by omega, by omega, by omega⟩) (fun _ => ⟨by decide, by decide⟩), b4, b5⟩
      · refine CallP_c1 (by rw [hP, hT]; exact Next_c Tm l j2 300 hl b2 b3 (by decide) (by decide) ) rfl rfl rfl trivial (by simp only [go_sem, hP, hn]; try trivial) (by simp only [go_sem, hP, hn]; try rfl) (by simp only [go_sem, hP, hn]; try rfl) (by rw [hn]; decide) rfl (fun r ob' hr => ?_); obtain  ⟨v2, j3, rfl, rfl, e3, e4, b4, b5⟩ := hr; simp only [go_sem, hP, hn]; (repeat (refine ⟨by first | trivial | omega | (simp <;> omega) | (simp +contextual; done) | (clear hK; grind), ?_⟩))
        rw [w64 (x := v1 - 150 + v2) (by omega) (by omega)]
        refine hK _ ?_; clear K hK
        (repeat (first | ((first | refine r1 ?_ | refine r2 ?_ | refine r3 ?_); intro K hK; simp only [go_sem, hP, hn]; (repeat (refine ⟨by first | trivial | omega | (simp <;> omega) | (simp +contextual; done) | (clear hK; grind), ?_⟩)); refine hK _ ?_; clear K hK) | refine Tr.seq ?_ | refine Tr.skip ?_ | refine Tr.label ?_ | refine Tr.block ?_ | refine Tr.scope ?_ | refine gs1 ?_ | refine gs2 ?_ | refine gs3 ?_ | refine Tr.exit ?_ | refine Tr.goto ?_ | refine Tr.ret ?_ | refine n1 ?_ | refine n2 ?_ | refine n3 ?_ | refine n4 ?_ | refine n5 ?_ | refine n6 ?_ | refine n7 ?_ | refine n8 ?_ | refine n9 (by decide) ?_))
        simp only [RetG, go_sem]; (repeat (with_reducible refine And.intro ?_ ?_; (· first | trivial | omega | (simp <;> omega) | (simp +contextual; done) | (clear hK; grind))))
        exact ⟨_, rfl, ⟨9, [a], 0, 0, 0, 0, 0, 0, [], [], 0, 0, v1 - 150, v1 - 150 + v2, 0⟩, j3, rfl, rfl, made_rest hin hw1 hw3 (by decide) (fun _ => rfl) (fun h => absurd h (by decide)) (fun _ => ⟨rfl, rfl⟩) (fun h => absurd h (by decide)) (fun h => absurd rfl h) (fun _ => ⟨by omega, by omega, by omega⟩) (fun _ => ⟨by decide, by decide⟩), b4, b5⟩
    (repeat (first | ((first | refine r1 ?_ | refine r2 ?_ | refine r3 ?_); intro K hK; simp only [go_sem, hP, hn]; (repeat (refine ⟨by first | trivial | omega | (simp <;> omega) | (simp +contextual; done) | (clear hK; grind), ?_⟩)); refine hK _ ?_; clear K hK) | refine Tr.seq ?_ | refine Tr.skip ?_ | refine Tr.label ?_ | refine Tr.block ?_ | refine Tr.scope ?_ | refine gs1 ?_ | refine gs2 ?_ | refine gs3 ?_ | refine Tr.exit ?_ | refine Tr.goto ?_ | refine Tr.ret ?_ | refine n1 ?_ | refine n2 ?_ | refine n3 ?_ | refine n4 ?_ | refine n5 ?_ | refine n6 ?_ | refine n7 ?_ | refine n8 ?_ | refine n9 (by decide) ?_))
    refine Tr.cond rfl (fun c10' => ?_) (fun c10' => ?_)
    · (repeat (first | ((first | refine r1 ?_ | refine r2 ?_ | refine r3 ?_); intro K hK; simp only [go_sem, hP, hn]; (repeat (refine ⟨by first | trivial | omega | (simp <;> omega) | (simp +contextual; done) | (clear hK; grind), ?_⟩)); refine hK _ ?_; clear K hK) | refine Tr.seq ?_ | refine Tr.skip ?_ | refine Tr.label ?_ | refine Tr.block ?_ | refine Tr.scope ?_ | refine gs1 ?_ | refine gs2 ?_ | refine gs3 ?_ | refine Tr.exit ?_ | refine Tr.goto ?_ | refine Tr.ret ?_ | refine n1 ?_ | refine n2 ?_ | refine n3 ?_ | refine n4 ?_ | refine n5 ?_ | refine n6 ?_ | refine n7 ?_ | refine n8 ?_ | refine n9 (by decide) ?_))
      obtain rfl : kk = 10 := by simpa using c10'
      (repeat (first | ((first | refine r1 ?_ | refine r2 ?_ | refine r3 ?_); intro K hK; simp only [go_sem, hP, hn]; (repeat (refine ⟨by first | trivial | omega | (simp <;> omega) | (simp +contextual; done) | (clear hK; grind), ?_⟩)); refine hK _ ?_; clear K hK) | refine Tr.seq ?_ | refine Tr.skip ?_ | refine Tr.label ?_ | refine Tr.block ?_ | refine Tr.scope ?_ | refine gs1 ?_ | refine gs2 ?_ | refine gs3 ?_ | refine Tr.exit ?_ | refine Tr.goto ?_ | refine Tr.ret ?_ | refine n1 ?_ | refine n2 ?_ | refine n3 ?_ | refine n4 ?_ | refine n5 ?_ | refine n6 ?_ | refine n7 ?_ | refine n8 ?_ | refine n9 (by decide) ?_))
      (first | refine r1 ?_ | refine r2 ?_ | refine r3 ?_); intro K hK; simp only [go_sem, hP, hn]
      (repeat (refine ⟨by first | trivial | omega | (simp <;> omega) | (simp +contextual; done) | (clear hK; grind), ?_⟩))
      refine CallN_c1 (by rw [hP, hT]; exact Next_c Tm l j 32768 hl hj0 hj1 (by decide) (by decide) ) rfl rfl rfl trivial (by simp only [go_sem, hP, hn]; try trivial) (by simp only [go_sem, hP, hn]; try rfl) (by simp only [go_sem, hP, hn]; try rfl) (by rw [hn]; decide) (fun r ob' hr => ?_); obtain  ⟨v1, j2, rfl, rfl, e1, e2, b2, b3⟩ := hr; simp only [go_sem, hP, hn]; (repeat (refine ⟨by first | trivial | omega | (simp <;> omega) | (simp +contextual; done) | (clear hK; grind), ?_⟩))
      refine hK _ ?_; clear K hK
      (repeat (first | ((first | refine r1 ?_ | refine r2 ?_ | refine r3 ?_); intro K hK; simp only [go_sem, hP, hn]; (repeat (refine ⟨by first | trivial | omega | (simp <;> omega) | (simp +contextual; done) | (clear hK; grind), ?_⟩)); refine hK _ ?_; clear K hK) | refine Tr.seq ?_ | refine Tr.skip ?_ | refine Tr.label ?_ | refine Tr.block ?_ | refine Tr.scope ?_ | refine gs1 ?_ | refine gs2 ?_ | refine gs3 ?_ | refine Tr.exit ?_ | refine Tr.goto ?_ | refine Tr.ret ?_ | refine n1 ?_ | refine n2 ?_ | refine n3 ?_ | refine n4 ?_ | refine n5 ?_ | refine n6 ?_ | refine n7 ?_ | refine n8 ?_ | refine n9 (by decide) ?_))
      (first | refine r1 ?_ | refine r2 ?_ | refine r3 ?_); intro K hK; simp only [go_sem, hP, hn]
      (repeat (refine ⟨by first | trivial | omega | (simp <;> omega) | (simp +contextual; done) | (clear hK; grind), ?_⟩))
      refine CallN_c1 (by rw [hP, hT]; exact Next_c Tm l j2 20 hl b2 b3 (by decide) (by decide) ) rfl rfl rfl trivial (by simp only [go_sem, hP, hn]; try trivial) (by simp only [go_sem, hP, hn]; try rfl) (by simp only [go_sem, hP, hn]; try rfl) (by rw [hn]; decide) (fun r ob' hr => ?_); obtain  ⟨v2, j3, rfl, rfl, e3, e4, b4, b5⟩ := hr; simp only [go_sem, hP, hn]; (repeat (refine ⟨by first | trivial | omega | (simp <;> omega) | (simp +contextual; done) | (clear hK; grind), ?_⟩))
      refine hK _ ?_; clear K hK
      (repeat (first | ((first | refine r1 ?_ | refine r2 ?_ | refine r3 ?_); intro K hK; simp only [go_sem, hP, hn]; (repeat (refine ⟨by first | trivial | omega | (simp <;> omega) | (simp +contextual; done) | (clear hK; grind), ?_⟩)); refine hK _ ?_; clear K hK) | refine Tr.seq ?_ | refine Tr.skip ?_ | refine Tr.label ?_ | refine Tr.block ?_ | refine Tr.scope ?_ | refine gs1 ?_ | refine gs2 ?_ | refine gs3 ?_ | refine Tr.exit ?_ | refine Tr.goto ?_ | refine Tr.ret ?_ | refine n1 ?_ | refine n2 ?_ | refine n3 ?_ | refine n4 ?_ | refine n5 ?_ | refine n6 ?_ | refine n7 ?_ | refine n8 ?_ | refine n9 (by decide) ?_))
      simp only [RetG, go_sem]; (repeat (with_reducible refine And.intro ?_ ?_; (· first | trivial | omega | (simp <;> omega) | (simp +contextual; done) | (clear hK; grind))))
      exact ⟨_, rfl, ⟨10, [a], 0, 0, 0, 0, 0, 0, [], [], v1, v2, 0, 0, 0⟩, j3, rfl, rfl, made_rest hin hw1 hw3 (by decide) (fun _ => rfl) (fun h => absurd h (by decide)) (fun h => absurd rfl h) (fun _ => ⟨⟨e1, by omega⟩, e3, by omega⟩) (fun _ => ⟨rfl, rfl⟩) (fun h => absurd h (by decide)) (fun _ => ⟨by decide, by decide⟩), b4, b5⟩
    · have hk5 : kk = 5 ∨ kk = 11 := by simp only [beq_eq_false_iff_ne] at c1' c2' c6' c3' c4' c12' c9' c10'; omega
      (repeat (first | ((first | refine r1 ?_ | refine r2 ?_ | refine r3 ?_); intro K hK; simp only [go_sem, hP, hn]; (repeat (refine ⟨by first | trivial | omega | (simp <;> omega) | (simp +contextual; done) | (clear hK; grind), ?_⟩)); refine hK _ ?_; clear K hK) | refine Tr.seq ?_ | refine Tr.skip ?_ | refine Tr.label ?_ | refine Tr.block ?_ | refine Tr.scope ?_ | refine gs1 ?_ | refine gs2 ?_ | refine gs3 ?_ | refine Tr.exit ?_ | refine Tr.goto ?_ | refine Tr.ret ?_ | refine n1 ?_ | refine n2 ?_ | refine n3 ?_ | refine n4 ?_ | refine n5 ?_ | refine n6 ?_ | refine n7 ?_ | refine n8 ?_ | refine n9 (by decide) ?_))
      simp only [RetG, go_sem]; (repeat (with_reducible refine And.intro ?_ ?_; (· first | trivial | omega | (simp <;> omega) | (simp +contextual; done) | (clear hK; grind))))
      exact ⟨_, rfl, ⟨kk, [a], 0, 0, 0, 0, 0, 0, [], [], 0, 0, 0, 0, 0⟩, j, rfl, rfl, made_rest hin hw1 hw3 (by omega) (fun _ => rfl) (fun h => by omega) (fun _ => ⟨rfl, rfl⟩) (fun h => by omega) (fun _ => ⟨rfl, rfl⟩) (fun h => by omega) (fun h => by have := hst h; omega), hj0, hj1⟩))
  clear hK
  have hq : k = 0 ∨ k = 1 ∨ k = 2 ∨ k = 3 ∨ k = 4 ∨ k = 5 ∨ k = 6 ∨ k = 7 ∨ k = 8 ∨ k = 9 ∨ k = 10 ∨ k = 11 := by omega
  rcases hq with rfl | rfl | rfl | rfl | rfl | rfl | rfl | rfl | rfl | rfl | rfl | rfl
  · simp only [go_sem, hP, hn]
    (repeat (refine ⟨by first | trivial | omega | (simp <;> omega) | (simp +contextual; done) | (clear hK; grind), ?_⟩))
    exact tail 1 _ (by decide) (fun e => by have := hks e; omega) (Le.mv (by simp only [go_sem, hP, hn]; first | done | (simp; done) | (simp [intC]; done) | (repeat (first | rfl | constructor))) (by simp only [go_sem, hP, hn]; first | done | (simp; done) | (simp [intC]; done) | (repeat (first | rfl | constructor))))
  · simp only [go_sem, hP, hn]
    (repeat (refine ⟨by first | trivial | omega | (simp <;> omega) | (simp +contextual; done) | (clear hK; grind), ?_⟩))
    exact tail 2 _ (by decide) (fun e => by have := hks e; omega) (Le.mv (by simp only [go_sem, hP, hn]; first | done | (simp; done) | (simp [intC]; done) | (repeat (first | rfl | constructor))) (by simp only [go_sem, hP, hn]; first | done | (simp; done) | (simp [intC]; done) | (repeat (first | rfl | constructor))))
  · simp only [go_sem, hP, hn]
    (repeat (refine ⟨by first | trivial | omega | (simp <;> omega) | (simp +contextual; done) | (clear hK; grind), ?_⟩))
    exact tail 3 _ (by decide) (fun e => by have := hks e; omega) (Le.mv (by simp only [go_sem, hP, hn]; first | done | (simp; done) | (simp [intC]; done) | (repeat (first | rfl | constructor))) (by simp only [go_sem, hP, hn]; first | done | (simp; done) | (simp [intC]; done) | (repeat (first | rfl | constructor))))
  · simp only [go_sem, hP, hn]
    (repeat (refine ⟨by first | trivial | omega | (simp <;> omega) | (simp +contextual; done) | (clear hK; grind), ?_⟩))
    exact tail 4 _ (by decide) (fun e => by have := hks e; omega) (Le.mv (by simp only [go_sem, hP, hn]; first | done | (simp; done) | (simp [intC]; done) | (repeat (first | rfl | constructor))) (by simp only [go_sem, hP, hn]; first | done | (simp; done) | (simp [intC]; done) | (repeat (first | rfl | constructor))))
  · simp only [go_sem, hP, hn]
    (repeat (refine ⟨by first | trivial | omega | (simp <;> omega) | (simp +contextual; done) | (clear hK; grind), ?_⟩))
    exact tail 12 _ (by decide) (fun e => by have := hks e; omega) (Le.mv (by simp only [go_sem, hP, hn]; first | done | (simp; done) | (simp [intC]; done) | (repeat (first | rfl | constructor))) (by simp only [go_sem, hP, hn]; first | done | (simp; done) | (simp [intC]; done) | (repeat (first | rfl | constructor))))
  · simp only [go_sem, hP, hn]
    (repeat (refine ⟨by first | trivial | omega | (simp <;> omega) | (simp +contextual; done) | (clear hK; grind), ?_⟩))
    exact tail 1 _ (by decide) (fun e => by have := hks e; omega) (Le.mv (by simp only [go_sem, hP, hn]; first | done | (simp; done) | (simp [intC]; done) | (repeat (first | rfl | constructor))) (by simp only [go_sem, hP, hn]; first | done | (simp; done) | (simp [intC]; done) | (repeat (first | rfl | constructor))))
  · simp only [go_sem, hP, hn]
    (repeat (refine ⟨by first | trivial | omega | (simp <;> omega) | (simp +contextual; done) | (clear hK; grind), ?_⟩))
    exact tail 5 _ (by decide) (fun e => by have := hks e; omega) (Le.mv (by simp only [go_sem, hP, hn]; first | done | (simp; done) | (simp [intC]; done) | (repeat (first | rfl | constructor))) (by simp only [go_sem, hP, hn]; first | done | (simp; done) | (simp [intC]; done) | (repeat (first | rfl | constructor))))
  · simp only [go_sem, hP, hn]
    (repeat (refine ⟨by first | trivial | omega | (simp <;> omega) | (simp +contextual; done) | (clear hK; grind), ?_⟩))
    exact tail 6 _ (by decide) (fun e => by have := hks e; omega) (Le.mv (by simp only [go_sem, hP, hn]; first | done | (simp; done) | (simp [intC]; done) | (repeat (first | rfl | constructor))) (by simp only [go_sem, hP, hn]; first | done | (simp; done) | (simp [intC]; done) | (repeat (first | rfl | constructor))))
  · simp only [go_sem, hP, hn]
    (repeat (refine ⟨by first | trivial | omega | (simp <;> omega) | (simp +contextual; done) | (clear hK; grind), ?_⟩))
    exact tail 9 _ (by decide) (fun e => by have := hks e; omega) (Le.mv (by simp only [go_sem, hP, hn]; first | done | (simp; done) | (simp [intC]; done) | (repeat (first | rfl | constructor))) (by simp only [go_sem, hP, hn]; first | done | (simp; done) | (simp [intC]; done) | (repeat (first | rfl | constructor))))
  · simp only [go_sem, hP, hn]
    (repeat (refine ⟨by first | trivial | omega | (simp <;> omega) | (simp +contextual; done) | (clear hK; grind), ?_⟩))
    exact tail 10 _ (by decide) (fun e => by have := hks e; omega) (Le.mv (by simp only [go_sem, hP, hn]; first | done | (simp; done) | (simp [intC]; done) | (repeat (first | rfl | constructor))) (by simp only [go_sem, hP, hn]; first | done | (simp; done) | (simp [intC]; done) | (repeat (first | rfl | constructor))))
  · simp only [go_sem, hP, hn]
    (repeat (refine ⟨by first | trivial | omega | (simp <;> omega) | (simp +contextual; done) | (clear hK; grind), ?_⟩))
    exact tail 11 _ (by decide) (fun e => by have := hks e; omega) (Le.mv (by simp only [go_sem, hP, hn]; first | done | (simp; done) | (simp [intC]; done) | (repeat (first | rfl | constructor))) (by simp only [go_sem, hP, hn]; first | done | (simp; done) | (simp [intC]; done) | (repeat (first | rfl | constructor))))
  · simp only [go_sem, hP, hn]
    (repeat (refine ⟨by first | trivial | omega | (simp <;> omega) | (simp +contextual; done) | (clear hK; grind), ?_⟩))
    exact tail 6 _ (by decide) (fun e => by have := hks e; omega) (Le.mv (by simp only [go_sem, hP, hn]; first | done | (simp; done) | (simp [intC]; done) | (repeat (first | rfl | constructor))) (by simp only [go_sem, hP, hn]; first | done | (simp; done) | (simp [intC]; done) | (repeat (first | rfl | constructor))))
end
section
attribute [local go_sem] frD
theorem weighs17_c {T : World → Prop} (Tm : TP T) (n : Nd) : Ct Go.Proofs.Tryd.prog T 17 [.agg n.cs] true (fun r => r = .d (.b (rWeighs n.k))) := by
  refine Ct_of Tm Go.Proofs.Tryd.func17 rfl rfl Go.Proofs.Tryd.ntmps17 (by simp) (rs := [.tmp 2]) rfl fun E hP hn hT => ?_
  (repeat (first | ((first | refine r1 ?_ | refine r2 ?_ | refine r3 ?_); intro K hK; simp only [go_sem, hP, hn]; (repeat (refine ⟨by first | trivial | omega | (simp <;> omega) | (simp +contextual; done) | (clear hK; grind), ?_⟩)); refine hK _ ?_; clear K hK) | refine Tr.seq ?_ | refine Tr.skip ?_ | refine Tr.label ?_ | refine Tr.block ?_ | refine Tr.scope ?_ | refine gs1 ?_ | refine gs2 ?_ | refine gs3 ?_ | refine Tr.exit ?_ | refine Tr.goto ?_ | refine Tr.ret ?_ | refine n1 ?_ | refine n2 ?_ | refine n3 ?_ | refine n4 ?_ | refine n5 ?_ | refine n6 ?_ | refine n7 ?_ | refine n8 ?_ | refine n9 (by decide) ?_))
  simp only [RetQ, go_sem]
  rfl
theorem shr_r (x : Int) (k : Nat) : x.fdiv (2 ^ min k 64) = x / 2 ^ min k 64 := Int.fdiv_eq_ediv_of_nonneg _ (Int.pow_nonneg (by decide))
theorem and3 (x : Int) : Go.bits .and .i64 x 3 = x % 4 := and_mask x 2 (by decide)
theorem and15 (x : Int) : Go.bits .and .i64 x 15 = x % 16 := and_mask x 4 (by decide)
theorem and1023 (x : Int) : Go.bits .and .i64 x 1023 = x % 1024 := and_mask x 10 (by decide)
theorem and4095 (x : Int) : Go.bits .and .i64 x 4095 = x % 4096 := and_mask x 12 (by decide)
theorem and16383 (x : Int) : Go.bits .and .i64 x 16383 = x % 16384 := and_mask x 14 (by decide)
theorem rem5 (x : Int) : 1 ≤ 1 + Int.tmod (wrap64 (Int.tmod x 5 + 5)) 5 ∧ 1 + Int.tmod (wrap64 (Int.tmod x 5 + 5)) 5 ≤ 5 := by
  have h1 := Int.tmod_lt_of_pos x (show (0 : Int) < 5 by decide)
  have h2 := Int.lt_tmod_of_pos x (show (0 : Int) < 5 by decide)
  rw [w64 (x := Int.tmod x 5 + 5) (by omega) (by omega)]
  have h3 := Int.tmod_lt_of_pos (Int.tmod x 5 + 5) (show (0 : Int) < 5 by decide)
  have h4 := Int.tmod_nonneg 5 (show 0 ≤ Int.tmod x 5 + 5 by omega)
  omega
/-- a node's Post, as it is made -/
structure PK (n : Nd) (mu sh lo hi p : Int) : Prop where
  p0 : 0 ≤ p ∧ p ≤ 3
  pw : rWeighs n.k = false → p = 0
  m1 : (Go.bits .and .i64 p 1 == 1) = true → (1 ≤ mu ∧ mu ≤ 16384) ∧ 0 ≤ sh ∧ sh ≤ 15
  m0 : (Go.bits .and .i64 p 1 == 1) = false → mu = n.mult ∧ sh = n.shift
  l1 : (Go.bits .and .i64 p 2 == 2) = true → (-4096 ≤ lo ∧ lo ≤ -1) ∧ 0 ≤ hi ∧ hi ≤ 4095
  l0 : (Go.bits .and .i64 p 2 == 2) = false → lo = n.low ∧ hi = n.high
theorem post0 {n : Nd} {l : List Int} (h : n.rchk l = 0) (hp : n.post = 0) (hw : rWeighs n.k = true) : n.mult = 0 ∧ n.shift = 0 ∧ n.low = 0 ∧ n.high = 0 := by
  obtain ⟨_, _, _, he, _, _⟩ := rchk_unpack h
  have e12 : n.e12 = true := by
    unfold Nd.else0 at he
    repeat' (split at he <;> try (cases he; done))
    exact he
  unfold Nd.e12 Nd.bsc Nd.bcl at e12
  have hk : n.k ≠ 9 ∧ n.k ≠ 10 := by
    unfold rWeighs at hw
    simp only [Bool.or_eq_true, beq_iff_eq] at hw
    omega
  rw [hp, show (Go.bits .and .i64 0 1 == 1) = false by decide, show (Go.bits .and .i64 0 2 == 2) = false by decide] at e12
  simp [hk] at e12
  omega
theorem PK.chk {n : Nd} {l : List Int} {mu sh lo hi p : Int} (h : n.rchk l = 0) (hp : n.post = 0) (k : PK n mu sh lo hi p) : (n.wp mu sh lo hi p).rchk l = 0 := by
  cases hw : rWeighs n.k with
  | false =>
    have e := k.pw hw
    subst e
    have e1 := k.m0 (by decide)
    have e2 := k.l0 (by decide)
    have : n.wp mu sh lo hi 0 = n := by
      rw [e1.1, e1.2, e2.1, e2.2, ← hp]
      rfl
    rw [this]; exact h
  | true =>
    have z := post0 h hp hw
    refine rchk_post h hw k.p0 ?_ ?_
    · show ((n.k == 10 || Go.bits .and .i64 p 1 == 1 || mu == 0 && sh == 0) && (n.k == 9 || Go.bits .and .i64 p 2 == 2 || lo == 0 && hi == 0)) = true
      have a : (Go.bits .and .i64 p 1 == 1 || mu == 0 && sh == 0) = true := by
        cases e : (Go.bits .and .i64 p 1 == 1) with
        | true => rfl
        | false => have := k.m0 e; simp [this, z]
      have b : (Go.bits .and .i64 p 2 == 2 || lo == 0 && hi == 0) = true := by
        cases e : (Go.bits .and .i64 p 2 == 2) with
        | true => rfl
        | false => have := k.l0 e; simp [this, z]
      rw [Bool.or_assoc, Bool.or_assoc, a, b]; simp
    · show (inB mu 0 32767 && inB sh 0 30 && inB lo (-2147483648) 2147483647 && inB hi (-2147483648) 2147483647 && decide (lo ≤ hi)) = true
      have a : (0 ≤ mu ∧ mu ≤ 32767) ∧ 0 ≤ sh ∧ sh ≤ 30 := by
        cases e : (Go.bits .and .i64 p 1 == 1) with
        | true => have := k.m1 e; omega
        | false => have := k.m0 e; omega
      have b : -4096 ≤ lo ∧ lo ≤ hi ∧ hi ≤ 4095 := by
        cases e : (Go.bits .and .i64 p 2 == 2) with
        | true => have := k.l1 e; omega
        | false => have := k.l0 e; omega
      rw [inB_iff.2 a.1, inB_iff.2 a.2, inB_iff.2 (by omega), inB_iff.2 (by omega), decide_eq_true b.2.1]; rfl
/-- made: a right node, and its frames -/
structure KM (n : Nd) (fs : List (List Int)) (w : Nat) (small : Bool) : Prop extends KOk n fs w where
  w5 : w ≤ 5
  ten : small = true → ∀ f ∈ fs, ∀ x ∈ f, -512 ≤ x ∧ x ≤ 511
end
section
def spC (nums vals : List Int) (wd po : Int) (two small : Bool) : List S := [.d (.row [.i .i64 0] (nums.map intC)), .d (.row [.i .i64 0] (vals.map intC)), .d (.i .i64 wd), .d (.i .i64 po), .d (.b two), .d (.b small)]
attribute [local go_sem] frD spC Z8 Z8 Z8 Z8 Z8 Z8 Nd.wp Nd.wq
def PKM (small : Bool) (r : S) : Prop := ∃ n fs w, r = .tup [.agg (Nd.cs n), .d (frD fs)] ∧ KM n fs w small
theorem i32w (x : Int) : in32 (IntKind.i32.wrap x) := by
  have : IntKind.i32.wrap x = (x + 2147483648) % 4294967296 - 2147483648 := by
    unfold IntKind.wrap
    simp [IntKind.bits, IntKind.signed]
    omega
  rw [this]; unfold in32; omega
theorem made_many {n : Nd} {w : Nat} {many : Int} (c7 : n.r7 (List.replicate n.inn.length (w : Int)) = false) (hsz : n.sized (rd (List.replicate n.inn.length (w : Int)) 0) = true) (hck : True) (hil : n.inn.length ≤ 2) (h1 : rWin n.k = true → many = n.size) (h2 : rWin n.k = false → many = n.inn.length) : 1 ≤ many ∧ many ≤ 8 := by
  have hl : 1 ≤ n.inn.length := by
    unfold Nd.r7 at c7
    simp only [Bool.or_eq_false_iff, Bool.and_eq_false_iff, decide_eq_false_iff_not, List.length_replicate] at c7
    cases e : rMany n.k with
    | true => rw [e] at c7; simp at c7; omega
    | false => rw [e] at c7; simp at c7; omega
  cases hw : rWin n.k with
  | false => have := h2 hw; omega
  | true =>
    have e := h1 hw
    have h4 : n.s4 = false := by
      unfold Nd.sized at hsz
      cases e : n.s4 with
      | false => rfl
      | true => rw [e] at hsz; simp at hsz
    unfold Nd.s4 at h4
    have : (rFour n.k || n.k == 12) = true := hw
    rw [this] at h4
    have := inB_iff.1 (show inB n.size 1 8 = true by simpa using h4)
    omega
theorem made17_c {T : World → Prop} (Tm : TP T) (nums vals : List Int) (wd po : Int) (two small : Bool) : Cg Go.Proofs.Tryd.prog T 13 [] [.agg (spC nums vals wd po two small)] (fun r H => H = [] ∧ PKM small r) := by
  obtain ⟨w0, w1⟩ := rem5 wd
  have hw : wrap64 (1 + Int.tmod (wrap64 (Int.tmod wd 5 + 5)) 5) = 1 + Int.tmod (wrap64 (Int.tmod wd 5 + 5)) 5 := w64 (by omega) (by omega)
  refine Cg_of [] Tm Go.Proofs.Tryd.func13 rfl rfl Go.Proofs.Tryd.ntmps13 (by simp) rfl (rs := [.cell 2 27, .tmp 3]) rfl fun E hP hn hT hpn => ?_
  (repeat (first | refine Tr.seq ?_ | refine Tr.skip ?_ | refine Tr.label ?_ | refine Tr.block ?_ | refine Tr.scope ?_ | refine gs1 ?_ | refine gs2 ?_ | refine gs3 ?_ | refine Tr.exit ?_ | refine Tr.goto ?_ | refine Tr.ret ?_ | refine n1 ?_ | refine n2 ?_ | refine n3 ?_ | refine n4 ?_ | refine n5 ?_ | refine n6 ?_ | refine n7 ?_ | refine n8 ?_ | refine n9 (by decide) ?_))
  (first | refine r1 ?_ | refine r2 ?_ | refine r3 ?_); intro K hK; simp only [go_sem, hP, hn]; (repeat (refine ⟨by first | trivial | omega | (simp <;> omega) | (simp +contextual; done) | (clear hK; grind), ?_⟩)); refine hK _ ?_; clear K hK
  (repeat (first | refine Tr.seq ?_ | refine Tr.skip ?_ | refine Tr.label ?_ | refine Tr.block ?_ | refine Tr.scope ?_ | refine gs1 ?_ | refine gs2 ?_ | refine gs3 ?_ | refine Tr.exit ?_ | refine Tr.goto ?_ | refine Tr.ret ?_ | refine n1 ?_ | refine n2 ?_ | refine n3 ?_ | refine n4 ?_ | refine n5 ?_ | refine n6 ?_ | refine n7 ?_ | refine n8 ?_ | refine n9 (by decide) ?_))
  (first | refine r1 ?_ | refine r2 ?_ | refine r3 ?_); intro K hK; simp only [hw, go_sem, hP, hn]; (repeat (refine ⟨by first | trivial | omega | (simp <;> omega) | (simp +contextual; done) | (clear hK; grind), ?_⟩)); refine hK _ ?_; clear K hK
  generalize 1 + Int.tmod (wrap64 (Int.tmod wd 5 + 5)) 5 = wi at *
  obtain ⟨w, rfl⟩ : ∃ w : Nat, wi = w := ⟨wi.toNat, by omega⟩
  clear hw
  (repeat (first | refine Tr.seq ?_ | refine Tr.skip ?_ | refine Tr.label ?_ | refine Tr.block ?_ | refine Tr.scope ?_ | refine gs1 ?_ | refine gs2 ?_ | refine gs3 ?_ | refine Tr.exit ?_ | refine Tr.goto ?_ | refine Tr.ret ?_ | refine n1 ?_ | refine n2 ?_ | refine n3 ?_ | refine n4 ?_ | refine n5 ?_ | refine n6 ?_ | refine n7 ?_ | refine n8 ?_ | refine n9 (by decide) ?_))
  (first | refine r1 ?_ | refine r2 ?_ | refine r3 ?_); intro K hK; simp only [go_sem, hP, hn]; (repeat (refine ⟨by first | trivial | omega | (simp <;> omega) | (simp +contextual; done) | (clear hK; grind), ?_⟩)); refine hK _ ?_; clear K hK
  refine Tr.seq ?_
  refine Tr.meet (fun s => ∃ l : List Int, s = ⟨[(1, .ptr 1 0), (2, .ptr 2 0), (3, .d .nil), (4, .d (.i .i64 w)), (5, .d (.row [.i .i64 0] (l.map intC)))], [(1, .box 24 (spC nums vals wd po two small)), (2, .box 27 Z8)]⟩ ∧ l.length ≤ 100) ?_ ?_
  rotate_left
  · (repeat (first | refine Tr.seq ?_ | refine Tr.skip ?_ | refine Tr.label ?_ | refine Tr.block ?_ | refine Tr.scope ?_ | refine gs1 ?_ | refine gs2 ?_ | refine gs3 ?_ | refine Tr.exit ?_ | refine Tr.goto ?_ | refine Tr.ret ?_ | refine n1 ?_ | refine n2 ?_ | refine n3 ?_ | refine n4 ?_ | refine n5 ?_ | refine n6 ?_ | refine n7 ?_ | refine n8 ?_ | refine n9 (by decide) ?_))
    (first | refine r1 ?_ | refine r2 ?_ | refine r3 ?_); intro K hK; simp only [go_sem, hP, hn]; (repeat (refine ⟨by first | trivial | omega | (simp <;> omega) | (simp +contextual; done) | (clear hK; grind), ?_⟩)); refine hK _ ?_; clear K hK
    (repeat (first | refine Tr.seq ?_ | refine Tr.skip ?_ | refine Tr.label ?_ | refine Tr.block ?_ | refine Tr.scope ?_ | refine gs1 ?_ | refine gs2 ?_ | refine gs3 ?_ | refine Tr.exit ?_ | refine Tr.goto ?_ | refine Tr.ret ?_ | refine n1 ?_ | refine n2 ?_ | refine n3 ?_ | refine n4 ?_ | refine n5 ?_ | refine n6 ?_ | refine n7 ?_ | refine n8 ?_ | refine n9 (by decide) ?_))
    refine Tr.cond rfl (fun h1 => ?_) (fun h1 => ?_)
    · have h2 : 100 < nums.length := by
        have : (100 : Int) < nums.length := by simpa using h1
        omega
      (repeat (first | ((first | refine r1 ?_ | refine r2 ?_ | refine r3 ?_); intro K hK; simp only [go_sem, hP, hn]; (repeat (refine ⟨by first | trivial | omega | (simp <;> omega) | (simp +contextual; done) | (clear hK; grind), ?_⟩)); refine hK _ ?_; clear K hK) | refine Tr.seq ?_ | refine Tr.skip ?_ | refine Tr.label ?_ | refine Tr.block ?_ | refine Tr.scope ?_ | refine gs1 ?_ | refine gs2 ?_ | refine gs3 ?_ | refine Tr.exit ?_ | refine Tr.goto ?_ | refine Tr.ret ?_ | refine n1 ?_ | refine n2 ?_ | refine n3 ?_ | refine n4 ?_ | refine n5 ?_ | refine n6 ?_ | refine n7 ?_ | refine n8 ?_ | refine n9 (by decide) ?_))
      exact ⟨_, (Le.mv (by simp only [go_sem, hP, hn]; first | done | (simp; done) | (simp [intC]; done) | (repeat (first | rfl | constructor))) (by simp only [go_sem, hP, hn]; first | done | (simp; done) | (simp [intC]; done) | (repeat (first | rfl | constructor)))), nums.take 100, rfl, by simp; omega⟩
    · have h2 : nums.length ≤ 100 := by
        have : (nums.length : Int) ≤ 100 := by simpa using h1
        omega
      (repeat (first | ((first | refine r1 ?_ | refine r2 ?_ | refine r3 ?_); intro K hK; simp only [go_sem, hP, hn]; (repeat (refine ⟨by first | trivial | omega | (simp <;> omega) | (simp +contextual; done) | (clear hK; grind), ?_⟩)); refine hK _ ?_; clear K hK) | refine Tr.seq ?_ | refine Tr.skip ?_ | refine Tr.label ?_ | refine Tr.block ?_ | refine Tr.scope ?_ | refine gs1 ?_ | refine gs2 ?_ | refine gs3 ?_ | refine Tr.exit ?_ | refine Tr.goto ?_ | refine Tr.ret ?_ | refine n1 ?_ | refine n2 ?_ | refine n3 ?_ | refine n4 ?_ | refine n5 ?_ | refine n6 ?_ | refine n7 ?_ | refine n8 ?_ | refine n9 (by decide) ?_))
      exact ⟨_, (Le.mv (by simp only [go_sem, hP, hn]; first | done | (simp; done) | (simp [intC]; done) | (repeat (first | rfl | constructor))) (by simp only [go_sem, hP, hn]; first | done | (simp; done) | (simp [intC]; done) | (repeat (first | rfl | constructor)))), nums, rfl, h2⟩
  rintro s ⟨l, rfl, hl⟩
  (repeat (first | refine Tr.seq ?_ | refine Tr.skip ?_ | refine Tr.label ?_ | refine Tr.block ?_ | refine Tr.scope ?_ | refine gs1 ?_ | refine gs2 ?_ | refine gs3 ?_ | refine Tr.exit ?_ | refine Tr.goto ?_ | refine Tr.ret ?_ | refine n1 ?_ | refine n2 ?_ | refine n3 ?_ | refine n4 ?_ | refine n5 ?_ | refine n6 ?_ | refine n7 ?_ | refine n8 ?_ | refine n9 (by decide) ?_))
  (first | refine r1 ?_ | refine r2 ?_ | refine r3 ?_); intro K hK; simp only [go_sem, hP, hn]; (repeat (refine ⟨by first | trivial | omega | (simp <;> omega) | (simp +contextual; done) | (clear hK; grind), ?_⟩)); refine hK _ ?_; clear K hK
  (repeat (first | refine Tr.seq ?_ | refine Tr.skip ?_ | refine Tr.label ?_ | refine Tr.block ?_ | refine Tr.scope ?_ | refine gs1 ?_ | refine gs2 ?_ | refine gs3 ?_ | refine Tr.exit ?_ | refine Tr.goto ?_ | refine Tr.ret ?_ | refine n1 ?_ | refine n2 ?_ | refine n3 ?_ | refine n4 ?_ | refine n5 ?_ | refine n6 ?_ | refine n7 ?_ | refine n8 ?_ | refine n9 (by decide) ?_))
  (first | refine r1 ?_ | refine r2 ?_ | refine r3 ?_); intro K hK; simp only [go_sem, hP, hn]; (repeat (refine ⟨by first | trivial | omega | (simp <;> omega) | (simp +contextual; done) | (clear hK; grind), ?_⟩)); refine hK _ ?_; clear K hK
  (repeat (first | refine Tr.seq ?_ | refine Tr.skip ?_ | refine Tr.label ?_ | refine Tr.block ?_ | refine Tr.scope ?_ | refine gs1 ?_ | refine gs2 ?_ | refine gs3 ?_ | refine Tr.exit ?_ | refine Tr.goto ?_ | refine Tr.ret ?_ | refine n1 ?_ | refine n2 ?_ | refine n3 ?_ | refine n4 ?_ | refine n5 ?_ | refine n6 ?_ | refine n7 ?_ | refine n8 ?_ | refine n9 (by decide) ?_))
  (first | refine r1 ?_ | refine r2 ?_ | refine r3 ?_); intro K hK; simp only [go_sem, hP, hn]; (repeat (refine ⟨by first | trivial | omega | (simp <;> omega) | (simp +contextual; done) | (clear hK; grind), ?_⟩)); refine hK _ ?_; clear K hK
  refine Tr.le (Le.keep [1, 2, 3, 4, 6, 7, 8]) ?_; simp only [List.map_cons, List.map_nil, lk, Nat.reduceEqDiff, reduceIte]
  refine Tr.le (Le.ren 33 1000 (by rw [hpn] <;> rfl) rfl rfl) ?_; simp only [renT, renH, renO, renS, renL, rn, go_sem, hP, hn]
  refine Tr.seq ?_
  refine Tr.meet (fun s => ∃ inn ws : List Int, s = ⟨[(1, .ptr 1 0), (2, .ptr 2 0), (3, .d .nil), (4, .d (.i .i64 w)), (6, .ptr 1000 0), (7, .d (.row [.i .i64 0] (ws.map intC))), (8, .d (.row [.i .i64 0] (inn.map intC)))], [(1, .box 24 (spC nums vals wd po two small)), (2, .box 27 Z8), (1000, rowO l 0)]⟩ ∧ ((inn = [0] ∧ ws = [(w : Int)]) ∨ (inn = [0, 1] ∧ ws = [(w : Int), (w : Int)]))) ?_ ?_
  rotate_left
  · (repeat (first | refine Tr.seq ?_ | refine Tr.skip ?_ | refine Tr.label ?_ | refine Tr.block ?_ | refine Tr.scope ?_ | refine gs1 ?_ | refine gs2 ?_ | refine gs3 ?_ | refine Tr.exit ?_ | refine Tr.goto ?_ | refine Tr.ret ?_ | refine n1 ?_ | refine n2 ?_ | refine n3 ?_ | refine n4 ?_ | refine n5 ?_ | refine n6 ?_ | refine n7 ?_ | refine n8 ?_ | refine n9 (by decide) ?_))
    (first | refine r1 ?_ | refine r2 ?_ | refine r3 ?_); intro K hK; simp only [go_sem, hP, hn]; (repeat (refine ⟨by first | trivial | omega | (simp <;> omega) | (simp +contextual; done) | (clear hK; grind), ?_⟩)); refine hK _ ?_; clear K hK
    (repeat (first | refine Tr.seq ?_ | refine Tr.skip ?_ | refine Tr.label ?_ | refine Tr.block ?_ | refine Tr.scope ?_ | refine gs1 ?_ | refine gs2 ?_ | refine gs3 ?_ | refine Tr.exit ?_ | refine Tr.goto ?_ | refine Tr.ret ?_ | refine n1 ?_ | refine n2 ?_ | refine n3 ?_ | refine n4 ?_ | refine n5 ?_ | refine n6 ?_ | refine n7 ?_ | refine n8 ?_ | refine n9 (by decide) ?_))
    refine Tr.cond rfl (fun h1 => ?_) (fun h1 => ?_)
    · (repeat (first | ((first | refine r1 ?_ | refine r2 ?_ | refine r3 ?_); intro K hK; simp only [go_sem, hP, hn]; (repeat (refine ⟨by first | trivial | omega | (simp <;> omega) | (simp +contextual; done) | (clear hK; grind), ?_⟩)); refine hK _ ?_; clear K hK) | refine Tr.seq ?_ | refine Tr.skip ?_ | refine Tr.label ?_ | refine Tr.block ?_ | refine Tr.scope ?_ | refine gs1 ?_ | refine gs2 ?_ | refine gs3 ?_ | refine Tr.exit ?_ | refine Tr.goto ?_ | refine Tr.ret ?_ | refine n1 ?_ | refine n2 ?_ | refine n3 ?_ | refine n4 ?_ | refine n5 ?_ | refine n6 ?_ | refine n7 ?_ | refine n8 ?_ | refine n9 (by decide) ?_))
      refine ⟨_, ?_, [0, 1], [(w : Int), (w : Int)], rfl, .inr ⟨rfl, rfl⟩⟩
      exact (Le.freeze 41).trans ((Le.freeze 42).trans (Le.mv (by simp only [go_sem, hP, hn]; first | done | (simp; done) | (simp [intC]; done) | (repeat (first | rfl | constructor))) (by simp only [go_sem, hP, hn]; first | done | (simp; done) | (simp [intC]; done) | (repeat (first | rfl | constructor)))))
    · (repeat (first | ((first | refine r1 ?_ | refine r2 ?_ | refine r3 ?_); intro K hK; simp only [go_sem, hP, hn]; (repeat (refine ⟨by first | trivial | omega | (simp <;> omega) | (simp +contextual; done) | (clear hK; grind), ?_⟩)); refine hK _ ?_; clear K hK) | refine Tr.seq ?_ | refine Tr.skip ?_ | refine Tr.label ?_ | refine Tr.block ?_ | refine Tr.scope ?_ | refine gs1 ?_ | refine gs2 ?_ | refine gs3 ?_ | refine Tr.exit ?_ | refine Tr.goto ?_ | refine Tr.ret ?_ | refine n1 ?_ | refine n2 ?_ | refine n3 ?_ | refine n4 ?_ | refine n5 ?_ | refine n6 ?_ | refine n7 ?_ | refine n8 ?_ | refine n9 (by decide) ?_))
      refine ⟨_, ?_, [0], [(w : Int)], rfl, .inl ⟨rfl, rfl⟩⟩
      exact (Le.freeze 35).trans ((Le.freeze 36).trans (Le.mv (by simp only [go_sem, hP, hn]; first | done | (simp; done) | (simp [intC]; done) | (repeat (first | rfl | constructor))) (by simp only [go_sem, hP, hn]; first | done | (simp; done) | (simp [intC]; done) | (repeat (first | rfl | constructor)))))
  rintro s ⟨inn, ws, rfl, hio⟩
  have hio2 : (∃ a w, inn = [a] ∧ ws = [w]) ∨ ∃ a b v w, inn = [a, b] ∧ ws = [v, w] := by
    rcases hio with ⟨rfl, rfl⟩ | ⟨rfl, rfl⟩
    · exact .inl ⟨_, _, rfl, rfl⟩
    · exact .inr ⟨_, _, _, _, rfl, rfl⟩
  have hws : ∀ x ∈ ws, 1 ≤ x ∧ x ≤ 16 := by
    rcases hio with ⟨_, rfl⟩ | ⟨_, rfl⟩ <;> simp <;> omega
  (repeat (first | refine Tr.seq ?_ | refine Tr.skip ?_ | refine Tr.label ?_ | refine Tr.block ?_ | refine Tr.scope ?_ | refine gs1 ?_ | refine gs2 ?_ | refine gs3 ?_ | refine Tr.exit ?_ | refine Tr.goto ?_ | refine Tr.ret ?_ | refine n1 ?_ | refine n2 ?_ | refine n3 ?_ | refine n4 ?_ | refine n5 ?_ | refine n6 ?_ | refine n7 ?_ | refine n8 ?_ | refine n9 (by decide) ?_))
  (first | refine r1 ?_ | refine r2 ?_ | refine r3 ?_); intro K hK; simp only [go_sem, hP, hn]
  (repeat (refine ⟨by first | trivial | omega | (simp <;> omega) | (simp +contextual; done) | (clear hK; grind), ?_⟩))
  refine CallN_c1 (by rw [hP, hT]; exact Made_c Tm l 0 inn ws false (by omega) (by decide) (by omega) hio2 hws ) rfl rfl rfl trivial (by simp only [go_sem, hP, hn]; try trivial) (by simp only [go_sem, hP, hn]; try rfl) (by simp only [go_sem, hP, hn]; try rfl) (by rw [hn]; decide) (fun r ob' hr => ?_); obtain  ⟨n, j, rfl, rfl, hN, _, _⟩ := hr; simp only [go_sem, hP, hn]; (repeat (refine ⟨by first | trivial | omega | (simp <;> omega) | (simp +contextual; done) | (clear hK; grind), ?_⟩))
  refine hK _ ?_; clear K hK
  refine Tr.le (Le.keep [1, 2, 3, 4, 9]) ?_; simp only [List.map_cons, List.map_nil, lk, Nat.reduceEqDiff, reduceIte]
  have hin : n.inn.length ≤ 2 ∧ ws.take n.inn.length = List.replicate n.inn.length (w : Int) := by
    rcases hN.inn with e | e <;> rcases hio with ⟨rfl, rfl⟩ | ⟨rfl, rfl⟩ <;> rw [e] <;> simp
  have hck := hN.chk
  rw [hin.2] at hck
  have hwl := hN.wl
  have hbl := hN.bl
  have hn0 := hN.post
  clear hN hio hio2 hws
  (repeat (first | refine Tr.seq ?_ | refine Tr.skip ?_ | refine Tr.label ?_ | refine Tr.block ?_ | refine Tr.scope ?_ | refine gs1 ?_ | refine gs2 ?_ | refine gs3 ?_ | refine Tr.exit ?_ | refine Tr.goto ?_ | refine Tr.ret ?_ | refine n1 ?_ | refine n2 ?_ | refine n3 ?_ | refine n4 ?_ | refine n5 ?_ | refine n6 ?_ | refine n7 ?_ | refine n8 ?_ | refine n9 (by decide) ?_))
  (first | refine r1 ?_ | refine r2 ?_ | refine r3 ?_); intro K hK; simp only [go_sem, hP, hn]; (repeat (refine ⟨by first | trivial | omega | (simp <;> omega) | (simp +contextual; done) | (clear hK; grind), ?_⟩)); refine c1 (by rw [hP, hT]; exact weighs17_c Tm n) rfl rfl rfl trivial (by simp only [go_sem, hP, hn]; try trivial) (by simp only [go_sem, hP, hn]; try rfl) (by rw [hn]; decide) (by rfl) ?_; simp only [go_sem, hP, hn]; (repeat (refine ⟨by first | trivial | omega | (simp <;> omega) | (simp +contextual; done) | (clear hK; grind), ?_⟩)); refine hK _ ?_; clear K hK
  refine Tr.seq ?_
  refine Tr.meet (fun s => ∃ p : Int, s = ⟨[(1, .ptr 1 0), (2, .ptr 2 0), (3, .d .nil), (4, .d (.i .i64 w)), (9, .ptr 9 0)], [(1, .box 24 (spC nums vals wd po two small)), (2, .box 27 Z8), (9, .box 27 (n.wp n.mult n.shift n.low n.high p).cs)]⟩ ∧ (0 ≤ p ∧ p ≤ 3) ∧ (rWeighs n.k = false → p = 0)) ?_ ?_
  rotate_left
  · (repeat (first | refine Tr.seq ?_ | refine Tr.skip ?_ | refine Tr.label ?_ | refine Tr.block ?_ | refine Tr.scope ?_ | refine gs1 ?_ | refine gs2 ?_ | refine gs3 ?_ | refine Tr.exit ?_ | refine Tr.goto ?_ | refine Tr.ret ?_ | refine n1 ?_ | refine n2 ?_ | refine n3 ?_ | refine n4 ?_ | refine n5 ?_ | refine n6 ?_ | refine n7 ?_ | refine n8 ?_ | refine n9 (by decide) ?_))
    (first | refine r1 ?_ | refine r2 ?_ | refine r3 ?_); intro K hK; simp only [go_sem, hP, hn]; (repeat (refine ⟨by first | trivial | omega | (simp <;> omega) | (simp +contextual; done) | (clear hK; grind), ?_⟩)); refine hK _ ?_; clear K hK
    (repeat (first | refine Tr.seq ?_ | refine Tr.skip ?_ | refine Tr.label ?_ | refine Tr.block ?_ | refine Tr.scope ?_ | refine gs1 ?_ | refine gs2 ?_ | refine gs3 ?_ | refine Tr.exit ?_ | refine Tr.goto ?_ | refine Tr.ret ?_ | refine n1 ?_ | refine n2 ?_ | refine n3 ?_ | refine n4 ?_ | refine n5 ?_ | refine n6 ?_ | refine n7 ?_ | refine n8 ?_ | refine n9 (by decide) ?_))
    refine Tr.cond rfl (fun hw => ?_) (fun hw => ?_)
    · (repeat (first | refine Tr.seq ?_ | refine Tr.skip ?_ | refine Tr.label ?_ | refine Tr.block ?_ | refine Tr.scope ?_ | refine gs1 ?_ | refine gs2 ?_ | refine gs3 ?_ | refine Tr.exit ?_ | refine Tr.goto ?_ | refine Tr.ret ?_ | refine n1 ?_ | refine n2 ?_ | refine n3 ?_ | refine n4 ?_ | refine n5 ?_ | refine n6 ?_ | refine n7 ?_ | refine n8 ?_ | refine n9 (by decide) ?_))
      (first | refine r1 ?_ | refine r2 ?_ | refine r3 ?_); intro K hK; simp only [go_sem, hP, hn]
      rw [and3]
      (repeat (refine ⟨by first | trivial | omega | (simp <;> omega) | (simp +contextual; done) | (clear hK; grind), ?_⟩))
      refine hK _ ?_; clear K hK
      (repeat (first | refine Tr.seq ?_ | refine Tr.skip ?_ | refine Tr.label ?_ | refine Tr.block ?_ | refine Tr.scope ?_ | refine gs1 ?_ | refine gs2 ?_ | refine gs3 ?_ | refine Tr.exit ?_ | refine Tr.goto ?_ | refine Tr.ret ?_ | refine n1 ?_ | refine n2 ?_ | refine n3 ?_ | refine n4 ?_ | refine n5 ?_ | refine n6 ?_ | refine n7 ?_ | refine n8 ?_ | refine n9 (by decide) ?_))
      refine ⟨_, ?_, po % 4, rfl, by omega, fun e => (by rw [hw] at e; cases e)⟩
      exact (Le.mv (by simp only [go_sem, hP, hn]; first | done | (simp; done) | (simp [intC]; done) | (repeat (first | rfl | constructor))) (by simp only [go_sem, hP, hn]; first | done | (simp; done) | (simp [intC]; done) | (repeat (first | rfl | constructor))))
    · (repeat (first | refine Tr.seq ?_ | refine Tr.skip ?_ | refine Tr.label ?_ | refine Tr.block ?_ | refine Tr.scope ?_ | refine gs1 ?_ | refine gs2 ?_ | refine gs3 ?_ | refine Tr.exit ?_ | refine Tr.goto ?_ | refine Tr.ret ?_ | refine n1 ?_ | refine n2 ?_ | refine n3 ?_ | refine n4 ?_ | refine n5 ?_ | refine n6 ?_ | refine n7 ?_ | refine n8 ?_ | refine n9 (by decide) ?_))
      refine ⟨_, ?_, n.post, rfl, (by rw [hn0]; omega), fun _ => hn0⟩
      exact (Le.mv (by simp only [go_sem, hP, hn]; first | done | (simp; done) | (simp [intC]; done) | (repeat (first | rfl | constructor))) (by simp only [go_sem, hP, hn]; first | done | (simp; done) | (simp [intC]; done) | (repeat (first | rfl | constructor))))
  rintro s ⟨p, rfl, hp, hpw⟩
  refine Tr.seq ?_
  refine Tr.meet (fun s => ∃ mu sh : Int, s = ⟨[(1, .ptr 1 0), (2, .ptr 2 0), (3, .d .nil), (4, .d (.i .i64 w)), (9, .ptr 9 0)], [(1, .box 24 (spC nums vals wd po two small)), (2, .box 27 Z8), (9, .box 27 (n.wp mu sh n.low n.high p).cs)]⟩ ∧ ((Go.bits .and .i64 p 1 == 1) = true → (1 ≤ mu ∧ mu ≤ 16384) ∧ 0 ≤ sh ∧ sh ≤ 15) ∧ ((Go.bits .and .i64 p 1 == 1) = false → mu = n.mult ∧ sh = n.shift)) ?_ ?_
  rotate_left
  · (repeat (first | refine Tr.seq ?_ | refine Tr.skip ?_ | refine Tr.label ?_ | refine Tr.block ?_ | refine Tr.scope ?_ | refine gs1 ?_ | refine gs2 ?_ | refine gs3 ?_ | refine Tr.exit ?_ | refine Tr.goto ?_ | refine Tr.ret ?_ | refine n1 ?_ | refine n2 ?_ | refine n3 ?_ | refine n4 ?_ | refine n5 ?_ | refine n6 ?_ | refine n7 ?_ | refine n8 ?_ | refine n9 (by decide) ?_))
    (first | refine r1 ?_ | refine r2 ?_ | refine r3 ?_); intro K hK; simp only [go_sem, hP, hn]; (repeat (refine ⟨by first | trivial | omega | (simp <;> omega) | (simp +contextual; done) | (clear hK; grind), ?_⟩)); refine hK _ ?_; clear K hK
    (repeat (first | refine Tr.seq ?_ | refine Tr.skip ?_ | refine Tr.label ?_ | refine Tr.block ?_ | refine Tr.scope ?_ | refine gs1 ?_ | refine gs2 ?_ | refine gs3 ?_ | refine Tr.exit ?_ | refine Tr.goto ?_ | refine Tr.ret ?_ | refine n1 ?_ | refine n2 ?_ | refine n3 ?_ | refine n4 ?_ | refine n5 ?_ | refine n6 ?_ | refine n7 ?_ | refine n8 ?_ | refine n9 (by decide) ?_))
    refine Tr.cond rfl (fun hb => ?_) (fun hb => ?_)
    · refine Tr.le (Le.keep [1, 2, 3, 4, 9]) ?_; simp only [List.map_cons, List.map_nil, lk, Nat.reduceEqDiff, reduceIte]
      (repeat (first | refine Tr.seq ?_ | refine Tr.skip ?_ | refine Tr.label ?_ | refine Tr.block ?_ | refine Tr.scope ?_ | refine gs1 ?_ | refine gs2 ?_ | refine gs3 ?_ | refine Tr.exit ?_ | refine Tr.goto ?_ | refine Tr.ret ?_ | refine n1 ?_ | refine n2 ?_ | refine n3 ?_ | refine n4 ?_ | refine n5 ?_ | refine n6 ?_ | refine n7 ?_ | refine n8 ?_ | refine n9 (by decide) ?_))
      (first | refine r1 ?_ | refine r2 ?_ | refine r3 ?_); intro K hK; simp only [go_sem, hP, hn]
      rw [shr_r, and16383, w64 (x := 1 + _ % 16384) (by omega) (by omega)]
      (repeat (refine ⟨by first | trivial | omega | (simp <;> omega) | (simp +contextual; done) | (clear hK; grind), ?_⟩))
      refine hK _ ?_; clear K hK
      (repeat (first | refine Tr.seq ?_ | refine Tr.skip ?_ | refine Tr.label ?_ | refine Tr.block ?_ | refine Tr.scope ?_ | refine gs1 ?_ | refine gs2 ?_ | refine gs3 ?_ | refine Tr.exit ?_ | refine Tr.goto ?_ | refine Tr.ret ?_ | refine n1 ?_ | refine n2 ?_ | refine n3 ?_ | refine n4 ?_ | refine n5 ?_ | refine n6 ?_ | refine n7 ?_ | refine n8 ?_ | refine n9 (by decide) ?_))
      (first | refine r1 ?_ | refine r2 ?_ | refine r3 ?_); intro K hK; simp only [go_sem, hP, hn]
      rw [shr_r, and15]
      (repeat (refine ⟨by first | trivial | omega | (simp <;> omega) | (simp +contextual; done) | (clear hK; grind), ?_⟩))
      refine hK _ ?_; clear K hK
      (repeat (first | refine Tr.seq ?_ | refine Tr.skip ?_ | refine Tr.label ?_ | refine Tr.block ?_ | refine Tr.scope ?_ | refine gs1 ?_ | refine gs2 ?_ | refine gs3 ?_ | refine Tr.exit ?_ | refine Tr.goto ?_ | refine Tr.ret ?_ | refine n1 ?_ | refine n2 ?_ | refine n3 ?_ | refine n4 ?_ | refine n5 ?_ | refine n6 ?_ | refine n7 ?_ | refine n8 ?_ | refine n9 (by decide) ?_))
      refine ⟨_, ?_, 1 + po / 2 ^ min 2 64 % 16384, po / 2 ^ min 16 64 % 16, rfl, fun _ => ⟨by omega, by omega⟩, fun e => (by rw [hb] at e; cases e)⟩
      exact (Le.mv (by simp only [go_sem, hP, hn]; first | done | (simp; done) | (simp [intC]; done) | (repeat (first | rfl | constructor))) (by simp only [go_sem, hP, hn]; first | done | (simp; done) | (simp [intC]; done) | (repeat (first | rfl | constructor))))
    · (repeat (first | refine Tr.seq ?_ | refine Tr.skip ?_ | refine Tr.label ?_ | refine Tr.block ?_ | refine Tr.scope ?_ | refine gs1 ?_ | refine gs2 ?_ | refine gs3 ?_ | refine Tr.exit ?_ | refine Tr.goto ?_ | refine Tr.ret ?_ | refine n1 ?_ | refine n2 ?_ | refine n3 ?_ | refine n4 ?_ | refine n5 ?_ | refine n6 ?_ | refine n7 ?_ | refine n8 ?_ | refine n9 (by decide) ?_))
      refine ⟨_, ?_, n.mult, n.shift, rfl, fun e => (by rw [hb] at e; cases e), fun _ => ⟨rfl, rfl⟩⟩
      exact (Le.mv (by simp only [go_sem, hP, hn]; first | done | (simp; done) | (simp [intC]; done) | (repeat (first | rfl | constructor))) (by simp only [go_sem, hP, hn]; first | done | (simp; done) | (simp [intC]; done) | (repeat (first | rfl | constructor))))
  rintro s ⟨mu, sh, rfl, hm1, hm0⟩
  refine Tr.seq ?_
  refine Tr.meet (fun s => ∃ lo hi : Int, s = ⟨[(1, .ptr 1 0), (2, .ptr 2 0), (3, .d .nil), (4, .d (.i .i64 w)), (9, .ptr 9 0)], [(1, .box 24 (spC nums vals wd po two small)), (2, .box 27 Z8), (9, .box 27 (n.wp mu sh lo hi p).cs)]⟩ ∧ ((Go.bits .and .i64 p 2 == 2) = true → (-4096 ≤ lo ∧ lo ≤ -1) ∧ 0 ≤ hi ∧ hi ≤ 4095) ∧ ((Go.bits .and .i64 p 2 == 2) = false → lo = n.low ∧ hi = n.high)) ?_ ?_
  rotate_left
  · (repeat (first | refine Tr.seq ?_ | refine Tr.skip ?_ | refine Tr.label ?_ | refine Tr.block ?_ | refine Tr.scope ?_ | refine gs1 ?_ | refine gs2 ?_ | refine gs3 ?_ | refine Tr.exit ?_ | refine Tr.goto ?_ | refine Tr.ret ?_ | refine n1 ?_ | refine n2 ?_ | refine n3 ?_ | refine n4 ?_ | refine n5 ?_ | refine n6 ?_ | refine n7 ?_ | refine n8 ?_ | refine n9 (by decide) ?_))
    (first | refine r1 ?_ | refine r2 ?_ | refine r3 ?_); intro K hK; simp only [go_sem, hP, hn]; (repeat (refine ⟨by first | trivial | omega | (simp <;> omega) | (simp +contextual; done) | (clear hK; grind), ?_⟩)); refine hK _ ?_; clear K hK
    (repeat (first | refine Tr.seq ?_ | refine Tr.skip ?_ | refine Tr.label ?_ | refine Tr.block ?_ | refine Tr.scope ?_ | refine gs1 ?_ | refine gs2 ?_ | refine gs3 ?_ | refine Tr.exit ?_ | refine Tr.goto ?_ | refine Tr.ret ?_ | refine n1 ?_ | refine n2 ?_ | refine n3 ?_ | refine n4 ?_ | refine n5 ?_ | refine n6 ?_ | refine n7 ?_ | refine n8 ?_ | refine n9 (by decide) ?_))
    refine Tr.cond rfl (fun hb => ?_) (fun hb => ?_)
    · refine Tr.le (Le.keep [1, 2, 3, 4, 9]) ?_; simp only [List.map_cons, List.map_nil, lk, Nat.reduceEqDiff, reduceIte]
      (repeat (first | refine Tr.seq ?_ | refine Tr.skip ?_ | refine Tr.label ?_ | refine Tr.block ?_ | refine Tr.scope ?_ | refine gs1 ?_ | refine gs2 ?_ | refine gs3 ?_ | refine Tr.exit ?_ | refine Tr.goto ?_ | refine Tr.ret ?_ | refine n1 ?_ | refine n2 ?_ | refine n3 ?_ | refine n4 ?_ | refine n5 ?_ | refine n6 ?_ | refine n7 ?_ | refine n8 ?_ | refine n9 (by decide) ?_))
      (first | refine r1 ?_ | refine r2 ?_ | refine r3 ?_); intro K hK; simp only [go_sem, hP, hn]
      rw [shr_r, and4095, w64 (x := -1 - _ % 4096) (by omega) (by omega)]
      (repeat (refine ⟨by first | trivial | omega | (simp <;> omega) | (simp +contextual; done) | (clear hK; grind), ?_⟩))
      refine hK _ ?_; clear K hK
      (repeat (first | refine Tr.seq ?_ | refine Tr.skip ?_ | refine Tr.label ?_ | refine Tr.block ?_ | refine Tr.scope ?_ | refine gs1 ?_ | refine gs2 ?_ | refine gs3 ?_ | refine Tr.exit ?_ | refine Tr.goto ?_ | refine Tr.ret ?_ | refine n1 ?_ | refine n2 ?_ | refine n3 ?_ | refine n4 ?_ | refine n5 ?_ | refine n6 ?_ | refine n7 ?_ | refine n8 ?_ | refine n9 (by decide) ?_))
      (first | refine r1 ?_ | refine r2 ?_ | refine r3 ?_); intro K hK; simp only [go_sem, hP, hn]
      rw [shr_r, and4095]
      (repeat (refine ⟨by first | trivial | omega | (simp <;> omega) | (simp +contextual; done) | (clear hK; grind), ?_⟩))
      refine hK _ ?_; clear K hK
      (repeat (first | refine Tr.seq ?_ | refine Tr.skip ?_ | refine Tr.label ?_ | refine Tr.block ?_ | refine Tr.scope ?_ | refine gs1 ?_ | refine gs2 ?_ | refine gs3 ?_ | refine Tr.exit ?_ | refine Tr.goto ?_ | refine Tr.ret ?_ | refine n1 ?_ | refine n2 ?_ | refine n3 ?_ | refine n4 ?_ | refine n5 ?_ | refine n6 ?_ | refine n7 ?_ | refine n8 ?_ | refine n9 (by decide) ?_))
      refine ⟨_, ?_, -1 - po / 2 ^ min 3 64 % 4096, po / 2 ^ min 5 64 % 4096, rfl, fun _ => ⟨by omega, by omega⟩, fun e => (by rw [hb] at e; cases e)⟩
      exact (Le.mv (by simp only [go_sem, hP, hn]; first | done | (simp; done) | (simp [intC]; done) | (repeat (first | rfl | constructor))) (by simp only [go_sem, hP, hn]; first | done | (simp; done) | (simp [intC]; done) | (repeat (first | rfl | constructor))))
    · (repeat (first | refine Tr.seq ?_ | refine Tr.skip ?_ | refine Tr.label ?_ | refine Tr.block ?_ | refine Tr.scope ?_ | refine gs1 ?_ | refine gs2 ?_ | refine gs3 ?_ | refine Tr.exit ?_ | refine Tr.goto ?_ | refine Tr.ret ?_ | refine n1 ?_ | refine n2 ?_ | refine n3 ?_ | refine n4 ?_ | refine n5 ?_ | refine n6 ?_ | refine n7 ?_ | refine n8 ?_ | refine n9 (by decide) ?_))
      refine ⟨_, ?_, n.low, n.high, rfl, fun e => (by rw [hb] at e; cases e), fun _ => ⟨rfl, rfl⟩⟩
      exact (Le.mv (by simp only [go_sem, hP, hn]; first | done | (simp; done) | (simp [intC]; done) | (repeat (first | rfl | constructor))) (by simp only [go_sem, hP, hn]; first | done | (simp; done) | (simp [intC]; done) | (repeat (first | rfl | constructor))))
  rintro s ⟨lo, hi, rfl, hl1, hl0⟩
  have hck2 := PK.chk hck hn0 ⟨hp, hpw, hm1, hm0, hl1, hl0⟩
  have hwl2 : (n.wp mu sh lo hi p).ws.length ≤ 4096 := hwl
  have hbl2 : (n.wp mu sh lo hi p).bs.length ≤ 4096 := hbl
  have hil2 : (n.wp mu sh lo hi p).inn.length ≤ 2 := hin.1
  replace hck2 : (n.wp mu sh lo hi p).rchk (List.replicate (n.wp mu sh lo hi p).inn.length (w : Int)) = 0 := hck2
  generalize n.wp mu sh lo hi p = n at *
  clear hm1 hm0 hl1 hl0 hpw hp hck hn0 hwl hbl hin
  obtain ⟨_, c7, _, _, hsz, _⟩ := rchk_unpack hck2
  refine Tr.le (s' := ⟨[(1, .ptr 1 0), (2, .ptr 2 0), (3, .d .nil), (4, .d (.i .i64 w)), (9, .ptr 9 0)], [(1, .box 24 (spC nums vals wd po two small)), (2, .box 27 Z8), (9, .box 27 n.cs)]⟩) (Le.mv (by simp only [go_sem, hP, hn]; first | done | (simp; done) | (simp [intC]; done) | (repeat (first | rfl | constructor))) (by simp only [go_sem, hP, hn]; first | done | (simp; done) | (simp [intC]; done) | (repeat (first | rfl | constructor)))) ?_
  (repeat (first | refine Tr.seq ?_ | refine Tr.skip ?_ | refine Tr.label ?_ | refine Tr.block ?_ | refine Tr.scope ?_ | refine gs1 ?_ | refine gs2 ?_ | refine gs3 ?_ | refine Tr.exit ?_ | refine Tr.goto ?_ | refine Tr.ret ?_ | refine n1 ?_ | refine n2 ?_ | refine n3 ?_ | refine n4 ?_ | refine n5 ?_ | refine n6 ?_ | refine n7 ?_ | refine n8 ?_ | refine n9 (by decide) ?_))
  (first | refine r1 ?_ | refine r2 ?_ | refine r3 ?_); intro K hK; simp only [go_sem, hP, hn]; (repeat (refine ⟨by first | trivial | omega | (simp <;> omega) | (simp +contextual; done) | (clear hK; grind), ?_⟩)); refine hK _ ?_; clear K hK
  (repeat (first | refine Tr.seq ?_ | refine Tr.skip ?_ | refine Tr.label ?_ | refine Tr.block ?_ | refine Tr.scope ?_ | refine gs1 ?_ | refine gs2 ?_ | refine gs3 ?_ | refine Tr.exit ?_ | refine Tr.goto ?_ | refine Tr.ret ?_ | refine n1 ?_ | refine n2 ?_ | refine n3 ?_ | refine n4 ?_ | refine n5 ?_ | refine n6 ?_ | refine n7 ?_ | refine n8 ?_ | refine n9 (by decide) ?_))
  (first | refine r1 ?_ | refine r2 ?_ | refine r3 ?_); intro K hK; simp only [go_sem, hP, hn]; (repeat (refine ⟨by first | trivial | omega | (simp <;> omega) | (simp +contextual; done) | (clear hK; grind), ?_⟩)); refine c1 (by rw [hP, hT]; exact Windows_r Tm n.k) rfl rfl rfl trivial (by simp only [go_sem, hP, hn]; try trivial) (by simp only [go_sem, hP, hn]; try rfl) (by rw [hn]; decide) (by rfl) ?_; simp only [go_sem, hP, hn]; (repeat (refine ⟨by first | trivial | omega | (simp <;> omega) | (simp +contextual; done) | (clear hK; grind), ?_⟩)); refine hK _ ?_; clear K hK
  refine Tr.le (Le.keep [1, 2, 3, 4, 9, 11, 12]) ?_; simp only [List.map_cons, List.map_nil, lk, Nat.reduceEqDiff, reduceIte]
  refine Tr.seq ?_
  refine Tr.meet (fun s => ∃ many : Int, s = ⟨[(1, .ptr 1 0), (2, .ptr 2 0), (3, .d .nil), (4, .d (.i .i64 w)), (9, .ptr 9 0), (11, .d (.i .i64 many))], [(1, .box 24 (spC nums vals wd po two small)), (2, .box 27 Z8), (9, .box 27 n.cs)]⟩ ∧ (rWin n.k = true → many = n.size) ∧ (rWin n.k = false → many = n.inn.length)) ?_ ?_
  rotate_left
  · (repeat (first | refine Tr.seq ?_ | refine Tr.skip ?_ | refine Tr.label ?_ | refine Tr.block ?_ | refine Tr.scope ?_ | refine gs1 ?_ | refine gs2 ?_ | refine gs3 ?_ | refine Tr.exit ?_ | refine Tr.goto ?_ | refine Tr.ret ?_ | refine n1 ?_ | refine n2 ?_ | refine n3 ?_ | refine n4 ?_ | refine n5 ?_ | refine n6 ?_ | refine n7 ?_ | refine n8 ?_ | refine n9 (by decide) ?_))
    (first | refine r1 ?_ | refine r2 ?_ | refine r3 ?_); intro K hK; simp only [go_sem, hP, hn]; (repeat (refine ⟨by first | trivial | omega | (simp <;> omega) | (simp +contextual; done) | (clear hK; grind), ?_⟩)); refine hK _ ?_; clear K hK
    (repeat (first | refine Tr.seq ?_ | refine Tr.skip ?_ | refine Tr.label ?_ | refine Tr.block ?_ | refine Tr.scope ?_ | refine gs1 ?_ | refine gs2 ?_ | refine gs3 ?_ | refine Tr.exit ?_ | refine Tr.goto ?_ | refine Tr.ret ?_ | refine n1 ?_ | refine n2 ?_ | refine n3 ?_ | refine n4 ?_ | refine n5 ?_ | refine n6 ?_ | refine n7 ?_ | refine n8 ?_ | refine n9 (by decide) ?_))
    refine Tr.cond rfl (fun hw => ?_) (fun hw => ?_)
    · (repeat (first | refine Tr.seq ?_ | refine Tr.skip ?_ | refine Tr.label ?_ | refine Tr.block ?_ | refine Tr.scope ?_ | refine gs1 ?_ | refine gs2 ?_ | refine gs3 ?_ | refine Tr.exit ?_ | refine Tr.goto ?_ | refine Tr.ret ?_ | refine n1 ?_ | refine n2 ?_ | refine n3 ?_ | refine n4 ?_ | refine n5 ?_ | refine n6 ?_ | refine n7 ?_ | refine n8 ?_ | refine n9 (by decide) ?_))
      (first | refine r1 ?_ | refine r2 ?_ | refine r3 ?_); intro K hK; simp only [go_sem, hP, hn]; (repeat (refine ⟨by first | trivial | omega | (simp <;> omega) | (simp +contextual; done) | (clear hK; grind), ?_⟩)); refine hK _ ?_; clear K hK
      (repeat (first | refine Tr.seq ?_ | refine Tr.skip ?_ | refine Tr.label ?_ | refine Tr.block ?_ | refine Tr.scope ?_ | refine gs1 ?_ | refine gs2 ?_ | refine gs3 ?_ | refine Tr.exit ?_ | refine Tr.goto ?_ | refine Tr.ret ?_ | refine n1 ?_ | refine n2 ?_ | refine n3 ?_ | refine n4 ?_ | refine n5 ?_ | refine n6 ?_ | refine n7 ?_ | refine n8 ?_ | refine n9 (by decide) ?_))
      exact ⟨_, (Le.mv (by simp only [go_sem, hP, hn]; first | done | (simp; done) | (simp [intC]; done) | (repeat (first | rfl | constructor))) (by simp only [go_sem, hP, hn]; first | done | (simp; done) | (simp [intC]; done) | (repeat (first | rfl | constructor)))), n.size, rfl, fun _ => rfl, fun e => (by rw [hw] at e; cases e)⟩
    · (repeat (first | refine Tr.seq ?_ | refine Tr.skip ?_ | refine Tr.label ?_ | refine Tr.block ?_ | refine Tr.scope ?_ | refine gs1 ?_ | refine gs2 ?_ | refine gs3 ?_ | refine Tr.exit ?_ | refine Tr.goto ?_ | refine Tr.ret ?_ | refine n1 ?_ | refine n2 ?_ | refine n3 ?_ | refine n4 ?_ | refine n5 ?_ | refine n6 ?_ | refine n7 ?_ | refine n8 ?_ | refine n9 (by decide) ?_))
      exact ⟨_, (Le.mv (by simp only [go_sem, hP, hn]; first | done | (simp; done) | (simp [intC]; done) | (repeat (first | rfl | constructor))) (by simp only [go_sem, hP, hn]; first | done | (simp; done) | (simp [intC]; done) | (repeat (first | rfl | constructor)))), n.inn.length, rfl, fun e => (by rw [hw] at e; cases e), fun _ => rfl⟩
  rintro s ⟨many, rfl, hy1, hy2⟩
  refine Tr.seq ?_
  refine Tr.meet (fun s => ∃ many : Int, s = ⟨[(1, .ptr 1 0), (2, .ptr 2 0), (3, .d .nil), (4, .d (.i .i64 w)), (9, .ptr 9 0), (11, .d (.i .i64 many))], [(1, .box 24 (spC nums vals wd po two small)), (2, .box 27 Z8), (9, .box 27 n.cs)]⟩ ∧ (rWin n.k = true → many = n.size) ∧ (rWin n.k = false → n.k ≠ 5 → many = n.inn.length) ∧ 1 ≤ many ∧ many ≤ 8) ?_ ?_
  rotate_left
  · (repeat (first | refine Tr.seq ?_ | refine Tr.skip ?_ | refine Tr.label ?_ | refine Tr.block ?_ | refine Tr.scope ?_ | refine gs1 ?_ | refine gs2 ?_ | refine gs3 ?_ | refine Tr.exit ?_ | refine Tr.goto ?_ | refine Tr.ret ?_ | refine n1 ?_ | refine n2 ?_ | refine n3 ?_ | refine n4 ?_ | refine n5 ?_ | refine n6 ?_ | refine n7 ?_ | refine n8 ?_ | refine n9 (by decide) ?_))
    (first | refine r1 ?_ | refine r2 ?_ | refine r3 ?_); intro K hK; simp only [go_sem, hP, hn]; (repeat (refine ⟨by first | trivial | omega | (simp <;> omega) | (simp +contextual; done) | (clear hK; grind), ?_⟩)); refine hK _ ?_; clear K hK
    (repeat (first | refine Tr.seq ?_ | refine Tr.skip ?_ | refine Tr.label ?_ | refine Tr.block ?_ | refine Tr.scope ?_ | refine gs1 ?_ | refine gs2 ?_ | refine gs3 ?_ | refine Tr.exit ?_ | refine Tr.goto ?_ | refine Tr.ret ?_ | refine n1 ?_ | refine n2 ?_ | refine n3 ?_ | refine n4 ?_ | refine n5 ?_ | refine n6 ?_ | refine n7 ?_ | refine n8 ?_ | refine n9 (by decide) ?_))
    refine Tr.cond rfl (fun hq => ?_) (fun hq => ?_)
    · have hk5 : n.k = 5 := by simpa using hq
      (repeat (first | refine Tr.seq ?_ | refine Tr.skip ?_ | refine Tr.label ?_ | refine Tr.block ?_ | refine Tr.scope ?_ | refine gs1 ?_ | refine gs2 ?_ | refine gs3 ?_ | refine Tr.exit ?_ | refine Tr.goto ?_ | refine Tr.ret ?_ | refine n1 ?_ | refine n2 ?_ | refine n3 ?_ | refine n4 ?_ | refine n5 ?_ | refine n6 ?_ | refine n7 ?_ | refine n8 ?_ | refine n9 (by decide) ?_))
      (first | refine r1 ?_ | refine r2 ?_ | refine r3 ?_); intro K hK; simp only [go_sem, hP, hn]; (repeat (refine ⟨by first | trivial | omega | (simp <;> omega) | (simp +contextual; done) | (clear hK; grind), ?_⟩)); refine hK _ ?_; clear K hK
      (repeat (first | refine Tr.seq ?_ | refine Tr.skip ?_ | refine Tr.label ?_ | refine Tr.block ?_ | refine Tr.scope ?_ | refine gs1 ?_ | refine gs2 ?_ | refine gs3 ?_ | refine Tr.exit ?_ | refine Tr.goto ?_ | refine Tr.ret ?_ | refine n1 ?_ | refine n2 ?_ | refine n3 ?_ | refine n4 ?_ | refine n5 ?_ | refine n6 ?_ | refine n7 ?_ | refine n8 ?_ | refine n9 (by decide) ?_))
      exact ⟨_, (Le.mv (by simp only [go_sem, hP, hn]; first | done | (simp; done) | (simp [intC]; done) | (repeat (first | rfl | constructor))) (by simp only [go_sem, hP, hn]; first | done | (simp; done) | (simp [intC]; done) | (repeat (first | rfl | constructor)))), 3, rfl, fun e => (by rw [hk5] at e; cases e), fun _ e => absurd hk5 e, by decide, by decide⟩
    · have hb : 1 ≤ many ∧ many ≤ 8 := made_many c7 hsz trivial hil2 hy1 hy2
      (repeat (first | refine Tr.seq ?_ | refine Tr.skip ?_ | refine Tr.label ?_ | refine Tr.block ?_ | refine Tr.scope ?_ | refine gs1 ?_ | refine gs2 ?_ | refine gs3 ?_ | refine Tr.exit ?_ | refine Tr.goto ?_ | refine Tr.ret ?_ | refine n1 ?_ | refine n2 ?_ | refine n3 ?_ | refine n4 ?_ | refine n5 ?_ | refine n6 ?_ | refine n7 ?_ | refine n8 ?_ | refine n9 (by decide) ?_))
      exact ⟨_, (Le.mv (by simp only [go_sem, hP, hn]; first | done | (simp; done) | (simp [intC]; done) | (repeat (first | rfl | constructor))) (by simp only [go_sem, hP, hn]; first | done | (simp; done) | (simp [intC]; done) | (repeat (first | rfl | constructor)))), many, rfl, hy1, fun e _ => hy2 e, hb.1, hb.2⟩
  clear hy1 hy2 many
  rintro s ⟨many, rfl, hy1, hy2, hy3, hy4⟩
  (repeat (first | refine Tr.seq ?_ | refine Tr.skip ?_ | refine Tr.label ?_ | refine Tr.block ?_ | refine Tr.scope ?_ | refine gs1 ?_ | refine gs2 ?_ | refine gs3 ?_ | refine Tr.exit ?_ | refine Tr.goto ?_ | refine Tr.ret ?_ | refine n1 ?_ | refine n2 ?_ | refine n3 ?_ | refine n4 ?_ | refine n5 ?_ | refine n6 ?_ | refine n7 ?_ | refine n8 ?_ | refine n9 (by decide) ?_))
  (first | refine r1 ?_ | refine r2 ?_ | refine r3 ?_); intro K hK; simp only [go_sem, hP, hn]; (repeat (refine ⟨by first | trivial | omega | (simp <;> omega) | (simp +contextual; done) | (clear hK; grind), ?_⟩)); refine hK _ ?_; clear K hK
  refine Tr.le (Le.nilslot 3001 13 22 [.nil] rfl (by rw [hpn] <;> rfl) rfl rfl) ?_
  (repeat (first | refine Tr.seq ?_ | refine Tr.skip ?_ | refine Tr.label ?_ | refine Tr.block ?_ | refine Tr.scope ?_ | refine gs1 ?_ | refine gs2 ?_ | refine gs3 ?_ | refine Tr.exit ?_ | refine Tr.goto ?_ | refine Tr.ret ?_ | refine n1 ?_ | refine n2 ?_ | refine n3 ?_ | refine n4 ?_ | refine n5 ?_ | refine n6 ?_ | refine n7 ?_ | refine n8 ?_ | refine n9 (by decide) ?_))
  (first | refine r1 ?_ | refine r2 ?_ | refine r3 ?_); intro K hK; simp only [go_sem, hP, hn]; (repeat (refine ⟨by first | trivial | omega | (simp <;> omega) | (simp +contextual; done) | (clear hK; grind), ?_⟩)); refine hK _ ?_; clear K hK
  (repeat (first | refine Tr.seq ?_ | refine Tr.skip ?_ | refine Tr.label ?_ | refine Tr.block ?_ | refine Tr.scope ?_ | refine gs1 ?_ | refine gs2 ?_ | refine gs3 ?_ | refine Tr.exit ?_ | refine Tr.goto ?_ | refine Tr.ret ?_ | refine n1 ?_ | refine n2 ?_ | refine n3 ?_ | refine n4 ?_ | refine n5 ?_ | refine n6 ?_ | refine n7 ?_ | refine n8 ?_ | refine n9 (by decide) ?_))
  refine Tr.le (Le.keep [1, 2, 4, 9, 11, 13, 14]) ?_; simp only [List.map_cons, List.map_nil, lk, Nat.reduceEqDiff, reduceIte]
  refine Tr.loop (fun q s => ∃ (i : Int) (fs : List (List Int)), s = ⟨[(1, .ptr 1 0), (2, .ptr 2 0), (4, .d (.i .i64 w)), (9, .ptr 9 0), (11, .d (.i .i64 many)), (13, .own 3001), (14, .d (.i .i64 i))], [(1, .box 24 (spC nums vals wd po two small)), (2, .box 27 Z8), (9, .box 27 n.cs), (3001, .row 22 [.nil] (fs.map frE))]⟩ ∧ 0 ≤ i ∧ i + q = many ∧ fs.length = i.toNat ∧ (∀ f ∈ fs, f.length = w ∧ ∀ x ∈ f, in32 x ∧ (small = true → -512 ≤ x ∧ x ≤ 511))) many.toNat ⟨_, (Le.mv (by simp only [go_sem, hP, hn]; first | done | (simp; done) | (simp [intC]; done) | (repeat (first | rfl | constructor))) (by simp only [go_sem, hP, hn]; first | done | (simp; done) | (simp [intC]; done) | (repeat (first | rfl | constructor)))), 0, [], rfl, by omega, by omega, rfl, by simp⟩ ?_
  rintro q s ⟨i, fs, rfl, i0, iq, hfl, hfs⟩
  (repeat (first | refine Tr.seq ?_ | refine Tr.skip ?_ | refine Tr.label ?_ | refine Tr.block ?_ | refine Tr.scope ?_ | refine gs1 ?_ | refine gs2 ?_ | refine gs3 ?_ | refine Tr.exit ?_ | refine Tr.goto ?_ | refine Tr.ret ?_ | refine n1 ?_ | refine n2 ?_ | refine n3 ?_ | refine n4 ?_ | refine n5 ?_ | refine n6 ?_ | refine n7 ?_ | refine n8 ?_ | refine n9 (by decide) ?_))
  (first | refine r1 ?_ | refine r2 ?_ | refine r3 ?_); intro K hK; simp only [go_sem, hP, hn]; (repeat (refine ⟨by first | trivial | omega | (simp <;> omega) | (simp +contextual; done) | (clear hK; grind), ?_⟩)); refine hK _ ?_; clear K hK
  (repeat (first | refine Tr.seq ?_ | refine Tr.skip ?_ | refine Tr.label ?_ | refine Tr.block ?_ | refine Tr.scope ?_ | refine gs1 ?_ | refine gs2 ?_ | refine gs3 ?_ | refine Tr.exit ?_ | refine Tr.goto ?_ | refine Tr.ret ?_ | refine n1 ?_ | refine n2 ?_ | refine n3 ?_ | refine n4 ?_ | refine n5 ?_ | refine n6 ?_ | refine n7 ?_ | refine n8 ?_ | refine n9 (by decide) ?_))
  refine Tr.cond rfl (fun hb => ?_) (fun hb => ?_)
  · have hi : i < many := by simpa using hb
    clear hb
    (repeat (first | refine Tr.seq ?_ | refine Tr.skip ?_ | refine Tr.label ?_ | refine Tr.block ?_ | refine Tr.scope ?_ | refine gs1 ?_ | refine gs2 ?_ | refine gs3 ?_ | refine Tr.exit ?_ | refine Tr.goto ?_ | refine Tr.ret ?_ | refine n1 ?_ | refine n2 ?_ | refine n3 ?_ | refine n4 ?_ | refine n5 ?_ | refine n6 ?_ | refine n7 ?_ | refine n8 ?_ | refine n9 (by decide) ?_))
    (first | refine r1 ?_ | refine r2 ?_ | refine r3 ?_); intro K hK; simp only [go_sem, hP, hn]; (repeat (refine ⟨by first | trivial | omega | (simp <;> omega) | (simp +contextual; done) | (clear hK; grind), ?_⟩)); refine hK _ ?_; clear K hK
    (repeat (first | refine Tr.seq ?_ | refine Tr.skip ?_ | refine Tr.label ?_ | refine Tr.block ?_ | refine Tr.scope ?_ | refine gs1 ?_ | refine gs2 ?_ | refine gs3 ?_ | refine Tr.exit ?_ | refine Tr.goto ?_ | refine Tr.ret ?_ | refine n1 ?_ | refine n2 ?_ | refine n3 ?_ | refine n4 ?_ | refine n5 ?_ | refine n6 ?_ | refine n7 ?_ | refine n8 ?_ | refine n9 (by decide) ?_))
    (first | refine r1 ?_ | refine r2 ?_ | refine r3 ?_); intro K hK; simp only [go_sem, hP, hn]; (repeat (refine ⟨by first | trivial | omega | (simp <;> omega) | (simp +contextual; done) | (clear hK; grind), ?_⟩)); refine hK _ ?_; clear K hK
    (repeat (first | refine Tr.seq ?_ | refine Tr.skip ?_ | refine Tr.label ?_ | refine Tr.block ?_ | refine Tr.scope ?_ | refine gs1 ?_ | refine gs2 ?_ | refine gs3 ?_ | refine Tr.exit ?_ | refine Tr.goto ?_ | refine Tr.ret ?_ | refine n1 ?_ | refine n2 ?_ | refine n3 ?_ | refine n4 ?_ | refine n5 ?_ | refine n6 ?_ | refine n7 ?_ | refine n8 ?_ | refine n9 (by decide) ?_))
    refine Tr.le (Le.keep [1, 2, 4, 9, 11, 13, 14, 15, 16]) ?_; simp only [List.map_cons, List.map_nil, lk, Nat.reduceEqDiff, reduceIte]
    refine Tr.loop (fun p s => ∃ (k : Int) (m : List Int), s = ⟨[(1, .ptr 1 0), (2, .ptr 2 0), (4, .d (.i .i64 w)), (9, .ptr 9 0), (11, .d (.i .i64 many)), (13, .own 3001), (14, .d (.i .i64 i)), (15, .own 102), (16, .d (.i .i64 k))], [(1, .box 24 (spC nums vals wd po two small)), (2, .box 27 Z8), (9, .box 27 n.cs), (3001, .row 22 [.nil] (fs.map frE)), (102, .row 3 [.i .i64 0] (m.map intC))]⟩ ∧ 0 ≤ k ∧ k + p = w ∧ m.length = w ∧ ∀ x ∈ m, in32 x ∧ (small = true → -512 ≤ x ∧ x ≤ 511)) w ⟨_, (Le.mv (by simp only [go_sem, hP, hn]; first | done | (simp; done) | (simp [intC]; done) | (repeat (first | rfl | constructor))) (by simp only [go_sem, hP, hn]; first | done | (simp; done) | (simp [intC]; done) | (repeat (first | rfl | constructor)))), 0, List.replicate w 0, rfl, by omega, by omega, by simp, fun x hx => (by obtain rfl := List.eq_of_mem_replicate hx; exact ⟨by decide, fun _ => by decide⟩)⟩ ?_
    rintro p s ⟨k, m, rfl, k0, kp, hm, hmx⟩
    (repeat (first | refine Tr.seq ?_ | refine Tr.skip ?_ | refine Tr.label ?_ | refine Tr.block ?_ | refine Tr.scope ?_ | refine gs1 ?_ | refine gs2 ?_ | refine gs3 ?_ | refine Tr.exit ?_ | refine Tr.goto ?_ | refine Tr.ret ?_ | refine n1 ?_ | refine n2 ?_ | refine n3 ?_ | refine n4 ?_ | refine n5 ?_ | refine n6 ?_ | refine n7 ?_ | refine n8 ?_ | refine n9 (by decide) ?_))
    (first | refine r1 ?_ | refine r2 ?_ | refine r3 ?_); intro K hK; simp only [go_sem, hP, hn]; (repeat (refine ⟨by first | trivial | omega | (simp <;> omega) | (simp +contextual; done) | (clear hK; grind), ?_⟩)); refine hK _ ?_; clear K hK
    (repeat (first | refine Tr.seq ?_ | refine Tr.skip ?_ | refine Tr.label ?_ | refine Tr.block ?_ | refine Tr.scope ?_ | refine gs1 ?_ | refine gs2 ?_ | refine gs3 ?_ | refine Tr.exit ?_ | refine Tr.goto ?_ | refine Tr.ret ?_ | refine n1 ?_ | refine n2 ?_ | refine n3 ?_ | refine n4 ?_ | refine n5 ?_ | refine n6 ?_ | refine n7 ?_ | refine n8 ?_ | refine n9 (by decide) ?_))
    refine Tr.cond rfl (fun hb => ?_) (fun hb => ?_)
    · have hk : k < w := by simpa using hb
      have mm := mul_le i 8 w 5 i0 (by omega) (by omega) (by omega)
      have g1 : wrap64 (i * w) = i * w := w64 (by omega) (by omega)
      have g2 : wrap64 (i * w + k) = i * w + k := w64 (by omega) (by omega)
      clear hb
      (repeat (first | refine Tr.seq ?_ | refine Tr.skip ?_ | refine Tr.label ?_ | refine Tr.block ?_ | refine Tr.scope ?_ | refine gs1 ?_ | refine gs2 ?_ | refine gs3 ?_ | refine Tr.exit ?_ | refine Tr.goto ?_ | refine Tr.ret ?_ | refine n1 ?_ | refine n2 ?_ | refine n3 ?_ | refine n4 ?_ | refine n5 ?_ | refine n6 ?_ | refine n7 ?_ | refine n8 ?_ | refine n9 (by decide) ?_))
      (first | refine r1 ?_ | refine r2 ?_ | refine r3 ?_); intro K hK; simp only [g1, g2, go_sem, hP, hn]; (repeat (refine ⟨by first | trivial | omega | (simp <;> omega) | (simp +contextual; done) | (clear hK; grind), ?_⟩)); refine hK _ ?_; clear K hK
      (repeat (first | refine Tr.seq ?_ | refine Tr.skip ?_ | refine Tr.label ?_ | refine Tr.block ?_ | refine Tr.scope ?_ | refine gs1 ?_ | refine gs2 ?_ | refine gs3 ?_ | refine Tr.exit ?_ | refine Tr.goto ?_ | refine Tr.ret ?_ | refine n1 ?_ | refine n2 ?_ | refine n3 ?_ | refine n4 ?_ | refine n5 ?_ | refine n6 ?_ | refine n7 ?_ | refine n8 ?_ | refine n9 (by decide) ?_))
      (first | refine r1 ?_ | refine r2 ?_ | refine r3 ?_); intro K hK; simp only [go_sem, hP, hn]; (repeat (refine ⟨by first | trivial | omega | (simp <;> omega) | (simp +contextual; done) | (clear hK; grind), ?_⟩)); refine hK _ ?_; clear K hK
      (repeat (first | refine Tr.seq ?_ | refine Tr.skip ?_ | refine Tr.label ?_ | refine Tr.block ?_ | refine Tr.scope ?_ | refine gs1 ?_ | refine gs2 ?_ | refine gs3 ?_ | refine Tr.exit ?_ | refine Tr.goto ?_ | refine Tr.ret ?_ | refine n1 ?_ | refine n2 ?_ | refine n3 ?_ | refine n4 ?_ | refine n5 ?_ | refine n6 ?_ | refine n7 ?_ | refine n8 ?_ | refine n9 (by decide) ?_))
      refine Tr.cond rfl (fun hc => ?_) (fun hc => ?_)
      · have hc2 : i * w + k < vals.length ∧ small = true := by simpa using hc
        have hge : 0 ≤ i * w + k := by omega
        clear hc
        refine Tr.le (Le.keep [1, 2, 4, 9, 11, 13, 14, 15, 16, 17]) ?_; simp only [List.map_cons, List.map_nil, lk, Nat.reduceEqDiff, reduceIte]
        (repeat (first | refine Tr.seq ?_ | refine Tr.skip ?_ | refine Tr.label ?_ | refine Tr.block ?_ | refine Tr.scope ?_ | refine gs1 ?_ | refine gs2 ?_ | refine gs3 ?_ | refine Tr.exit ?_ | refine Tr.goto ?_ | refine Tr.ret ?_ | refine n1 ?_ | refine n2 ?_ | refine n3 ?_ | refine n4 ?_ | refine n5 ?_ | refine n6 ?_ | refine n7 ?_ | refine n8 ?_ | refine n9 (by decide) ?_))
        (first | refine r1 ?_ | refine r2 ?_ | refine r3 ?_); intro K hK; simp only [go_sem, hP, hn]
        rw [and1023, w64 (x := rd vals (i * w + k) % 1024 - 512) (by omega) (by omega)]
        (repeat (refine ⟨by first | trivial | omega | (simp <;> omega) | (simp +contextual; done) | (clear hK; grind), ?_⟩))
        refine hK _ ?_; clear K hK
        (repeat (first | refine Tr.seq ?_ | refine Tr.skip ?_ | refine Tr.label ?_ | refine Tr.block ?_ | refine Tr.scope ?_ | refine gs1 ?_ | refine gs2 ?_ | refine gs3 ?_ | refine Tr.exit ?_ | refine Tr.goto ?_ | refine Tr.ret ?_ | refine n1 ?_ | refine n2 ?_ | refine n3 ?_ | refine n4 ?_ | refine n5 ?_ | refine n6 ?_ | refine n7 ?_ | refine n8 ?_ | refine n9 (by decide) ?_))
        (first | refine r1 ?_ | refine r2 ?_ | refine r3 ?_); intro K hK; simp only [go_sem, hP, hn]; (repeat (refine ⟨by first | trivial | omega | (simp <;> omega) | (simp +contextual; done) | (clear hK; grind), ?_⟩)); refine hK _ ?_; clear K hK
        (repeat (first | refine Tr.seq ?_ | refine Tr.skip ?_ | refine Tr.label ?_ | refine Tr.block ?_ | refine Tr.scope ?_ | refine gs1 ?_ | refine gs2 ?_ | refine gs3 ?_ | refine Tr.exit ?_ | refine Tr.goto ?_ | refine Tr.ret ?_ | refine n1 ?_ | refine n2 ?_ | refine n3 ?_ | refine n4 ?_ | refine n5 ?_ | refine n6 ?_ | refine n7 ?_ | refine n8 ?_ | refine n9 (by decide) ?_))
        rw [w64 (x := k + 1) (by omega) (by omega)]
        refine ⟨p - 1, _, by omega, ?_, k + 1, m.set k.toNat (rd vals (i * w + k) % 1024 - 512), rfl, by omega, by omega, by simpa using hm, fun x hx => ?_⟩
        · exact (Le.mv (by simp only [go_sem, hP, hn]; first | done | (simp; done) | (simp [intC]; done) | (repeat (first | rfl | constructor))) (by simp only [go_sem, hP, hn]; first | done | (simp; done) | (simp [intC]; done) | (repeat (first | rfl | constructor))))
        · rcases List.mem_or_eq_of_mem_set hx with h | rfl
          · exact hmx x h
          · exact ⟨by unfold in32; omega, fun _ => by omega⟩
      refine Tr.le (Le.keep [1, 2, 4, 9, 11, 13, 14, 15, 16, 17]) ?_; simp only [List.map_cons, List.map_nil, lk, Nat.reduceEqDiff, reduceIte]
      (repeat (first | refine Tr.seq ?_ | refine Tr.skip ?_ | refine Tr.label ?_ | refine Tr.block ?_ | refine Tr.scope ?_ | refine gs1 ?_ | refine gs2 ?_ | refine gs3 ?_ | refine Tr.exit ?_ | refine Tr.goto ?_ | refine Tr.ret ?_ | refine n1 ?_ | refine n2 ?_ | refine n3 ?_ | refine n4 ?_ | refine n5 ?_ | refine n6 ?_ | refine n7 ?_ | refine n8 ?_ | refine n9 (by decide) ?_))
      (first | refine r1 ?_ | refine r2 ?_ | refine r3 ?_); intro K hK; simp only [go_sem, hP, hn]; (repeat (refine ⟨by first | trivial | omega | (simp <;> omega) | (simp +contextual; done) | (clear hK; grind), ?_⟩)); refine hK _ ?_; clear K hK
      (repeat (first | refine Tr.seq ?_ | refine Tr.skip ?_ | refine Tr.label ?_ | refine Tr.block ?_ | refine Tr.scope ?_ | refine gs1 ?_ | refine gs2 ?_ | refine gs3 ?_ | refine Tr.exit ?_ | refine Tr.goto ?_ | refine Tr.ret ?_ | refine n1 ?_ | refine n2 ?_ | refine n3 ?_ | refine n4 ?_ | refine n5 ?_ | refine n6 ?_ | refine n7 ?_ | refine n8 ?_ | refine n9 (by decide) ?_))
      refine Tr.cond rfl (fun hd => ?_) (fun hd => ?_)
      · have hd2 : i * w + k < vals.length := by simpa using hd
        have hsm : small = false := by simpa [hd2] using hc
        have hge : 0 ≤ i * w + k := by omega
        clear hc hd
        refine Tr.le (Le.keep [1, 2, 4, 9, 11, 13, 14, 15, 16, 17]) ?_; simp only [List.map_cons, List.map_nil, lk, Nat.reduceEqDiff, reduceIte]
        (repeat (first | refine Tr.seq ?_ | refine Tr.skip ?_ | refine Tr.label ?_ | refine Tr.block ?_ | refine Tr.scope ?_ | refine gs1 ?_ | refine gs2 ?_ | refine gs3 ?_ | refine Tr.exit ?_ | refine Tr.goto ?_ | refine Tr.ret ?_ | refine n1 ?_ | refine n2 ?_ | refine n3 ?_ | refine n4 ?_ | refine n5 ?_ | refine n6 ?_ | refine n7 ?_ | refine n8 ?_ | refine n9 (by decide) ?_))
        (first | refine r1 ?_ | refine r2 ?_ | refine r3 ?_); intro K hK; simp only [go_sem, hP, hn]
        have h32 := i32w (rd vals (i * w + k))
        generalize IntKind.i32.wrap (rd vals (i * w + k)) = v at *
        rw [w64 (x := v) (by unfold in32 at h32; omega) (by unfold in32 at h32; omega)]
        (repeat (refine ⟨by first | trivial | omega | (simp <;> omega) | (simp +contextual; done) | (clear hK; grind), ?_⟩))
        refine hK _ ?_; clear K hK
        (repeat (first | refine Tr.seq ?_ | refine Tr.skip ?_ | refine Tr.label ?_ | refine Tr.block ?_ | refine Tr.scope ?_ | refine gs1 ?_ | refine gs2 ?_ | refine gs3 ?_ | refine Tr.exit ?_ | refine Tr.goto ?_ | refine Tr.ret ?_ | refine n1 ?_ | refine n2 ?_ | refine n3 ?_ | refine n4 ?_ | refine n5 ?_ | refine n6 ?_ | refine n7 ?_ | refine n8 ?_ | refine n9 (by decide) ?_))
        (first | refine r1 ?_ | refine r2 ?_ | refine r3 ?_); intro K hK; simp only [go_sem, hP, hn]; (repeat (refine ⟨by first | trivial | omega | (simp <;> omega) | (simp +contextual; done) | (clear hK; grind), ?_⟩)); refine hK _ ?_; clear K hK
        (repeat (first | refine Tr.seq ?_ | refine Tr.skip ?_ | refine Tr.label ?_ | refine Tr.block ?_ | refine Tr.scope ?_ | refine gs1 ?_ | refine gs2 ?_ | refine gs3 ?_ | refine Tr.exit ?_ | refine Tr.goto ?_ | refine Tr.ret ?_ | refine n1 ?_ | refine n2 ?_ | refine n3 ?_ | refine n4 ?_ | refine n5 ?_ | refine n6 ?_ | refine n7 ?_ | refine n8 ?_ | refine n9 (by decide) ?_))
        rw [w64 (x := k + 1) (by omega) (by omega)]
        refine ⟨p - 1, _, by omega, ?_, k + 1, m.set k.toNat v, rfl, by omega, by omega, by simpa using hm, fun x hx => ?_⟩
        · exact (Le.mv (by simp only [go_sem, hP, hn]; first | done | (simp; done) | (simp [intC]; done) | (repeat (first | rfl | constructor))) (by simp only [go_sem, hP, hn]; first | done | (simp; done) | (simp [intC]; done) | (repeat (first | rfl | constructor))))
        · rcases List.mem_or_eq_of_mem_set hx with h | rfl
          · exact hmx x h
          · exact ⟨h32, fun e => by rw [hsm] at e; cases e⟩
      · (repeat (first | refine Tr.seq ?_ | refine Tr.skip ?_ | refine Tr.label ?_ | refine Tr.block ?_ | refine Tr.scope ?_ | refine gs1 ?_ | refine gs2 ?_ | refine gs3 ?_ | refine Tr.exit ?_ | refine Tr.goto ?_ | refine Tr.ret ?_ | refine n1 ?_ | refine n2 ?_ | refine n3 ?_ | refine n4 ?_ | refine n5 ?_ | refine n6 ?_ | refine n7 ?_ | refine n8 ?_ | refine n9 (by decide) ?_))
        (first | refine r1 ?_ | refine r2 ?_ | refine r3 ?_); intro K hK; simp only [go_sem, hP, hn]; (repeat (refine ⟨by first | trivial | omega | (simp <;> omega) | (simp +contextual; done) | (clear hK; grind), ?_⟩)); refine hK _ ?_; clear K hK
        (repeat (first | refine Tr.seq ?_ | refine Tr.skip ?_ | refine Tr.label ?_ | refine Tr.block ?_ | refine Tr.scope ?_ | refine gs1 ?_ | refine gs2 ?_ | refine gs3 ?_ | refine Tr.exit ?_ | refine Tr.goto ?_ | refine Tr.ret ?_ | refine n1 ?_ | refine n2 ?_ | refine n3 ?_ | refine n4 ?_ | refine n5 ?_ | refine n6 ?_ | refine n7 ?_ | refine n8 ?_ | refine n9 (by decide) ?_))
        rw [w64 (x := k + 1) (by omega) (by omega)]
        refine ⟨p - 1, _, by omega, ?_, k + 1, m, rfl, by omega, by omega, hm, hmx⟩
        exact (Le.mv (by simp only [go_sem, hP, hn]; first | done | (simp; done) | (simp [intC]; done) | (repeat (first | rfl | constructor))) (by simp only [go_sem, hP, hn]; first | done | (simp; done) | (simp [intC]; done) | (repeat (first | rfl | constructor))))
    · clear hb k0 kp
      refine Tr.le (Le.keep [1, 2, 4, 9, 11, 13, 14, 15]) ?_; simp only [List.map_cons, List.map_nil, lk, Nat.reduceEqDiff, reduceIte]
      refine Tr.le (Le.freeze 102) ?_
      simp only [go_sem, hP, hn]
      (repeat (first | refine Tr.seq ?_ | refine Tr.skip ?_ | refine Tr.label ?_ | refine Tr.block ?_ | refine Tr.scope ?_ | refine gs1 ?_ | refine gs2 ?_ | refine gs3 ?_ | refine Tr.exit ?_ | refine Tr.goto ?_ | refine Tr.ret ?_ | refine n1 ?_ | refine n2 ?_ | refine n3 ?_ | refine n4 ?_ | refine n5 ?_ | refine n6 ?_ | refine n7 ?_ | refine n8 ?_ | refine n9 (by decide) ?_))
      (first | refine r1 ?_ | refine r2 ?_ | refine r3 ?_); intro K hK; simp only [go_sem, hP, hn]; (repeat (refine ⟨by first | trivial | omega | (simp <;> omega) | (simp +contextual; done) | (clear hK; grind), ?_⟩)); refine hK _ ?_; clear K hK
      (repeat (first | refine Tr.seq ?_ | refine Tr.skip ?_ | refine Tr.label ?_ | refine Tr.block ?_ | refine Tr.scope ?_ | refine gs1 ?_ | refine gs2 ?_ | refine gs3 ?_ | refine Tr.exit ?_ | refine Tr.goto ?_ | refine Tr.ret ?_ | refine n1 ?_ | refine n2 ?_ | refine n3 ?_ | refine n4 ?_ | refine n5 ?_ | refine n6 ?_ | refine n7 ?_ | refine n8 ?_ | refine n9 (by decide) ?_))
      (first | refine r1 ?_ | refine r2 ?_ | refine r3 ?_); intro K hK; simp only [go_sem, hP, hn]; (repeat (refine ⟨by first | trivial | omega | (simp <;> omega) | (simp +contextual; done) | (clear hK; grind), ?_⟩)); refine hK _ ?_; clear K hK
      (repeat (first | refine Tr.seq ?_ | refine Tr.skip ?_ | refine Tr.label ?_ | refine Tr.block ?_ | refine Tr.scope ?_ | refine gs1 ?_ | refine gs2 ?_ | refine gs3 ?_ | refine Tr.exit ?_ | refine Tr.goto ?_ | refine Tr.ret ?_ | refine n1 ?_ | refine n2 ?_ | refine n3 ?_ | refine n4 ?_ | refine n5 ?_ | refine n6 ?_ | refine n7 ?_ | refine n8 ?_ | refine n9 (by decide) ?_))
      rw [w64 (x := i + 1) (by omega) (by omega)]
      refine ⟨q - 1, _, by omega, ?_, i + 1, fs ++ [m], rfl, by omega, by omega, by rw [List.length_append, hfl]; simp; omega, fun f hf => ?_⟩
      · refine Le.trans (b := ⟨[(1, .ptr 1 0), (2, .ptr 2 0), (4, .d (.i .i64 w)), (9, .ptr 9 0), (11, .d (.i .i64 many)), (13, .own 150), (14, .d (.i .i64 (i + 1)))], [(1, .box 24 (spC nums vals wd po two small)), (2, .box 27 Z8), (9, .box 27 n.cs), (150, .row 22 [.nil] (fs.map frE ++ [frE m]))]⟩) (Le.mv (by simp only [go_sem, hP, hn]; first | done | (simp; done) | (simp [intC]; done) | (repeat (first | rfl | constructor))) (by simp only [go_sem, hP, hn]; first | done | (simp; done) | (simp [intC]; done) | (repeat (first | rfl | constructor)))) ?_
        rw [show fs.map frE ++ [frE m] = (fs ++ [m]).map frE by simp]
        refine Le.trans (Le.ren 150 3001 (by rw [hpn] <;> rfl) rfl rfl) ?_; simp only [renT, renH, renO, renS, renL, rn, go_sem, hP, hn]
        exact (Le.mv (by simp only [go_sem, hP, hn]; first | done | (simp; done) | (simp [intC]; done) | (repeat (first | rfl | constructor))) (by simp only [go_sem, hP, hn]; first | done | (simp; done) | (simp [intC]; done) | (repeat (first | rfl | constructor))))
      · rcases List.mem_append.1 hf with h | h
        · exact hfs f h
        · obtain rfl := List.mem_singleton.1 h; exact ⟨hm, hmx⟩
  · have hie : i = many := by have := of_decide_eq_false hb; omega
    subst hie
    refine Tr.le (Le.keep [2, 3, 9, 13]) ?_; simp only [List.map_cons, List.map_nil, lk, Nat.reduceEqDiff, reduceIte]
    refine Tr.le (Le.freeze 3001) ?_
    simp only [go_sem, hP, hn]
    (repeat (first | refine Tr.seq ?_ | refine Tr.skip ?_ | refine Tr.label ?_ | refine Tr.block ?_ | refine Tr.scope ?_ | refine gs1 ?_ | refine gs2 ?_ | refine gs3 ?_ | refine Tr.exit ?_ | refine Tr.goto ?_ | refine Tr.ret ?_ | refine n1 ?_ | refine n2 ?_ | refine n3 ?_ | refine n4 ?_ | refine n5 ?_ | refine n6 ?_ | refine n7 ?_ | refine n8 ?_ | refine n9 (by decide) ?_))
    (first | refine r1 ?_ | refine r2 ?_ | refine r3 ?_); intro K hK; simp only [go_sem, hP, hn]; (repeat (refine ⟨by first | trivial | omega | (simp <;> omega) | (simp +contextual; done) | (clear hK; grind), ?_⟩)); refine hK _ ?_; clear K hK
    (repeat (first | refine Tr.seq ?_ | refine Tr.skip ?_ | refine Tr.label ?_ | refine Tr.block ?_ | refine Tr.scope ?_ | refine gs1 ?_ | refine gs2 ?_ | refine gs3 ?_ | refine Tr.exit ?_ | refine Tr.goto ?_ | refine Tr.ret ?_ | refine n1 ?_ | refine n2 ?_ | refine n3 ?_ | refine n4 ?_ | refine n5 ?_ | refine n6 ?_ | refine n7 ?_ | refine n8 ?_ | refine n9 (by decide) ?_))
    simp only [RetG, go_sem]; (repeat (with_reducible refine And.intro ?_ ?_; (· first | trivial | omega | (simp <;> omega) | (simp +contextual; done) | (clear hK; grind))))
    refine ⟨n, fs, w, rfl, ⟨⟨by omega, by omega, fun f hf => (hfs f hf).1, fun f hf x hx => ((hfs f hf).2 x hx).1, fun e => ?_, fun e => ?_, fun e1 e2 e3 => ?_, hck2, by omega, hwl2, hbl2⟩, by omega, fun e f hf x hx => ((hfs f hf).2 x hx).2 e⟩⟩
    · have := hy1 e; omega
    · have hwf : rWin n.k = false := by
        cases hw : rWin n.k with
        | false => rfl
        | true =>
          exfalso
          unfold rWin at hw
          unfold rMany at e
          simp only [Bool.or_eq_true, beq_iff_eq] at hw e
          omega
      have := hy2 hwf (by unfold rMany at e; simp only [Bool.or_eq_true, beq_iff_eq] at e; omega)
      omega
    · have := hy2 e1 e3
      unfold Nd.r7 at c7
      simp only [Bool.or_eq_false_iff, Bool.and_eq_false_iff, decide_eq_false_iff_not, List.length_replicate] at c7
      rw [e2] at c7; simp at c7; omega
end
end Go.Proofs.YtgijboakaodcgaaDoor.Aw
