/- The abstract walk, and contracts of Go functions: each call returns what the Lean function named tells. Conditions: those that each theorem names, none else. -/
import Derived.Test.YtgijboakaodcgaaDoorZKernelTurned3
set_option linter.unusedVariables false
set_option linter.unusedSimpArgs false
set_option maxRecDepth 100000
set_option linter.unusedSectionVars false
set_option maxHeartbeats 4000000
namespace Go.Proofs.YtgijboakaodcgaaDoor.Aw
open Go.RowKit
attribute [local go_sem_proc] Nat.reduceAdd Nat.reduceMul Nat.reduceSub Nat.reduceEqDiff Nat.reduceLeDiff Nat.reduceBEq Nat.reduceBNe Int.reduceToNat reduceIte reduceCtorEq
attribute [local go_sem] initT SQ so pe he ev lk constS stp stc gdS nth pickS pickD loadS cellsAt okAt fieldAddrS fieldS partS indexAddrS indexS extractS binS binD binI isShift unS convS lenS sliceS bndI bndC mmS mm2 mmD builtS fillS okCells cellsS splS solid aliveL alive okS boxS allocS makeS bsliceS elemsOf dcells stF storeS frzA frz frzT frzS frzL frzO frzH appS srcS appVC killS killT killC killH killO k1 k2 S.has S.hasL St.add St.upd dropH lh cond_or cond_and rw_intC rw_intC0 rw_set rw_app rw_apps rw_rep rw_slice wr64 cond_true cond_false true_and and_true List.map_cons List.map_nil List.length_cons List.length_nil List.drop_succ_cons List.drop_zero List.take_succ_cons List.take_zero List.nil_append List.cons_append List.getD_cons_zero List.getD_cons_succ List.headD_cons List.length_map ite_true ite_false if_true if_false Bool.false_eq_true and_self forall_const List.drop_nil List.take_nil List.append_nil Option.map_some Option.map_none List.mapM_cons List.mapM_nil Option.bind_eq_bind Option.bind_some Option.pure_def knows resL resV oneS freshS freshL cv cvL stpL stcL or_true true_or or_false false_or List.all_cons List.all_nil Bool.and_self Bool.or_self Bool.true_and Bool.and_true Bool.or_false Bool.false_or implies_true flatD allm_nil allm_cons List.getElem?_cons_zero List.getElem?_cons_succ Nd.cs Nd.ds ml mln Option.isSome_some Option.isSome_none eq_self Int.toNat_natCast AP ldOk isLd inL subL crt chg chgS chgP idxs aliveW Option.toList_some Option.toList_none Option.toList RetG Nd.win frzA offK keepH aliveK nkH closedH closedO keysK inH St.upd rowO List.contains_cons List.contains_nil Bool.or_self Option.isNone_none Option.isNone_some Bool.not_true Bool.not_false gcs rowN e0N frzC
attribute [local go_sem] sz2 ag2 ok2 kk2 iu2 zc2 zd2 by2 sz3 ag3 ok3 kk3 iu3 zc3 zd3 by3 sz4 ag4 ok4 bo4 zc4 zd4 by4 sz5 ag5 ok5 kk5 iu5 zc5 zd5 by5 sz9 ag9 ok9 st9 zc9 zd9 by9 sz12 ag12 ok12 kk12 iu12 zc12 zd12 by12 sz15 ag15 ok15 zc15 by15 sz16 ag16 ok16 zc16 by16 sz21 ag21 ok21 kk21 iu21 zc21 zd21 by21 sz22 ag22 ok22 sl22 zc22 zd22 by22 sz23 ag23 ok23 zc23 zd23 pl23 by23 fl23_0 fl23_1 fl23_2 fl23_3 fl23_4 fl23_5 sz24 ag24 ok24 zc24 zd24 pl24 by24 fl24_0 fl24_1 fl24_2 fl24_3 fl24_4 fl24_5 sz26 ag26 ok26 zc26 zd26 pl26 by26 fl26_0 fl26_1 fl26_2 fl26_3 fl26_4 fl26_5 fl26_6 fl26_7 fl26_8 fl26_9 fl26_10 fl26_11 fl26_12 fl26_13 fl26_14 sz27 ag27 ok27 zc27 zd27 pl27 by27 fl27_0 fl27_1 fl27_2 fl27_3 fl27_4 fl27_5 fl27_6 fl27_7 fl27_8 fl27_9 fl27_10 fl27_11 fl27_12 fl27_13 fl27_14 sz28 ag28 ok28 sl28 zc28 zd28 by28 sz38 ag38 ok38 sl38 ar38 zc38 zd38 pl38 by38 sz44 ag44 ok44 sl44 ar44 zc44 zd44 pl44 by44 sz45 ag45 ok45 sl45 zc45 zd45 by45 sz46 ag46 ok46 zc46 zd46 pl46 by46 fl46_0 fl46_1 fl46_2 fl46_3 fl46_4 sz47 ag47 ok47 zc47 zd47 pl47 by47 fl47_0 fl47_1 fl47_2 fl47_3 fl47_4 sz49 ag49 ok49 kk49 iu49 zc49 zd49 by49 sz53 ag53 ok53 sl53 ar53 zc53 zd53 pl53 by53 sz54 ag54 ok54 kk54 iu54 zc54 zd54 by54 sz55 ag55 ok55 kk55 iu55 zc55 zd55 by55 sz56 ag56 ok56 sl56 zc56 zd56 by56 sz57 ag57 ok57 kk57 iu57 zc57 zd57 by57 sz60 ag60 ok60 zc60 zd60 pl60 by60 fl60_0 fl60_1 fl60_2 fl60_3 sz61 ag61 ok61 zc61 zd61 pl61 by61 fl61_0 fl61_1 fl61_2 fl61_3 sz64 ag64 ok64 zc64 by64 sz65 ag65 ok65 zc65 zd65 pl65 by65 fl65_0 fl65_1 sz66 ag66 ok66 zc66 zd66 pl66 by66 fl66_0 fl66_1 sz78 ag78 ok78 sl78 ar78 zc78 zd78 pl78 by78 sz79 ag79 ok79 sl79 ar79 zc79 zd79 pl79 by79 sz81 ag81 ok81 zc81 zd81 pl81 by81 fl81_0 fl81_1 sz82 ag82 ok82 zc82 zd82 pl82 by82 fl82_0 fl82_1 sz84 ag84 ok84 zc84 zd84 pl84 by84 fl84_0 fl84_1 fl84_2 fl84_3 sz85 ag85 ok85 zc85 zd85 pl85 by85 fl85_0 fl85_1 fl85_2 fl85_3 sz92 ag92 ok92 sl92 ar92 zc92 zd92 pl92 by92 sz101 ag101 ok101 zc101 zd101 pl101 by101 fl101_0 fl101_1 sz102 ag102 ok102 zc102 zd102 pl102 by102 fl102_0 fl102_1 sz109 ag109 ok109 zc109 zd109 pl109 by109 fl109_0 fl109_1 fl109_2 sz110 ag110 ok110 zc110 zd110 pl110 by110 fl110_0 fl110_1 fl110_2 sz120 ag120 ok120 sl120 ar120 zc120 zd120 pl120 by120 sz121 ag121 ok121 zc121 zd121 pl121 by121 fl121_0 fl121_1 sz122 ag122 ok122 sl122 ar122 zc122 zd122 pl122 by122 sz130 ag130 ok130 zc130 by130 sz140 ag140 ok140 kk140 iu140 zc140 zd140 by140 sz144 ag144 ok144 zc144 by144
section
attribute [local go_sem] frD
theorem Frame_c {T : World → Prop} (Tk : KT T) (n : Nd) (fs : List (List Int)) (w : Nat) (h : KOk n fs w) : Cg Go.Proofs.Tryd.prog T 15 [] [.agg n.cs, .d (frD fs)] (fun r H => H = [(2000, .row 3 [.i .i64 0] ((frameV n fs w).map intC))] ∧ r = .own 2000) := by
  have hm0 := h.m0
  have hw0 := h.w0
  have hf0 : (fr fs 0).length = w := h.len _ (fr_mem (by omega) (by omega))
  have hA : 1 ≤ fs.length ∧ fs.length ≤ 4096 := by omega
  refine Cg_of [2000] Tk.m Go.Proofs.Tryd.func15 rfl rfl Go.Proofs.Tryd.ntmps15 (by simp) rfl (rs := [.tmp 4]) rfl fun E hP hn hT hpn => ?_
  (repeat (first | refine Tr.seq ?_ | refine Tr.skip ?_ | refine Tr.label ?_ | refine Tr.block ?_ | refine Tr.scope ?_ | refine gs1 ?_ | refine gs2 ?_ | refine gs3 ?_ | refine Tr.exit ?_ | refine Tr.goto ?_ | refine Tr.ret ?_ | refine n1 ?_ | refine n2 ?_ | refine n3 ?_ | refine n4 ?_ | refine n5 ?_ | refine n6 ?_ | refine n7 ?_ | refine n8 ?_ | refine n9 (by decide) ?_))
  (first | refine r1 ?_ | refine r2 ?_ | refine r3 ?_); intro K hK; simp only [go_sem, hP, hn]; (repeat (refine ⟨by first | trivial | omega | (simp <;> omega) | (simp +contextual; done) | (clear hK; grind), ?_⟩)); refine hK _ ?_; clear K hK
  (repeat (first | refine Tr.seq ?_ | refine Tr.skip ?_ | refine Tr.label ?_ | refine Tr.block ?_ | refine Tr.scope ?_ | refine gs1 ?_ | refine gs2 ?_ | refine gs3 ?_ | refine Tr.exit ?_ | refine Tr.goto ?_ | refine Tr.ret ?_ | refine n1 ?_ | refine n2 ?_ | refine n3 ?_ | refine n4 ?_ | refine n5 ?_ | refine n6 ?_ | refine n7 ?_ | refine n8 ?_ | refine n9 (by decide) ?_))
  (first | refine r1 ?_ | refine r2 ?_ | refine r3 ?_); intro K hK; simp only [go_sem, hP, hn]; (repeat (refine ⟨by first | trivial | omega | (simp <;> omega) | (simp +contextual; done) | (clear hK; grind), ?_⟩)); refine c1 (by rw [hP, hT]; exact (right_c Tk n fs w h).ct (bool_ct _)) rfl rfl rfl trivial (by simp only [go_sem, hP, hn]; try trivial) (by simp only [go_sem, hP, hn]; try rfl) (by rw [hn]; decide) (by rfl) ?_; simp only [go_sem, hP, hn]; (repeat (refine ⟨by first | trivial | omega | (simp <;> omega) | (simp +contextual; done) | (clear hK; grind), ?_⟩)); refine hK _ ?_; clear K hK
  (repeat (first | refine Tr.seq ?_ | refine Tr.skip ?_ | refine Tr.label ?_ | refine Tr.block ?_ | refine Tr.scope ?_ | refine gs1 ?_ | refine gs2 ?_ | refine gs3 ?_ | refine Tr.exit ?_ | refine Tr.goto ?_ | refine Tr.ret ?_ | refine n1 ?_ | refine n2 ?_ | refine n3 ?_ | refine n4 ?_ | refine n5 ?_ | refine n6 ?_ | refine n7 ?_ | refine n8 ?_ | refine n9 (by decide) ?_))
  refine Tr.cond rfl (fun h0 => ?_) (fun h0 => ?_)
  · cases h0
  clear h0
  refine Tr.le (Le.keep [1, 2]) ?_; simp only [List.map_cons, List.map_nil, lk, Nat.reduceEqDiff, reduceIte]
  refine Tr.le (Le.ren 2 1000 (by rw [hpn] <;> rfl) rfl rfl) ?_; simp only [renT, renH, renO, renS, renL, rn, go_sem, hP, hn]
  refine Tr.skip ?_
  refine n1 ?_
  refine Tr.seq ?_
  refine Tr.meet (fun s => (rWeighs n.k = false ∧ ¬ (n.k = 3 ∨ n.k = 5) ∧ ¬ (n.k = 4 ∨ n.k = 12) ∧ ¬ n.k = 7 ∧ ¬ n.k = 9 ∧ ¬ n.k = 10 ∧ ¬ n.k = 11) ∧ s = ⟨[(1, .d (frD fs))], []⟩) ?_ ?_
  rotate_left
  · (repeat (first | refine Tr.seq ?_ | refine Tr.skip ?_ | refine Tr.label ?_ | refine Tr.block ?_ | refine Tr.scope ?_ | refine gs1 ?_ | refine gs2 ?_ | refine gs3 ?_ | refine Tr.exit ?_ | refine Tr.goto ?_ | refine Tr.ret ?_ | refine n1 ?_ | refine n2 ?_ | refine n3 ?_ | refine n4 ?_ | refine n5 ?_ | refine n6 ?_ | refine n7 ?_ | refine n8 ?_ | refine n9 (by decide) ?_))
    (first | refine r1 ?_ | refine r2 ?_ | refine r3 ?_); intro K hK; simp only [go_sem, hP, hn]; (repeat (refine ⟨by first | trivial | omega | (simp <;> omega) | (simp +contextual; done) | (clear hK; grind), ?_⟩)); refine hK _ ?_; clear K hK
    refine Tr.le (Le.keep [1, 2, 13]) ?_; simp only [List.map_cons, List.map_nil, lk, Nat.reduceEqDiff, reduceIte]
    refine Tr.block ?_
    refine Tr.seq ?_
    refine Tr.meet (fun s => s = ⟨[(1, .d (frD fs)), (2, .ptr 1000 0), (13, .d (.i .i64 n.k)), (14, .d (.b (rWeighs n.k)))], [(1000, .box 27 n.cs)]⟩) ?_ ?_
    rotate_left
    · (repeat (first | refine Tr.seq ?_ | refine Tr.skip ?_ | refine Tr.label ?_ | refine Tr.block ?_ | refine Tr.scope ?_ | refine gs1 ?_ | refine gs2 ?_ | refine gs3 ?_ | refine Tr.exit ?_ | refine Tr.goto ?_ | refine Tr.ret ?_ | refine n1 ?_ | refine n2 ?_ | refine n3 ?_ | refine n4 ?_ | refine n5 ?_ | refine n6 ?_ | refine n7 ?_ | refine n8 ?_ | refine n9 (by decide) ?_))
      (first | refine r1 ?_ | refine r2 ?_ | refine r3 ?_); intro K hK; simp only [go_sem, hP, hn]; (repeat (refine ⟨by first | trivial | omega | (simp <;> omega) | (simp +contextual; done) | (clear hK; grind), ?_⟩)); refine hK _ ?_; clear K hK
      (repeat (first | refine Tr.seq ?_ | refine Tr.skip ?_ | refine Tr.label ?_ | refine Tr.block ?_ | refine Tr.scope ?_ | refine gs1 ?_ | refine gs2 ?_ | refine gs3 ?_ | refine Tr.exit ?_ | refine Tr.goto ?_ | refine Tr.ret ?_ | refine n1 ?_ | refine n2 ?_ | refine n3 ?_ | refine n4 ?_ | refine n5 ?_ | refine n6 ?_ | refine n7 ?_ | refine n8 ?_ | refine n9 (by decide) ?_))
      refine Tr.cond rfl (fun h1 => ?_) (fun h1 => ?_)
      · rw [h1, show rWeighs n.k = true by unfold rWeighs; rw [h1]; rfl]
        (repeat (first | refine Tr.seq ?_ | refine Tr.skip ?_ | refine Tr.label ?_ | refine Tr.block ?_ | refine Tr.scope ?_ | refine gs1 ?_ | refine gs2 ?_ | refine gs3 ?_ | refine Tr.exit ?_ | refine Tr.goto ?_ | refine Tr.ret ?_ | refine n1 ?_ | refine n2 ?_ | refine n3 ?_ | refine n4 ?_ | refine n5 ?_ | refine n6 ?_ | refine n7 ?_ | refine n8 ?_ | refine n9 (by decide) ?_))
        exact ⟨_, (Le.mv (by simp only [go_sem, hP, hn]; first | done | (simp; done) | (simp [intC]; done) | (repeat (first | rfl | constructor))) (by simp only [go_sem, hP, hn]; first | done | (simp; done) | (simp [intC]; done) | (repeat (first | rfl | constructor)))), rfl⟩
      (repeat (first | refine Tr.seq ?_ | refine Tr.skip ?_ | refine Tr.label ?_ | refine Tr.block ?_ | refine Tr.scope ?_ | refine gs1 ?_ | refine gs2 ?_ | refine gs3 ?_ | refine Tr.exit ?_ | refine Tr.goto ?_ | refine Tr.ret ?_ | refine n1 ?_ | refine n2 ?_ | refine n3 ?_ | refine n4 ?_ | refine n5 ?_ | refine n6 ?_ | refine n7 ?_ | refine n8 ?_ | refine n9 (by decide) ?_))
      (first | refine r1 ?_ | refine r2 ?_ | refine r3 ?_); intro K hK; simp only [go_sem, hP, hn]; (repeat (refine ⟨by first | trivial | omega | (simp <;> omega) | (simp +contextual; done) | (clear hK; grind), ?_⟩)); refine hK _ ?_; clear K hK
      (repeat (first | refine Tr.seq ?_ | refine Tr.skip ?_ | refine Tr.label ?_ | refine Tr.block ?_ | refine Tr.scope ?_ | refine gs1 ?_ | refine gs2 ?_ | refine gs3 ?_ | refine Tr.exit ?_ | refine Tr.goto ?_ | refine Tr.ret ?_ | refine n1 ?_ | refine n2 ?_ | refine n3 ?_ | refine n4 ?_ | refine n5 ?_ | refine n6 ?_ | refine n7 ?_ | refine n8 ?_ | refine n9 (by decide) ?_))
      refine Tr.cond rfl (fun h2 => ?_) (fun h2 => ?_)
      · rw [h2, show rWeighs n.k = true by unfold rWeighs; rw [h2, Bool.or_true]; rfl]
        (repeat (first | refine Tr.seq ?_ | refine Tr.skip ?_ | refine Tr.label ?_ | refine Tr.block ?_ | refine Tr.scope ?_ | refine gs1 ?_ | refine gs2 ?_ | refine gs3 ?_ | refine Tr.exit ?_ | refine Tr.goto ?_ | refine Tr.ret ?_ | refine n1 ?_ | refine n2 ?_ | refine n3 ?_ | refine n4 ?_ | refine n5 ?_ | refine n6 ?_ | refine n7 ?_ | refine n8 ?_ | refine n9 (by decide) ?_))
        exact ⟨_, (Le.mv (by simp only [go_sem, hP, hn]; first | done | (simp; done) | (simp [intC]; done) | (repeat (first | rfl | constructor))) (by simp only [go_sem, hP, hn]; first | done | (simp; done) | (simp [intC]; done) | (repeat (first | rfl | constructor)))), rfl⟩
      (repeat (first | refine Tr.seq ?_ | refine Tr.skip ?_ | refine Tr.label ?_ | refine Tr.block ?_ | refine Tr.scope ?_ | refine gs1 ?_ | refine gs2 ?_ | refine gs3 ?_ | refine Tr.exit ?_ | refine Tr.goto ?_ | refine Tr.ret ?_ | refine n1 ?_ | refine n2 ?_ | refine n3 ?_ | refine n4 ?_ | refine n5 ?_ | refine n6 ?_ | refine n7 ?_ | refine n8 ?_ | refine n9 (by decide) ?_))
      (first | refine r1 ?_ | refine r2 ?_ | refine r3 ?_); intro K hK; simp only [go_sem, hP, hn]; (repeat (refine ⟨by first | trivial | omega | (simp <;> omega) | (simp +contextual; done) | (clear hK; grind), ?_⟩)); refine hK _ ?_; clear K hK
      (repeat (first | refine Tr.seq ?_ | refine Tr.skip ?_ | refine Tr.label ?_ | refine Tr.block ?_ | refine Tr.scope ?_ | refine gs1 ?_ | refine gs2 ?_ | refine gs3 ?_ | refine Tr.exit ?_ | refine Tr.goto ?_ | refine Tr.ret ?_ | refine n1 ?_ | refine n2 ?_ | refine n3 ?_ | refine n4 ?_ | refine n5 ?_ | refine n6 ?_ | refine n7 ?_ | refine n8 ?_ | refine n9 (by decide) ?_))
      rw [show rWeighs n.k = (n.k == 6) by unfold rWeighs; rw [h1, h2]; rfl]
      exact ⟨_, (Le.mv (by simp only [go_sem, hP, hn]; first | done | (simp; done) | (simp [intC]; done) | (repeat (first | rfl | constructor))) (by simp only [go_sem, hP, hn]; first | done | (simp; done) | (simp [intC]; done) | (repeat (first | rfl | constructor)))), rfl⟩
    rintro s rfl
    (repeat (first | refine Tr.seq ?_ | refine Tr.skip ?_ | refine Tr.label ?_ | refine Tr.block ?_ | refine Tr.scope ?_ | refine gs1 ?_ | refine gs2 ?_ | refine gs3 ?_ | refine Tr.exit ?_ | refine Tr.goto ?_ | refine Tr.ret ?_ | refine n1 ?_ | refine n2 ?_ | refine n3 ?_ | refine n4 ?_ | refine n5 ?_ | refine n6 ?_ | refine n7 ?_ | refine n8 ?_ | refine n9 (by decide) ?_))
    refine Tr.cond rfl (fun hw => ?_) (fun hw => ?_)
    · (repeat (first | refine Tr.seq ?_ | refine Tr.skip ?_ | refine Tr.label ?_ | refine Tr.block ?_ | refine Tr.scope ?_ | refine gs1 ?_ | refine gs2 ?_ | refine gs3 ?_ | refine Tr.exit ?_ | refine Tr.goto ?_ | refine Tr.ret ?_ | refine n1 ?_ | refine n2 ?_ | refine n3 ?_ | refine n4 ?_ | refine n5 ?_ | refine n6 ?_ | refine n7 ?_ | refine n8 ?_ | refine n9 (by decide) ?_))
      (first | refine r1 ?_ | refine r2 ?_ | refine r3 ?_); intro K hK; simp only [go_sem, hP, hn]
      (repeat (refine ⟨by first | trivial | omega | (simp <;> omega) | (simp +contextual; done) | (clear hK; grind), ?_⟩))
      refine CallN_cx (Hi := []) (by rw [hP, hT]; exact weighed_c Tk.m n fs w (h.wok hw) ) rfl rfl rfl trivial (by simp only [go_sem, hP, hn]; try trivial) (by simp only [go_sem, hP, hn]; try rfl) trivial (by rw [hn]; decide) (fun r Ho hr => ?_); obtain  ⟨rfl, rfl⟩ := hr; refine ⟨fun k _ => hpn k rfl, ?_⟩; simp only [cgS, newK, touK, go_sem, hP, hn]; (repeat (refine ⟨by first | trivial | omega | (simp <;> omega) | (simp +contextual; done) | (clear hK; grind), ?_⟩))
      refine hK _ ?_; clear K hK
      (repeat (first | ((first | refine r1 ?_ | refine r2 ?_ | refine r3 ?_); intro K hK; simp only [go_sem, hP, hn]; (repeat (refine ⟨by first | trivial | omega | (simp <;> omega) | (simp +contextual; done) | (clear hK; grind), ?_⟩)); refine hK _ ?_; clear K hK) | refine Tr.seq ?_ | refine Tr.skip ?_ | refine Tr.label ?_ | refine Tr.block ?_ | refine Tr.scope ?_ | refine gs1 ?_ | refine gs2 ?_ | refine gs3 ?_ | refine Tr.exit ?_ | refine Tr.goto ?_ | refine Tr.ret ?_ | refine n1 ?_ | refine n2 ?_ | refine n3 ?_ | refine n4 ?_ | refine n5 ?_ | refine n6 ?_ | refine n7 ?_ | refine n8 ?_ | refine n9 (by decide) ?_))
      simp only [RetG, go_sem]; (repeat (with_reducible refine And.intro ?_ ?_; (· first | trivial | omega | (simp <;> omega) | (simp +contextual; done) | (clear hK; grind))))
      unfold frameV
      rw [if_pos hw]
    refine Tr.seq ?_
    refine Tr.meet (fun s => s = ⟨[(1, .d (frD fs)), (2, .ptr 1000 0), (13, .d (.i .i64 n.k)), (21, .d (.b (n.k == 3 || n.k == 5)))], [(1000, .box 27 n.cs)]⟩) ?_ ?_
    rotate_left
    · (repeat (first | refine Tr.seq ?_ | refine Tr.skip ?_ | refine Tr.label ?_ | refine Tr.block ?_ | refine Tr.scope ?_ | refine gs1 ?_ | refine gs2 ?_ | refine gs3 ?_ | refine Tr.exit ?_ | refine Tr.goto ?_ | refine Tr.ret ?_ | refine n1 ?_ | refine n2 ?_ | refine n3 ?_ | refine n4 ?_ | refine n5 ?_ | refine n6 ?_ | refine n7 ?_ | refine n8 ?_ | refine n9 (by decide) ?_))
      (first | refine r1 ?_ | refine r2 ?_ | refine r3 ?_); intro K hK; simp only [go_sem, hP, hn]; (repeat (refine ⟨by first | trivial | omega | (simp <;> omega) | (simp +contextual; done) | (clear hK; grind), ?_⟩)); refine hK _ ?_; clear K hK
      (repeat (first | refine Tr.seq ?_ | refine Tr.skip ?_ | refine Tr.label ?_ | refine Tr.block ?_ | refine Tr.scope ?_ | refine gs1 ?_ | refine gs2 ?_ | refine gs3 ?_ | refine Tr.exit ?_ | refine Tr.goto ?_ | refine Tr.ret ?_ | refine n1 ?_ | refine n2 ?_ | refine n3 ?_ | refine n4 ?_ | refine n5 ?_ | refine n6 ?_ | refine n7 ?_ | refine n8 ?_ | refine n9 (by decide) ?_))
      refine Tr.cond rfl (fun h1 => ?_) (fun h1 => ?_)
      · rw [h1, Bool.true_or]
        (repeat (first | refine Tr.seq ?_ | refine Tr.skip ?_ | refine Tr.label ?_ | refine Tr.block ?_ | refine Tr.scope ?_ | refine gs1 ?_ | refine gs2 ?_ | refine gs3 ?_ | refine Tr.exit ?_ | refine Tr.goto ?_ | refine Tr.ret ?_ | refine n1 ?_ | refine n2 ?_ | refine n3 ?_ | refine n4 ?_ | refine n5 ?_ | refine n6 ?_ | refine n7 ?_ | refine n8 ?_ | refine n9 (by decide) ?_))
        exact ⟨_, (Le.mv (by simp only [go_sem, hP, hn]; first | done | (simp; done) | (simp [intC]; done) | (repeat (first | rfl | constructor))) (by simp only [go_sem, hP, hn]; first | done | (simp; done) | (simp [intC]; done) | (repeat (first | rfl | constructor)))), rfl⟩
      (repeat (first | refine Tr.seq ?_ | refine Tr.skip ?_ | refine Tr.label ?_ | refine Tr.block ?_ | refine Tr.scope ?_ | refine gs1 ?_ | refine gs2 ?_ | refine gs3 ?_ | refine Tr.exit ?_ | refine Tr.goto ?_ | refine Tr.ret ?_ | refine n1 ?_ | refine n2 ?_ | refine n3 ?_ | refine n4 ?_ | refine n5 ?_ | refine n6 ?_ | refine n7 ?_ | refine n8 ?_ | refine n9 (by decide) ?_))
      (first | refine r1 ?_ | refine r2 ?_ | refine r3 ?_); intro K hK; simp only [go_sem, hP, hn]; (repeat (refine ⟨by first | trivial | omega | (simp <;> omega) | (simp +contextual; done) | (clear hK; grind), ?_⟩)); refine hK _ ?_; clear K hK
      (repeat (first | refine Tr.seq ?_ | refine Tr.skip ?_ | refine Tr.label ?_ | refine Tr.block ?_ | refine Tr.scope ?_ | refine gs1 ?_ | refine gs2 ?_ | refine gs3 ?_ | refine Tr.exit ?_ | refine Tr.goto ?_ | refine Tr.ret ?_ | refine n1 ?_ | refine n2 ?_ | refine n3 ?_ | refine n4 ?_ | refine n5 ?_ | refine n6 ?_ | refine n7 ?_ | refine n8 ?_ | refine n9 (by decide) ?_))
      rw [h1, Bool.false_or]
      exact ⟨_, (Le.mv (by simp only [go_sem, hP, hn]; first | done | (simp; done) | (simp [intC]; done) | (repeat (first | rfl | constructor))) (by simp only [go_sem, hP, hn]; first | done | (simp; done) | (simp [intC]; done) | (repeat (first | rfl | constructor)))), rfl⟩
    rintro s rfl
    (repeat (first | refine Tr.seq ?_ | refine Tr.skip ?_ | refine Tr.label ?_ | refine Tr.block ?_ | refine Tr.scope ?_ | refine gs1 ?_ | refine gs2 ?_ | refine gs3 ?_ | refine Tr.exit ?_ | refine Tr.goto ?_ | refine Tr.ret ?_ | refine n1 ?_ | refine n2 ?_ | refine n3 ?_ | refine n4 ?_ | refine n5 ?_ | refine n6 ?_ | refine n7 ?_ | refine n8 ?_ | refine n9 (by decide) ?_))
    refine Tr.cond rfl (fun h3 => ?_) (fun h3 => ?_)
    · (repeat (first | refine Tr.seq ?_ | refine Tr.skip ?_ | refine Tr.label ?_ | refine Tr.block ?_ | refine Tr.scope ?_ | refine gs1 ?_ | refine gs2 ?_ | refine gs3 ?_ | refine Tr.exit ?_ | refine Tr.goto ?_ | refine Tr.ret ?_ | refine n1 ?_ | refine n2 ?_ | refine n3 ?_ | refine n4 ?_ | refine n5 ?_ | refine n6 ?_ | refine n7 ?_ | refine n8 ?_ | refine n9 (by decide) ?_))
      (first | refine r1 ?_ | refine r2 ?_ | refine r3 ?_); intro K hK; simp only [go_sem, hP, hn]
      (repeat (refine ⟨by first | trivial | omega | (simp <;> omega) | (simp +contextual; done) | (clear hK; grind), ?_⟩))
      refine CallN_cx (Hi := []) (by rw [hP, hT]; exact eachA_c Tk.m fs w (fun xs => rd xs (mostV xs)) 32 hA (by omega) h.len (fun k k0 k1 => F1_c Tk.m (col fs k) (by rw [col_len]; omega) (by rw [col_len]; omega)) ) rfl rfl rfl trivial (by simp only [go_sem, hP, hn]; try trivial) (by simp only [go_sem, hP, hn]; try rfl) trivial (by rw [hn]; decide) (fun r Ho hr => ?_); obtain  ⟨rfl, rfl⟩ := hr; refine ⟨fun k _ => hpn k rfl, ?_⟩; simp only [cgS, newK, touK, go_sem, hP, hn]; (repeat (refine ⟨by first | trivial | omega | (simp <;> omega) | (simp +contextual; done) | (clear hK; grind), ?_⟩))
      refine hK _ ?_; clear K hK
      (repeat (first | ((first | refine r1 ?_ | refine r2 ?_ | refine r3 ?_); intro K hK; simp only [go_sem, hP, hn]; (repeat (refine ⟨by first | trivial | omega | (simp <;> omega) | (simp +contextual; done) | (clear hK; grind), ?_⟩)); refine hK _ ?_; clear K hK) | refine Tr.seq ?_ | refine Tr.skip ?_ | refine Tr.label ?_ | refine Tr.block ?_ | refine Tr.scope ?_ | refine gs1 ?_ | refine gs2 ?_ | refine gs3 ?_ | refine Tr.exit ?_ | refine Tr.goto ?_ | refine Tr.ret ?_ | refine n1 ?_ | refine n2 ?_ | refine n3 ?_ | refine n4 ?_ | refine n5 ?_ | refine n6 ?_ | refine n7 ?_ | refine n8 ?_ | refine n9 (by decide) ?_))
      simp only [RetG, go_sem]; (repeat (with_reducible refine And.intro ?_ ?_; (· first | trivial | omega | (simp <;> omega) | (simp +contextual; done) | (clear hK; grind))))
      unfold frameV
      rw [if_neg (by rw [hw]; decide), if_pos (by simpa using h3)]
    refine Tr.seq ?_
    refine Tr.meet (fun s => s = ⟨[(1, .d (frD fs)), (2, .ptr 1000 0), (13, .d (.i .i64 n.k)), (26, .d (.b (n.k == 4 || n.k == 12)))], [(1000, .box 27 n.cs)]⟩) ?_ ?_
    rotate_left
    · (repeat (first | refine Tr.seq ?_ | refine Tr.skip ?_ | refine Tr.label ?_ | refine Tr.block ?_ | refine Tr.scope ?_ | refine gs1 ?_ | refine gs2 ?_ | refine gs3 ?_ | refine Tr.exit ?_ | refine Tr.goto ?_ | refine Tr.ret ?_ | refine n1 ?_ | refine n2 ?_ | refine n3 ?_ | refine n4 ?_ | refine n5 ?_ | refine n6 ?_ | refine n7 ?_ | refine n8 ?_ | refine n9 (by decide) ?_))
      (first | refine r1 ?_ | refine r2 ?_ | refine r3 ?_); intro K hK; simp only [go_sem, hP, hn]; (repeat (refine ⟨by first | trivial | omega | (simp <;> omega) | (simp +contextual; done) | (clear hK; grind), ?_⟩)); refine hK _ ?_; clear K hK
      (repeat (first | refine Tr.seq ?_ | refine Tr.skip ?_ | refine Tr.label ?_ | refine Tr.block ?_ | refine Tr.scope ?_ | refine gs1 ?_ | refine gs2 ?_ | refine gs3 ?_ | refine Tr.exit ?_ | refine Tr.goto ?_ | refine Tr.ret ?_ | refine n1 ?_ | refine n2 ?_ | refine n3 ?_ | refine n4 ?_ | refine n5 ?_ | refine n6 ?_ | refine n7 ?_ | refine n8 ?_ | refine n9 (by decide) ?_))
      refine Tr.cond rfl (fun h1 => ?_) (fun h1 => ?_)
      · rw [h1, Bool.true_or]
        (repeat (first | refine Tr.seq ?_ | refine Tr.skip ?_ | refine Tr.label ?_ | refine Tr.block ?_ | refine Tr.scope ?_ | refine gs1 ?_ | refine gs2 ?_ | refine gs3 ?_ | refine Tr.exit ?_ | refine Tr.goto ?_ | refine Tr.ret ?_ | refine n1 ?_ | refine n2 ?_ | refine n3 ?_ | refine n4 ?_ | refine n5 ?_ | refine n6 ?_ | refine n7 ?_ | refine n8 ?_ | refine n9 (by decide) ?_))
        exact ⟨_, (Le.mv (by simp only [go_sem, hP, hn]; first | done | (simp; done) | (simp [intC]; done) | (repeat (first | rfl | constructor))) (by simp only [go_sem, hP, hn]; first | done | (simp; done) | (simp [intC]; done) | (repeat (first | rfl | constructor)))), rfl⟩
      (repeat (first | refine Tr.seq ?_ | refine Tr.skip ?_ | refine Tr.label ?_ | refine Tr.block ?_ | refine Tr.scope ?_ | refine gs1 ?_ | refine gs2 ?_ | refine gs3 ?_ | refine Tr.exit ?_ | refine Tr.goto ?_ | refine Tr.ret ?_ | refine n1 ?_ | refine n2 ?_ | refine n3 ?_ | refine n4 ?_ | refine n5 ?_ | refine n6 ?_ | refine n7 ?_ | refine n8 ?_ | refine n9 (by decide) ?_))
      (first | refine r1 ?_ | refine r2 ?_ | refine r3 ?_); intro K hK; simp only [go_sem, hP, hn]; (repeat (refine ⟨by first | trivial | omega | (simp <;> omega) | (simp +contextual; done) | (clear hK; grind), ?_⟩)); refine hK _ ?_; clear K hK
      (repeat (first | refine Tr.seq ?_ | refine Tr.skip ?_ | refine Tr.label ?_ | refine Tr.block ?_ | refine Tr.scope ?_ | refine gs1 ?_ | refine gs2 ?_ | refine gs3 ?_ | refine Tr.exit ?_ | refine Tr.goto ?_ | refine Tr.ret ?_ | refine n1 ?_ | refine n2 ?_ | refine n3 ?_ | refine n4 ?_ | refine n5 ?_ | refine n6 ?_ | refine n7 ?_ | refine n8 ?_ | refine n9 (by decide) ?_))
      rw [h1, Bool.false_or]
      exact ⟨_, (Le.mv (by simp only [go_sem, hP, hn]; first | done | (simp; done) | (simp [intC]; done) | (repeat (first | rfl | constructor))) (by simp only [go_sem, hP, hn]; first | done | (simp; done) | (simp [intC]; done) | (repeat (first | rfl | constructor)))), rfl⟩
    rintro s rfl
    (repeat (first | refine Tr.seq ?_ | refine Tr.skip ?_ | refine Tr.label ?_ | refine Tr.block ?_ | refine Tr.scope ?_ | refine gs1 ?_ | refine gs2 ?_ | refine gs3 ?_ | refine Tr.exit ?_ | refine Tr.goto ?_ | refine Tr.ret ?_ | refine n1 ?_ | refine n2 ?_ | refine n3 ?_ | refine n4 ?_ | refine n5 ?_ | refine n6 ?_ | refine n7 ?_ | refine n8 ?_ | refine n9 (by decide) ?_))
    have h3' : ¬ (n.k = 3 ∨ n.k = 5) := by simpa using h3
    clear h3
    have hw' : ¬ rWeighs n.k = true := by rw [hw]; decide
    refine Tr.cond rfl (fun h4 => ?_) (fun h4 => ?_)
    · (repeat (first | refine Tr.seq ?_ | refine Tr.skip ?_ | refine Tr.label ?_ | refine Tr.block ?_ | refine Tr.scope ?_ | refine gs1 ?_ | refine gs2 ?_ | refine gs3 ?_ | refine Tr.exit ?_ | refine Tr.goto ?_ | refine Tr.ret ?_ | refine n1 ?_ | refine n2 ?_ | refine n3 ?_ | refine n4 ?_ | refine n5 ?_ | refine n6 ?_ | refine n7 ?_ | refine n8 ?_ | refine n9 (by decide) ?_))
      (first | refine r1 ?_ | refine r2 ?_ | refine r3 ?_); intro K hK; simp only [go_sem, hP, hn]
      (repeat (refine ⟨by first | trivial | omega | (simp <;> omega) | (simp +contextual; done) | (clear hK; grind), ?_⟩))
      refine CallN_cx (Hi := []) (by rw [hP, hT]; exact eachA_c Tk.m fs w meanV 34 hA (by omega) h.len (fun k k0 k1 => F2_c Tk.m (col fs k) (by rw [col_len]; omega) (by rw [col_len]; omega) (h.col k0 k1)) ) rfl rfl rfl trivial (by simp only [go_sem, hP, hn]; try trivial) (by simp only [go_sem, hP, hn]; try rfl) trivial (by rw [hn]; decide) (fun r Ho hr => ?_); obtain  ⟨rfl, rfl⟩ := hr; refine ⟨fun k _ => hpn k rfl, ?_⟩; simp only [cgS, newK, touK, go_sem, hP, hn]; (repeat (refine ⟨by first | trivial | omega | (simp <;> omega) | (simp +contextual; done) | (clear hK; grind), ?_⟩))
      refine hK _ ?_; clear K hK
      (repeat (first | ((first | refine r1 ?_ | refine r2 ?_ | refine r3 ?_); intro K hK; simp only [go_sem, hP, hn]; (repeat (refine ⟨by first | trivial | omega | (simp <;> omega) | (simp +contextual; done) | (clear hK; grind), ?_⟩)); refine hK _ ?_; clear K hK) | refine Tr.seq ?_ | refine Tr.skip ?_ | refine Tr.label ?_ | refine Tr.block ?_ | refine Tr.scope ?_ | refine gs1 ?_ | refine gs2 ?_ | refine gs3 ?_ | refine Tr.exit ?_ | refine Tr.goto ?_ | refine Tr.ret ?_ | refine n1 ?_ | refine n2 ?_ | refine n3 ?_ | refine n4 ?_ | refine n5 ?_ | refine n6 ?_ | refine n7 ?_ | refine n8 ?_ | refine n9 (by decide) ?_))
      simp only [RetG, go_sem]; (repeat (with_reducible refine And.intro ?_ ?_; (· first | trivial | omega | (simp <;> omega) | (simp +contextual; done) | (clear hK; grind))))
      unfold frameV
      rw [if_neg hw', if_neg h3', if_pos (by simpa using h4)]
    have h4' : ¬ (n.k = 4 ∨ n.k = 12) := by simpa using h4
    clear h4
    (repeat (first | refine Tr.seq ?_ | refine Tr.skip ?_ | refine Tr.label ?_ | refine Tr.block ?_ | refine Tr.scope ?_ | refine gs1 ?_ | refine gs2 ?_ | refine gs3 ?_ | refine Tr.exit ?_ | refine Tr.goto ?_ | refine Tr.ret ?_ | refine n1 ?_ | refine n2 ?_ | refine n3 ?_ | refine n4 ?_ | refine n5 ?_ | refine n6 ?_ | refine n7 ?_ | refine n8 ?_ | refine n9 (by decide) ?_))
    (first | refine r1 ?_ | refine r2 ?_ | refine r3 ?_); intro K hK; simp only [go_sem, hP, hn]; (repeat (refine ⟨by first | trivial | omega | (simp <;> omega) | (simp +contextual; done) | (clear hK; grind), ?_⟩)); refine hK _ ?_; clear K hK
    (repeat (first | refine Tr.seq ?_ | refine Tr.skip ?_ | refine Tr.label ?_ | refine Tr.block ?_ | refine Tr.scope ?_ | refine gs1 ?_ | refine gs2 ?_ | refine gs3 ?_ | refine Tr.exit ?_ | refine Tr.goto ?_ | refine Tr.ret ?_ | refine n1 ?_ | refine n2 ?_ | refine n3 ?_ | refine n4 ?_ | refine n5 ?_ | refine n6 ?_ | refine n7 ?_ | refine n8 ?_ | refine n9 (by decide) ?_))
    refine Tr.cond rfl (fun h7 => ?_) (fun h7 => ?_)
    · (repeat (first | refine Tr.seq ?_ | refine Tr.skip ?_ | refine Tr.label ?_ | refine Tr.block ?_ | refine Tr.scope ?_ | refine gs1 ?_ | refine gs2 ?_ | refine gs3 ?_ | refine Tr.exit ?_ | refine Tr.goto ?_ | refine Tr.ret ?_ | refine n1 ?_ | refine n2 ?_ | refine n3 ?_ | refine n4 ?_ | refine n5 ?_ | refine n6 ?_ | refine n7 ?_ | refine n8 ?_ | refine n9 (by decide) ?_))
      (first | refine r1 ?_ | refine r2 ?_ | refine r3 ?_); intro K hK; simp only [go_sem, hP, hn]
      (repeat (refine ⟨by first | trivial | omega | (simp <;> omega) | (simp +contextual; done) | (clear hK; grind), ?_⟩))
      refine CallN_cx (Hi := []) (by rw [hP, hT]; exact eachA_c Tk.m fs w addV 36 hA (by omega) h.len (fun k k0 k1 => F3_c Tk.m (col fs k) (by rw [col_len]; omega) (h.col k0 k1)) ) rfl rfl rfl trivial (by simp only [go_sem, hP, hn]; try trivial) (by simp only [go_sem, hP, hn]; try rfl) trivial (by rw [hn]; decide) (fun r Ho hr => ?_); obtain  ⟨rfl, rfl⟩ := hr; refine ⟨fun k _ => hpn k rfl, ?_⟩; simp only [cgS, newK, touK, go_sem, hP, hn]; (repeat (refine ⟨by first | trivial | omega | (simp <;> omega) | (simp +contextual; done) | (clear hK; grind), ?_⟩))
      refine hK _ ?_; clear K hK
      (repeat (first | ((first | refine r1 ?_ | refine r2 ?_ | refine r3 ?_); intro K hK; simp only [go_sem, hP, hn]; (repeat (refine ⟨by first | trivial | omega | (simp <;> omega) | (simp +contextual; done) | (clear hK; grind), ?_⟩)); refine hK _ ?_; clear K hK) | refine Tr.seq ?_ | refine Tr.skip ?_ | refine Tr.label ?_ | refine Tr.block ?_ | refine Tr.scope ?_ | refine gs1 ?_ | refine gs2 ?_ | refine gs3 ?_ | refine Tr.exit ?_ | refine Tr.goto ?_ | refine Tr.ret ?_ | refine n1 ?_ | refine n2 ?_ | refine n3 ?_ | refine n4 ?_ | refine n5 ?_ | refine n6 ?_ | refine n7 ?_ | refine n8 ?_ | refine n9 (by decide) ?_))
      simp only [RetG, go_sem]; (repeat (with_reducible refine And.intro ?_ ?_; (· first | trivial | omega | (simp <;> omega) | (simp +contextual; done) | (clear hK; grind))))
      unfold frameV
      rw [if_neg hw', if_neg h3', if_neg h4', if_pos (by simpa using h7)]
    have h7' : ¬ n.k = 7 := by simpa using h7
    clear h7
    (repeat (first | refine Tr.seq ?_ | refine Tr.skip ?_ | refine Tr.label ?_ | refine Tr.block ?_ | refine Tr.scope ?_ | refine gs1 ?_ | refine gs2 ?_ | refine gs3 ?_ | refine Tr.exit ?_ | refine Tr.goto ?_ | refine Tr.ret ?_ | refine n1 ?_ | refine n2 ?_ | refine n3 ?_ | refine n4 ?_ | refine n5 ?_ | refine n6 ?_ | refine n7 ?_ | refine n8 ?_ | refine n9 (by decide) ?_))
    (first | refine r1 ?_ | refine r2 ?_ | refine r3 ?_); intro K hK; simp only [go_sem, hP, hn]; (repeat (refine ⟨by first | trivial | omega | (simp <;> omega) | (simp +contextual; done) | (clear hK; grind), ?_⟩)); refine hK _ ?_; clear K hK
    (repeat (first | refine Tr.seq ?_ | refine Tr.skip ?_ | refine Tr.label ?_ | refine Tr.block ?_ | refine Tr.scope ?_ | refine gs1 ?_ | refine gs2 ?_ | refine gs3 ?_ | refine Tr.exit ?_ | refine Tr.goto ?_ | refine Tr.ret ?_ | refine n1 ?_ | refine n2 ?_ | refine n3 ?_ | refine n4 ?_ | refine n5 ?_ | refine n6 ?_ | refine n7 ?_ | refine n8 ?_ | refine n9 (by decide) ?_))
    refine Tr.cond rfl (fun h9 => ?_) (fun h9 => ?_)
    · (repeat (first | refine Tr.seq ?_ | refine Tr.skip ?_ | refine Tr.label ?_ | refine Tr.block ?_ | refine Tr.scope ?_ | refine gs1 ?_ | refine gs2 ?_ | refine gs3 ?_ | refine Tr.exit ?_ | refine Tr.goto ?_ | refine Tr.ret ?_ | refine n1 ?_ | refine n2 ?_ | refine n3 ?_ | refine n4 ?_ | refine n5 ?_ | refine n6 ?_ | refine n7 ?_ | refine n8 ?_ | refine n9 (by decide) ?_))
      (first | refine r1 ?_ | refine r2 ?_ | refine r3 ?_); intro K hK; simp only [go_sem, hP, hn]
      (repeat (refine ⟨by first | trivial | omega | (simp <;> omega) | (simp +contextual; done) | (clear hK; grind), ?_⟩))
      refine CallN_cx (Hi := [(1000, .box 27 n.cs)] ) (by rw [hP, hT]; exact  eachB_c Tk.m fs w (fun xs => clampV (rd xs 0) n.low n.high) n 38 hA (by omega) h.len (fun k k0 k1 => F4_c Tk.m n (col fs k) (by rw [col_len]; omega)) ) rfl rfl rfl trivial (by simp only [go_sem, hP, hn]; try trivial) (by simp only [go_sem, hP, hn]; try rfl) (by simp only [inH, go_sem, hP, hn]; try simp) (by rw [hn]; decide) (fun r Ho hr => ?_); obtain  ⟨rfl, rfl⟩ := hr; refine ⟨fun k _ => hpn k rfl, ?_⟩; simp only [cgS, newK, touK, go_sem, hP, hn]; (repeat (refine ⟨by first | trivial | omega | (simp <;> omega) | (simp +contextual; done) | (clear hK; grind), ?_⟩))
      refine hK _ ?_; clear K hK
      (repeat (first | ((first | refine r1 ?_ | refine r2 ?_ | refine r3 ?_); intro K hK; simp only [go_sem, hP, hn]; (repeat (refine ⟨by first | trivial | omega | (simp <;> omega) | (simp +contextual; done) | (clear hK; grind), ?_⟩)); refine hK _ ?_; clear K hK) | refine Tr.seq ?_ | refine Tr.skip ?_ | refine Tr.label ?_ | refine Tr.block ?_ | refine Tr.scope ?_ | refine gs1 ?_ | refine gs2 ?_ | refine gs3 ?_ | refine Tr.exit ?_ | refine Tr.goto ?_ | refine Tr.ret ?_ | refine n1 ?_ | refine n2 ?_ | refine n3 ?_ | refine n4 ?_ | refine n5 ?_ | refine n6 ?_ | refine n7 ?_ | refine n8 ?_ | refine n9 (by decide) ?_))
      simp only [RetG, go_sem]; (repeat (with_reducible refine And.intro ?_ ?_; (· first | trivial | omega | (simp <;> omega) | (simp +contextual; done) | (clear hK; grind))))
      unfold frameV
      rw [if_neg hw', if_neg h3', if_neg h4', if_neg h7', if_pos (by simpa using h9)]
    have h9' : ¬ n.k = 9 := by simpa using h9
    clear h9
    (repeat (first | refine Tr.seq ?_ | refine Tr.skip ?_ | refine Tr.label ?_ | refine Tr.block ?_ | refine Tr.scope ?_ | refine gs1 ?_ | refine gs2 ?_ | refine gs3 ?_ | refine Tr.exit ?_ | refine Tr.goto ?_ | refine Tr.ret ?_ | refine n1 ?_ | refine n2 ?_ | refine n3 ?_ | refine n4 ?_ | refine n5 ?_ | refine n6 ?_ | refine n7 ?_ | refine n8 ?_ | refine n9 (by decide) ?_))
    (first | refine r1 ?_ | refine r2 ?_ | refine r3 ?_); intro K hK; simp only [go_sem, hP, hn]; (repeat (refine ⟨by first | trivial | omega | (simp <;> omega) | (simp +contextual; done) | (clear hK; grind), ?_⟩)); refine hK _ ?_; clear K hK
    (repeat (first | refine Tr.seq ?_ | refine Tr.skip ?_ | refine Tr.label ?_ | refine Tr.block ?_ | refine Tr.scope ?_ | refine gs1 ?_ | refine gs2 ?_ | refine gs3 ?_ | refine Tr.exit ?_ | refine Tr.goto ?_ | refine Tr.ret ?_ | refine n1 ?_ | refine n2 ?_ | refine n3 ?_ | refine n4 ?_ | refine n5 ?_ | refine n6 ?_ | refine n7 ?_ | refine n8 ?_ | refine n9 (by decide) ?_))
    refine Tr.cond rfl (fun hx => ?_) (fun hx => ?_)
    · (repeat (first | refine Tr.seq ?_ | refine Tr.skip ?_ | refine Tr.label ?_ | refine Tr.block ?_ | refine Tr.scope ?_ | refine gs1 ?_ | refine gs2 ?_ | refine gs3 ?_ | refine Tr.exit ?_ | refine Tr.goto ?_ | refine Tr.ret ?_ | refine n1 ?_ | refine n2 ?_ | refine n3 ?_ | refine n4 ?_ | refine n5 ?_ | refine n6 ?_ | refine n7 ?_ | refine n8 ?_ | refine n9 (by decide) ?_))
      (first | refine r1 ?_ | refine r2 ?_ | refine r3 ?_); intro K hK; simp only [go_sem, hP, hn]
      (repeat (refine ⟨by first | trivial | omega | (simp <;> omega) | (simp +contextual; done) | (clear hK; grind), ?_⟩))
      refine CallN_cx (Hi := [(1000, .box 27 n.cs)] ) (by rw [hP, hT]; exact  eachB_c Tk.m fs w (fun xs => scaleV (rd xs 0) n.mult n.shift) n 40 hA (by omega) h.len (fun k k0 k1 => F5_c Tk.m n (col fs k) (by rw [col_len]; omega) (h.col k0 k1 _ (rd_mem (by decide) (by rw [col_len]; omega)))) ) rfl rfl rfl trivial (by simp only [go_sem, hP, hn]; try trivial) (by simp only [go_sem, hP, hn]; try rfl) (by simp only [inH, go_sem, hP, hn]; try simp) (by rw [hn]; decide) (fun r Ho hr => ?_); obtain  ⟨rfl, rfl⟩ := hr; refine ⟨fun k _ => hpn k rfl, ?_⟩; simp only [cgS, newK, touK, go_sem, hP, hn]; (repeat (refine ⟨by first | trivial | omega | (simp <;> omega) | (simp +contextual; done) | (clear hK; grind), ?_⟩))
      refine hK _ ?_; clear K hK
      (repeat (first | ((first | refine r1 ?_ | refine r2 ?_ | refine r3 ?_); intro K hK; simp only [go_sem, hP, hn]; (repeat (refine ⟨by first | trivial | omega | (simp <;> omega) | (simp +contextual; done) | (clear hK; grind), ?_⟩)); refine hK _ ?_; clear K hK) | refine Tr.seq ?_ | refine Tr.skip ?_ | refine Tr.label ?_ | refine Tr.block ?_ | refine Tr.scope ?_ | refine gs1 ?_ | refine gs2 ?_ | refine gs3 ?_ | refine Tr.exit ?_ | refine Tr.goto ?_ | refine Tr.ret ?_ | refine n1 ?_ | refine n2 ?_ | refine n3 ?_ | refine n4 ?_ | refine n5 ?_ | refine n6 ?_ | refine n7 ?_ | refine n8 ?_ | refine n9 (by decide) ?_))
      simp only [RetG, go_sem]; (repeat (with_reducible refine And.intro ?_ ?_; (· first | trivial | omega | (simp <;> omega) | (simp +contextual; done) | (clear hK; grind))))
      unfold frameV
      rw [if_neg hw', if_neg h3', if_neg h4', if_neg h7', if_neg h9', if_pos (by simpa using hx)]
    have hx' : ¬ n.k = 10 := by simpa using hx
    clear hx
    (repeat (first | refine Tr.seq ?_ | refine Tr.skip ?_ | refine Tr.label ?_ | refine Tr.block ?_ | refine Tr.scope ?_ | refine gs1 ?_ | refine gs2 ?_ | refine gs3 ?_ | refine Tr.exit ?_ | refine Tr.goto ?_ | refine Tr.ret ?_ | refine n1 ?_ | refine n2 ?_ | refine n3 ?_ | refine n4 ?_ | refine n5 ?_ | refine n6 ?_ | refine n7 ?_ | refine n8 ?_ | refine n9 (by decide) ?_))
    (first | refine r1 ?_ | refine r2 ?_ | refine r3 ?_); intro K hK; simp only [go_sem, hP, hn]; (repeat (refine ⟨by first | trivial | omega | (simp <;> omega) | (simp +contextual; done) | (clear hK; grind), ?_⟩)); refine hK _ ?_; clear K hK
    (repeat (first | refine Tr.seq ?_ | refine Tr.skip ?_ | refine Tr.label ?_ | refine Tr.block ?_ | refine Tr.scope ?_ | refine gs1 ?_ | refine gs2 ?_ | refine gs3 ?_ | refine Tr.exit ?_ | refine Tr.goto ?_ | refine Tr.ret ?_ | refine n1 ?_ | refine n2 ?_ | refine n3 ?_ | refine n4 ?_ | refine n5 ?_ | refine n6 ?_ | refine n7 ?_ | refine n8 ?_ | refine n9 (by decide) ?_))
    refine Tr.cond rfl (fun hb => ?_) (fun hb => ?_)
    · (repeat (first | refine Tr.seq ?_ | refine Tr.skip ?_ | refine Tr.label ?_ | refine Tr.block ?_ | refine Tr.scope ?_ | refine gs1 ?_ | refine gs2 ?_ | refine gs3 ?_ | refine Tr.exit ?_ | refine Tr.goto ?_ | refine Tr.ret ?_ | refine n1 ?_ | refine n2 ?_ | refine n3 ?_ | refine n4 ?_ | refine n5 ?_ | refine n6 ?_ | refine n7 ?_ | refine n8 ?_ | refine n9 (by decide) ?_))
      (first | refine r1 ?_ | refine r2 ?_ | refine r3 ?_); intro K hK; simp only [go_sem, hP, hn]
      rw [show (fs.map frE).getD 0 [.nil] = [.row [.i .i64 0] ((fr fs 0).map intC)] from rw_fr fs 0 (by omega) (by omega)]
      simp only [go_sem, hP, hn]
      (repeat (refine ⟨by first | trivial | omega | (simp <;> omega) | (simp +contextual; done) | (clear hK; grind), ?_⟩))
      refine c1 (by rw [hP, hT]; exact most_c Tk.m (fr fs 0) (by omega) (by omega)) rfl rfl rfl trivial (by simp only [go_sem, hP, hn]; try trivial) (by simp only [go_sem, hP, hn]; try rfl) (by rw [hn]; decide) (by rfl) ?_; simp only [go_sem, hP, hn]; (repeat (refine ⟨by first | trivial | omega | (simp <;> omega) | (simp +contextual; done) | (clear hK; grind), ?_⟩))
      (repeat (refine ⟨by first | trivial | omega | (simp <;> omega) | (simp +contextual; done) | (clear hK; grind), ?_⟩))
      refine hK _ ?_; clear K hK
      refine Tr.le (Le.keep [4]) ?_; simp only [List.map_cons, List.map_nil, lk, Nat.reduceEqDiff, reduceIte]
      refine Tr.le (Le.ren 51 2000 (by rw [hpn] <;> rfl) rfl rfl) ?_; simp only [renT, renH, renO, renS, renL, rn, go_sem, hP, hn]
      (repeat (first | ((first | refine r1 ?_ | refine r2 ?_ | refine r3 ?_); intro K hK; simp only [go_sem, hP, hn]; (repeat (refine ⟨by first | trivial | omega | (simp <;> omega) | (simp +contextual; done) | (clear hK; grind), ?_⟩)); refine hK _ ?_; clear K hK) | refine Tr.seq ?_ | refine Tr.skip ?_ | refine Tr.label ?_ | refine Tr.block ?_ | refine Tr.scope ?_ | refine gs1 ?_ | refine gs2 ?_ | refine gs3 ?_ | refine Tr.exit ?_ | refine Tr.goto ?_ | refine Tr.ret ?_ | refine n1 ?_ | refine n2 ?_ | refine n3 ?_ | refine n4 ?_ | refine n5 ?_ | refine n6 ?_ | refine n7 ?_ | refine n8 ?_ | refine n9 (by decide) ?_))
      simp only [RetG, go_sem]; (repeat (with_reducible refine And.intro ?_ ?_; (· first | trivial | omega | (simp <;> omega) | (simp +contextual; done) | (clear hK; grind))))
      unfold frameV
      rw [if_neg hw', if_neg h3', if_neg h4', if_neg h7', if_neg h9', if_neg hx', if_pos (by simpa using hb)]
      rfl
    have hb' : ¬ n.k = 11 := by simpa using hb
    (repeat (first | refine Tr.seq ?_ | refine Tr.skip ?_ | refine Tr.label ?_ | refine Tr.block ?_ | refine Tr.scope ?_ | refine gs1 ?_ | refine gs2 ?_ | refine gs3 ?_ | refine Tr.exit ?_ | refine Tr.goto ?_ | refine Tr.ret ?_ | refine n1 ?_ | refine n2 ?_ | refine n3 ?_ | refine n4 ?_ | refine n5 ?_ | refine n6 ?_ | refine n7 ?_ | refine n8 ?_ | refine n9 (by decide) ?_))
    exact ⟨_, (Le.mv (by simp only [go_sem, hP, hn]; first | done | (simp; done) | (simp [intC]; done) | (repeat (first | rfl | constructor))) (by simp only [go_sem, hP, hn]; first | done | (simp; done) | (simp [intC]; done) | (repeat (first | rfl | constructor)))), ⟨by simpa using hw, h3', h4', h7', h9', hx', hb'⟩, rfl⟩
  rintro s ⟨⟨hw, h3', h4', h7', h9', hx', hb'⟩, rfl⟩
  have hFv : frameV n fs w = fs.flatten := by
    unfold frameV
    rw [if_neg (by rw [hw]; decide), if_neg h3', if_neg h4', if_neg h7', if_neg h9', if_neg hx', if_neg hb']
  rw [hFv]
  (repeat (first | refine Tr.seq ?_ | refine Tr.skip ?_ | refine Tr.label ?_ | refine Tr.block ?_ | refine Tr.scope ?_ | refine gs1 ?_ | refine gs2 ?_ | refine gs3 ?_ | refine Tr.exit ?_ | refine Tr.goto ?_ | refine Tr.ret ?_ | refine n1 ?_ | refine n2 ?_ | refine n3 ?_ | refine n4 ?_ | refine n5 ?_ | refine n6 ?_ | refine n7 ?_ | refine n8 ?_ | refine n9 (by decide) ?_))
  (first | refine r1 ?_ | refine r2 ?_ | refine r3 ?_); intro K hK; simp only [go_sem, hP, hn]; (repeat (refine ⟨by first | trivial | omega | (simp <;> omega) | (simp +contextual; done) | (clear hK; grind), ?_⟩)); refine hK _ ?_; clear K hK
  refine Tr.le (Le.nilslot 3001 5 3 [.i .i64 0] rfl (by rw [hpn] <;> rfl) rfl rfl) ?_
  (repeat (first | refine Tr.seq ?_ | refine Tr.skip ?_ | refine Tr.label ?_ | refine Tr.block ?_ | refine Tr.scope ?_ | refine gs1 ?_ | refine gs2 ?_ | refine gs3 ?_ | refine Tr.exit ?_ | refine Tr.goto ?_ | refine Tr.ret ?_ | refine n1 ?_ | refine n2 ?_ | refine n3 ?_ | refine n4 ?_ | refine n5 ?_ | refine n6 ?_ | refine n7 ?_ | refine n8 ?_ | refine n9 (by decide) ?_))
  (first | refine r1 ?_ | refine r2 ?_ | refine r3 ?_); intro K hK; simp only [go_sem, hP, hn]; (repeat (refine ⟨by first | trivial | omega | (simp <;> omega) | (simp +contextual; done) | (clear hK; grind), ?_⟩)); refine hK _ ?_; clear K hK
  (repeat (first | refine Tr.seq ?_ | refine Tr.skip ?_ | refine Tr.label ?_ | refine Tr.block ?_ | refine Tr.scope ?_ | refine gs1 ?_ | refine gs2 ?_ | refine gs3 ?_ | refine Tr.exit ?_ | refine Tr.goto ?_ | refine Tr.ret ?_ | refine n1 ?_ | refine n2 ?_ | refine n3 ?_ | refine n4 ?_ | refine n5 ?_ | refine n6 ?_ | refine n7 ?_ | refine n8 ?_ | refine n9 (by decide) ?_))
  refine Tr.le (Le.keep [5, 52, 53, 54]) ?_; simp only [List.map_cons, List.map_nil, lk, Nat.reduceEqDiff, reduceIte]
  refine Tr.loop (fun q s => ∃ (i : Int) (L : List Int), s = ⟨[(5, .own 3001), (52, .d (frD fs)), (53, .d (.i .i64 fs.length)), (54, .d (.i .i64 i))], [(3001, .row 3 [.i .i64 0] (L.map intC))]⟩ ∧ 0 ≤ i ∧ i + q = fs.length ∧ L = (fs.take i.toNat).flatten ∧ L.length ≤ i.toNat * 16) fs.length ⟨_, (Le.mv (by simp only [go_sem, hP, hn]; first | done | (simp; done) | (simp [intC]; done) | (repeat (first | rfl | constructor))) (by simp only [go_sem, hP, hn]; first | done | (simp; done) | (simp [intC]; done) | (repeat (first | rfl | constructor)))), 0, [], rfl, by omega, by omega, rfl, by simp⟩ ?_
  rintro q s ⟨i, L, rfl, i0, iq, hL, hLl⟩
  (repeat (first | refine Tr.seq ?_ | refine Tr.skip ?_ | refine Tr.label ?_ | refine Tr.block ?_ | refine Tr.scope ?_ | refine gs1 ?_ | refine gs2 ?_ | refine gs3 ?_ | refine Tr.exit ?_ | refine Tr.goto ?_ | refine Tr.ret ?_ | refine n1 ?_ | refine n2 ?_ | refine n3 ?_ | refine n4 ?_ | refine n5 ?_ | refine n6 ?_ | refine n7 ?_ | refine n8 ?_ | refine n9 (by decide) ?_))
  (first | refine r1 ?_ | refine r2 ?_ | refine r3 ?_); intro K hK; simp only [go_sem, hP, hn]; (repeat (refine ⟨by first | trivial | omega | (simp <;> omega) | (simp +contextual; done) | (clear hK; grind), ?_⟩)); refine hK _ ?_; clear K hK
  (repeat (first | refine Tr.seq ?_ | refine Tr.skip ?_ | refine Tr.label ?_ | refine Tr.block ?_ | refine Tr.scope ?_ | refine gs1 ?_ | refine gs2 ?_ | refine gs3 ?_ | refine Tr.exit ?_ | refine Tr.goto ?_ | refine Tr.ret ?_ | refine n1 ?_ | refine n2 ?_ | refine n3 ?_ | refine n4 ?_ | refine n5 ?_ | refine n6 ?_ | refine n7 ?_ | refine n8 ?_ | refine n9 (by decide) ?_))
  refine Tr.cond rfl (fun hb => ?_) (fun hb => ?_)
  · have hi : i < fs.length := by simpa using hb
    have hfl := h.len _ (fr_mem i0 hi)
    clear hb
    (repeat (first | refine Tr.seq ?_ | refine Tr.skip ?_ | refine Tr.label ?_ | refine Tr.block ?_ | refine Tr.scope ?_ | refine gs1 ?_ | refine gs2 ?_ | refine gs3 ?_ | refine Tr.exit ?_ | refine Tr.goto ?_ | refine Tr.ret ?_ | refine n1 ?_ | refine n2 ?_ | refine n3 ?_ | refine n4 ?_ | refine n5 ?_ | refine n6 ?_ | refine n7 ?_ | refine n8 ?_ | refine n9 (by decide) ?_))
    (first | refine r1 ?_ | refine r2 ?_ | refine r3 ?_); intro K hK; simp only [go_sem, hP, hn]
    rw [rw_fr fs i i0 hi]
    simp only [go_sem, hP, hn]
    (repeat (refine ⟨by first | trivial | omega | (simp <;> omega) | (simp +contextual; done) | (clear hK; grind), ?_⟩))
    refine hK _ ?_; clear K hK
    (repeat (first | refine Tr.seq ?_ | refine Tr.skip ?_ | refine Tr.label ?_ | refine Tr.block ?_ | refine Tr.scope ?_ | refine gs1 ?_ | refine gs2 ?_ | refine gs3 ?_ | refine Tr.exit ?_ | refine Tr.goto ?_ | refine Tr.ret ?_ | refine n1 ?_ | refine n2 ?_ | refine n3 ?_ | refine n4 ?_ | refine n5 ?_ | refine n6 ?_ | refine n7 ?_ | refine n8 ?_ | refine n9 (by decide) ?_))
    (first | refine r1 ?_ | refine r2 ?_ | refine r3 ?_); intro K hK; simp only [go_sem, hP, hn]; (repeat (refine ⟨by first | trivial | omega | (simp <;> omega) | (simp +contextual; done) | (clear hK; grind), ?_⟩)); refine hK _ ?_; clear K hK
    (repeat (first | refine Tr.seq ?_ | refine Tr.skip ?_ | refine Tr.label ?_ | refine Tr.block ?_ | refine Tr.scope ?_ | refine gs1 ?_ | refine gs2 ?_ | refine gs3 ?_ | refine Tr.exit ?_ | refine Tr.goto ?_ | refine Tr.ret ?_ | refine n1 ?_ | refine n2 ?_ | refine n3 ?_ | refine n4 ?_ | refine n5 ?_ | refine n6 ?_ | refine n7 ?_ | refine n8 ?_ | refine n9 (by decide) ?_))
    (first | refine r1 ?_ | refine r2 ?_ | refine r3 ?_); intro K hK; simp only [go_sem, hP, hn]; (repeat (refine ⟨by first | trivial | omega | (simp <;> omega) | (simp +contextual; done) | (clear hK; grind), ?_⟩)); refine hK _ ?_; clear K hK
    (repeat (first | refine Tr.seq ?_ | refine Tr.skip ?_ | refine Tr.label ?_ | refine Tr.block ?_ | refine Tr.scope ?_ | refine gs1 ?_ | refine gs2 ?_ | refine gs3 ?_ | refine Tr.exit ?_ | refine Tr.goto ?_ | refine Tr.ret ?_ | refine n1 ?_ | refine n2 ?_ | refine n3 ?_ | refine n4 ?_ | refine n5 ?_ | refine n6 ?_ | refine n7 ?_ | refine n8 ?_ | refine n9 (by decide) ?_))
    rw [w64 (x := i + 1) (by omega) (by omega)]
    refine ⟨q - 1, _, by omega, ?_, i + 1, L ++ fr fs i, rfl, by omega, by omega, ?_, by rw [List.length_append]; omega⟩
    · refine Le.trans (b := ⟨[(5, .own 60), (52, .d (frD fs)), (53, .d (.i .i64 fs.length)), (54, .d (.i .i64 (i + 1)))], [(60, .row 3 [.i .i64 0] ((L ++ fr fs i).map intC))]⟩) (Le.mv (by simp only [go_sem, hP, hn]; first | done | (simp; done) | (simp [intC]; done) | (repeat (first | rfl | constructor))) (by simp only [go_sem, hP, hn]; first | done | (simp; done) | (simp [intC]; done) | (repeat (first | rfl | constructor)))) ?_
      refine Le.trans (Le.ren 60 3001 (by rw [hpn] <;> rfl) rfl rfl) ?_; simp only [renT, renH, renO, renS, renL, rn, go_sem, hP, hn]
      exact (Le.mv (by simp only [go_sem, hP, hn]; first | done | (simp; done) | (simp [intC]; done) | (repeat (first | rfl | constructor))) (by simp only [go_sem, hP, hn]; first | done | (simp; done) | (simp [intC]; done) | (repeat (first | rfl | constructor))))
    · have hk : i.toNat < fs.length := by omega
      rw [hL, show (i + 1).toNat = i.toNat + 1 by omega, List.take_succ_eq_append_getElem hk, List.flatten_append]
      unfold fr
      rw [List.getD_eq_getElem?_getD, List.getElem?_eq_getElem hk]
      simp
  · have hi : i = fs.length := by have := of_decide_eq_false hb; omega
    subst hi
    rw [Int.toNat_natCast, List.take_of_length_le (Nat.le_refl _)] at hL
    subst hL
    refine Tr.le (Le.keep [5]) ?_; simp only [List.map_cons, List.map_nil, lk, Nat.reduceEqDiff, reduceIte]
    refine Tr.le (Le.ren 3001 2000 (by rw [hpn] <;> rfl) rfl rfl) ?_; simp only [renT, renH, renO, renS, renL, rn, go_sem, hP, hn]
    (repeat (first | ((first | refine r1 ?_ | refine r2 ?_ | refine r3 ?_); intro K hK; simp only [go_sem, hP, hn]; (repeat (refine ⟨by first | trivial | omega | (simp <;> omega) | (simp +contextual; done) | (clear hK; grind), ?_⟩)); refine hK _ ?_; clear K hK) | refine Tr.seq ?_ | refine Tr.skip ?_ | refine Tr.label ?_ | refine Tr.block ?_ | refine Tr.scope ?_ | refine gs1 ?_ | refine gs2 ?_ | refine gs3 ?_ | refine Tr.exit ?_ | refine Tr.goto ?_ | refine Tr.ret ?_ | refine n1 ?_ | refine n2 ?_ | refine n3 ?_ | refine n4 ?_ | refine n5 ?_ | refine n6 ?_ | refine n7 ?_ | refine n8 ?_ | refine n9 (by decide) ?_))
    simp only [RetG, go_sem]; (repeat (with_reducible refine And.intro ?_ ?_; (· first | trivial | omega | (simp <;> omega) | (simp +contextual; done) | (clear hK; grind))))
end
end Go.Proofs.YtgijboakaodcgaaDoor.Aw
namespace Go.Proofs.YtgijboakaodcgaaDoor.Aw
open Go.RowKit
/-! an operation that stands where a call may stand; a value whose nils are rows of none -/
section
variable {E : Env} {ops : List Oper} {o : Oper} {s : St} {rest : List Oper} {K : St → Prop} {d : Nat}
theorem CallN_le {s' : St} (hl : Le E s s') (h : CallN E ops o none s' rest K) : CallN E ops o none s rest K := fun _ hg Q a w η hR hK =>
  let ⟨η', hR'⟩ := hl a w η hR
  h (fun g e => by cases e) hg Q a w η' hR' hK
theorem Le.wagg (i : Nat) {cs : List S} (cs' : List S) (hi : lk s.t i = .agg cs) (h : wk cs cs') : Le E s ⟨(i, .agg cs') :: s.t, s.h⟩ := fun a w η hR => ⟨η, hR.sz, hR.df, fun j => by
  show RS η _ w (lk ((i, .agg cs') :: s.t) j) _
  simp only [lk]
  by_cases e : i = j
  · subst e
    rw [if_pos rfl]
    have := hR.tm i
    rw [hi] at this
    simp only [RS] at this ⊢
    obtain ⟨vs, h1, h2⟩ := this
    exact ⟨vs, h1, wk_ok h h2⟩
  · rw [if_neg e]; exact hR.tm j, hR.ob, hR.ge, hR.sep, hR.bel, hR.pn⟩
end
end Go.Proofs.YtgijboakaodcgaaDoor.Aw
namespace Go.Proofs.YtgijboakaodcgaaDoor.Aw
open Go.RowKit
attribute [local go_sem_proc] Nat.reduceAdd Nat.reduceMul Nat.reduceSub Nat.reduceEqDiff Nat.reduceLeDiff Nat.reduceBEq Nat.reduceBNe Int.reduceToNat reduceIte reduceCtorEq
attribute [local go_sem] initT SQ so pe he ev lk constS stp stc gdS nth pickS pickD loadS cellsAt okAt fieldAddrS fieldS partS indexAddrS indexS extractS binS binD binI isShift unS convS lenS sliceS bndI bndC mmS mm2 mmD builtS fillS okCells cellsS splS solid aliveL alive okS boxS allocS makeS bsliceS elemsOf dcells stF storeS frzA frz frzT frzS frzL frzO frzH appS srcS appVC killS killT killC killH killO k1 k2 S.has S.hasL St.add St.upd dropH lh cond_or cond_and rw_intC rw_intC0 rw_set rw_app rw_apps rw_rep rw_slice wr64 cond_true cond_false true_and and_true List.map_cons List.map_nil List.length_cons List.length_nil List.drop_succ_cons List.drop_zero List.take_succ_cons List.take_zero List.nil_append List.cons_append List.getD_cons_zero List.getD_cons_succ List.headD_cons List.length_map ite_true ite_false if_true if_false Bool.false_eq_true and_self forall_const List.drop_nil List.take_nil List.append_nil Option.map_some Option.map_none List.mapM_cons List.mapM_nil Option.bind_eq_bind Option.bind_some Option.pure_def knows resL resV oneS freshS freshL cv cvL stpL stcL or_true true_or or_false false_or List.all_cons List.all_nil Bool.and_self Bool.or_self Bool.true_and Bool.and_true Bool.or_false Bool.false_or implies_true flatD allm_nil allm_cons List.getElem?_cons_zero List.getElem?_cons_succ Nd.cs Nd.ds ml mln Option.isSome_some Option.isSome_none eq_self Int.toNat_natCast AP ldOk isLd inL subL crt chg chgS chgP idxs aliveW Option.toList_some Option.toList_none Option.toList RetG Nd.win frzA offK keepH aliveK nkH closedH closedO keysK inH St.upd rowO List.contains_cons List.contains_nil Bool.or_self Option.isNone_none Option.isNone_some Bool.not_true Bool.not_false gcs rowN e0N frzC
attribute [local go_sem] sz2 ag2 ok2 kk2 iu2 zc2 zd2 by2 sz3 ag3 ok3 kk3 iu3 zc3 zd3 by3 sz4 ag4 ok4 bo4 zc4 zd4 by4 sz5 ag5 ok5 kk5 iu5 zc5 zd5 by5 sz9 ag9 ok9 st9 zc9 zd9 by9 sz12 ag12 ok12 kk12 iu12 zc12 zd12 by12 sz15 ag15 ok15 zc15 by15 sz16 ag16 ok16 zc16 by16 sz21 ag21 ok21 kk21 iu21 zc21 zd21 by21 sz22 ag22 ok22 sl22 zc22 zd22 by22 sz23 ag23 ok23 zc23 zd23 pl23 by23 fl23_0 fl23_1 fl23_2 fl23_3 fl23_4 fl23_5 sz24 ag24 ok24 zc24 zd24 pl24 by24 fl24_0 fl24_1 fl24_2 fl24_3 fl24_4 fl24_5 sz26 ag26 ok26 zc26 zd26 pl26 by26 fl26_0 fl26_1 fl26_2 fl26_3 fl26_4 fl26_5 fl26_6 fl26_7 fl26_8 fl26_9 fl26_10 fl26_11 fl26_12 fl26_13 fl26_14 sz27 ag27 ok27 zc27 zd27 pl27 by27 fl27_0 fl27_1 fl27_2 fl27_3 fl27_4 fl27_5 fl27_6 fl27_7 fl27_8 fl27_9 fl27_10 fl27_11 fl27_12 fl27_13 fl27_14 sz28 ag28 ok28 sl28 zc28 zd28 by28 sz38 ag38 ok38 sl38 ar38 zc38 zd38 pl38 by38 sz44 ag44 ok44 sl44 ar44 zc44 zd44 pl44 by44 sz45 ag45 ok45 sl45 zc45 zd45 by45 sz46 ag46 ok46 zc46 zd46 pl46 by46 fl46_0 fl46_1 fl46_2 fl46_3 fl46_4 sz47 ag47 ok47 zc47 zd47 pl47 by47 fl47_0 fl47_1 fl47_2 fl47_3 fl47_4 sz49 ag49 ok49 kk49 iu49 zc49 zd49 by49 sz53 ag53 ok53 sl53 ar53 zc53 zd53 pl53 by53 sz54 ag54 ok54 kk54 iu54 zc54 zd54 by54 sz55 ag55 ok55 kk55 iu55 zc55 zd55 by55 sz56 ag56 ok56 sl56 zc56 zd56 by56 sz57 ag57 ok57 kk57 iu57 zc57 zd57 by57 sz60 ag60 ok60 zc60 zd60 pl60 by60 fl60_0 fl60_1 fl60_2 fl60_3 sz61 ag61 ok61 zc61 zd61 pl61 by61 fl61_0 fl61_1 fl61_2 fl61_3 sz64 ag64 ok64 zc64 by64 sz65 ag65 ok65 zc65 zd65 pl65 by65 fl65_0 fl65_1 sz66 ag66 ok66 zc66 zd66 pl66 by66 fl66_0 fl66_1 sz78 ag78 ok78 sl78 ar78 zc78 zd78 pl78 by78 sz79 ag79 ok79 sl79 ar79 zc79 zd79 pl79 by79 sz81 ag81 ok81 zc81 zd81 pl81 by81 fl81_0 fl81_1 sz82 ag82 ok82 zc82 zd82 pl82 by82 fl82_0 fl82_1 sz84 ag84 ok84 zc84 zd84 pl84 by84 fl84_0 fl84_1 fl84_2 fl84_3 sz85 ag85 ok85 zc85 zd85 pl85 by85 fl85_0 fl85_1 fl85_2 fl85_3 sz92 ag92 ok92 sl92 ar92 zc92 zd92 pl92 by92 sz101 ag101 ok101 zc101 zd101 pl101 by101 fl101_0 fl101_1 sz102 ag102 ok102 zc102 zd102 pl102 by102 fl102_0 fl102_1 sz109 ag109 ok109 zc109 zd109 pl109 by109 fl109_0 fl109_1 fl109_2 sz110 ag110 ok110 zc110 zd110 pl110 by110 fl110_0 fl110_1 fl110_2 sz120 ag120 ok120 sl120 ar120 zc120 zd120 pl120 by120 sz121 ag121 ok121 zc121 zd121 pl121 by121 fl121_0 fl121_1 sz122 ag122 ok122 sl122 ar122 zc122 zd122 pl122 by122 sz130 ag130 ok130 zc130 by130 sz140 ag140 ok140 kk140 iu140 zc140 zd140 by140 sz144 ag144 ok144 zc144 by144
theorem Same_c {T : World → Prop} (Tm : TP T) (a b : List Int) (hl : a.length ≤ 4096) : Ct Go.Proofs.Tryd.prog T 14 [.d (.row [.i .i64 0] (a.map intC)), .d (.row [.i .i64 0] (b.map intC))] true (fun r => r = .d (.b (decide (a = b)))) := by
  refine Ct_of Tm Go.Proofs.Tryd.func14 rfl rfl Go.Proofs.Tryd.ntmps14 (by simp) (rs := [.tmp 4]) rfl fun E hP hn hT => ?_
  (repeat (first | ((first | refine r1 ?_ | refine r2 ?_ | refine r3 ?_); intro K hK; simp only [go_sem, hP, hn]; (repeat (refine ⟨by first | trivial | omega | (simp <;> omega) | (simp +contextual; done) | (clear hK; grind), ?_⟩)); refine hK _ ?_; clear K hK) | refine Tr.seq ?_ | refine Tr.skip ?_ | refine Tr.label ?_ | refine Tr.block ?_ | refine Tr.scope ?_ | refine gs1 ?_ | refine gs2 ?_ | refine gs3 ?_ | refine Tr.exit ?_ | refine Tr.goto ?_ | refine Tr.ret ?_ | refine n1 ?_ | refine n2 ?_ | refine n3 ?_ | refine n4 ?_ | refine n5 ?_ | refine n6 ?_ | refine n7 ?_ | refine n8 ?_ | refine n9 (by decide) ?_))
  refine Tr.cond rfl (fun hb => ?_) (fun hb => ?_)
  · (repeat (first | ((first | refine r1 ?_ | refine r2 ?_ | refine r3 ?_); intro K hK; simp only [go_sem, hP, hn]; (repeat (refine ⟨by first | trivial | omega | (simp <;> omega) | (simp +contextual; done) | (clear hK; grind), ?_⟩)); refine hK _ ?_; clear K hK) | refine Tr.seq ?_ | refine Tr.skip ?_ | refine Tr.label ?_ | refine Tr.block ?_ | refine Tr.scope ?_ | refine gs1 ?_ | refine gs2 ?_ | refine gs3 ?_ | refine Tr.exit ?_ | refine Tr.goto ?_ | refine Tr.ret ?_ | refine n1 ?_ | refine n2 ?_ | refine n3 ?_ | refine n4 ?_ | refine n5 ?_ | refine n6 ?_ | refine n7 ?_ | refine n8 ?_ | refine n9 (by decide) ?_))
    simp only [RetQ, go_sem]
    have : ¬ a = b := fun e => by subst e; simp at hb
    simp [this]
  have hlen : a.length = b.length := by simp at hb; omega
  (repeat (first | ((first | refine r1 ?_ | refine r2 ?_ | refine r3 ?_); intro K hK; simp only [go_sem, hP, hn]; (repeat (refine ⟨by first | trivial | omega | (simp <;> omega) | (simp +contextual; done) | (clear hK; grind), ?_⟩)); refine hK _ ?_; clear K hK) | refine Tr.seq ?_ | refine Tr.skip ?_ | refine Tr.label ?_ | refine Tr.block ?_ | refine Tr.scope ?_ | refine gs1 ?_ | refine gs2 ?_ | refine gs3 ?_ | refine Tr.exit ?_ | refine Tr.goto ?_ | refine Tr.ret ?_ | refine n1 ?_ | refine n2 ?_ | refine n3 ?_ | refine n4 ?_ | refine n5 ?_ | refine n6 ?_ | refine n7 ?_ | refine n8 ?_ | refine n9 (by decide) ?_))
  refine Tr.loop (fun n s => ∃ j : Int, s = ⟨[(0, .d (.row [.i .i64 0] (a.map intC))), (1, .d (.row [.i .i64 0] (b.map intC))), (5, .d (.i .i64 j))], []⟩ ∧ 0 ≤ j ∧ j + n = a.length ∧ (a = b ↔ a.drop j.toNat = b.drop j.toNat)) a.length ⟨_, (Le.mv (by simp only [go_sem, hP, hn]; first | done | (simp; done) | (simp [intC]; done) | (repeat (first | rfl | constructor))) (by simp only [go_sem, hP, hn]; first | done | (simp; done) | (simp [intC]; done) | (repeat (first | rfl | constructor)))), 0, rfl, by omega, by omega, by simp⟩ ?_
  rintro n s ⟨j, rfl, h0, h1, h2⟩
  (repeat (first | ((first | refine r1 ?_ | refine r2 ?_ | refine r3 ?_); intro K hK; simp only [go_sem, hP, hn]; (repeat (refine ⟨by first | trivial | omega | (simp <;> omega) | (simp +contextual; done) | (clear hK; grind), ?_⟩)); refine hK _ ?_; clear K hK) | refine Tr.seq ?_ | refine Tr.skip ?_ | refine Tr.label ?_ | refine Tr.block ?_ | refine Tr.scope ?_ | refine gs1 ?_ | refine gs2 ?_ | refine gs3 ?_ | refine Tr.exit ?_ | refine Tr.goto ?_ | refine Tr.ret ?_ | refine n1 ?_ | refine n2 ?_ | refine n3 ?_ | refine n4 ?_ | refine n5 ?_ | refine n6 ?_ | refine n7 ?_ | refine n8 ?_ | refine n9 (by decide) ?_))
  refine Tr.cond rfl (fun hb => ?_) (fun hb => ?_)
  · have hj : j < a.length := by simpa using hb
    (repeat (first | ((first | refine r1 ?_ | refine r2 ?_ | refine r3 ?_); intro K hK; simp only [go_sem, hP, hn]; (repeat (refine ⟨by first | trivial | omega | (simp <;> omega) | (simp +contextual; done) | (clear hK; grind), ?_⟩)); refine hK _ ?_; clear K hK) | refine Tr.seq ?_ | refine Tr.skip ?_ | refine Tr.label ?_ | refine Tr.block ?_ | refine Tr.scope ?_ | refine gs1 ?_ | refine gs2 ?_ | refine gs3 ?_ | refine Tr.exit ?_ | refine Tr.goto ?_ | refine Tr.ret ?_ | refine n1 ?_ | refine n2 ?_ | refine n3 ?_ | refine n4 ?_ | refine n5 ?_ | refine n6 ?_ | refine n7 ?_ | refine n8 ?_ | refine n9 (by decide) ?_))
    (first | refine d1 (.p true 0 (.p true 1 (.p true 2 (.p true 3 (.p true 4 (.p true 5 (.p true 6 (.p true 7 (.p true 8 .nil))))))))) [] (by rw [hP]; kernel_rfl) (by kernel_rfl) (by simp only [go_sem, hP, hn]; try simp) (fun _ _ h => h) fun K hK => ?_ | refine d2 (.p true 0 (.p true 1 (.p true 2 (.p true 3 (.p true 4 (.p true 5 (.p true 6 (.p true 7 (.p true 8 .nil))))))))) [] (by rw [hP]; kernel_rfl) (by kernel_rfl) (by simp only [go_sem, hP, hn]; try simp) (fun _ _ h => h) fun K hK => ?_ | refine d4 (.p true 0 (.p true 1 (.p true 2 (.p true 3 (.p true 4 (.p true 5 (.p true 6 (.p true 7 (.p true 8 .nil))))))))) [] (by rw [hP]; kernel_rfl) (by kernel_rfl) (by simp only [go_sem, hP, hn]; try simp) (fun _ _ h => h) fun K hK => ?_); simp only [go_sem, hP, hn]; (repeat (refine ⟨by first | trivial | omega | (simp <;> omega) | (simp +contextual; done) | (clear hK; grind), ?_⟩)); refine hK _ ?_; clear K hK
    refine Tr.cond rfl (fun hb => ?_) (fun hb => ?_)
    · (repeat (first | ((first | refine r1 ?_ | refine r2 ?_ | refine r3 ?_); intro K hK; simp only [go_sem, hP, hn]; (repeat (refine ⟨by first | trivial | omega | (simp <;> omega) | (simp +contextual; done) | (clear hK; grind), ?_⟩)); refine hK _ ?_; clear K hK) | refine Tr.seq ?_ | refine Tr.skip ?_ | refine Tr.label ?_ | refine Tr.block ?_ | refine Tr.scope ?_ | refine gs1 ?_ | refine gs2 ?_ | refine gs3 ?_ | refine Tr.exit ?_ | refine Tr.goto ?_ | refine Tr.ret ?_ | refine n1 ?_ | refine n2 ?_ | refine n3 ?_ | refine n4 ?_ | refine n5 ?_ | refine n6 ?_ | refine n7 ?_ | refine n8 ?_ | refine n9 (by decide) ?_))
      simp only [RetQ, go_sem]
      rw [drop_rd h0 hj, drop_rd h0 (by omega)] at h2
      have : ¬ a = b := fun e => by have := h2.1 e; simp_all
      simp [this]
    · (repeat (first | ((first | refine r1 ?_ | refine r2 ?_ | refine r3 ?_); intro K hK; simp only [go_sem, hP, hn]; (repeat (refine ⟨by first | trivial | omega | (simp <;> omega) | (simp +contextual; done) | (clear hK; grind), ?_⟩)); refine hK _ ?_; clear K hK) | refine Tr.seq ?_ | refine Tr.skip ?_ | refine Tr.label ?_ | refine Tr.block ?_ | refine Tr.scope ?_ | refine gs1 ?_ | refine gs2 ?_ | refine gs3 ?_ | refine Tr.exit ?_ | refine Tr.goto ?_ | refine Tr.ret ?_ | refine n1 ?_ | refine n2 ?_ | refine n3 ?_ | refine n4 ?_ | refine n5 ?_ | refine n6 ?_ | refine n7 ?_ | refine n8 ?_ | refine n9 (by decide) ?_))
      rw [w64 (by omega) (by omega)]
      refine ⟨n - 1, _, by omega, ?_, j + 1, rfl, by omega, by omega, ?_⟩
      · exact (Le.mv (by simp only [go_sem, hP, hn]; first | done | (simp; done) | (simp [intC]; done) | (repeat (first | rfl | constructor))) (by simp only [go_sem, hP, hn]; first | done | (simp; done) | (simp [intC]; done) | (repeat (first | rfl | constructor))))
      rw [drop_rd h0 hj, drop_rd h0 (by omega)] at h2
      simp_all
  · (repeat (first | ((first | refine r1 ?_ | refine r2 ?_ | refine r3 ?_); intro K hK; simp only [go_sem, hP, hn]; (repeat (refine ⟨by first | trivial | omega | (simp <;> omega) | (simp +contextual; done) | (clear hK; grind), ?_⟩)); refine hK _ ?_; clear K hK) | refine Tr.seq ?_ | refine Tr.skip ?_ | refine Tr.label ?_ | refine Tr.block ?_ | refine Tr.scope ?_ | refine gs1 ?_ | refine gs2 ?_ | refine gs3 ?_ | refine Tr.exit ?_ | refine Tr.goto ?_ | refine Tr.ret ?_ | refine n1 ?_ | refine n2 ?_ | refine n3 ?_ | refine n4 ?_ | refine n5 ?_ | refine n6 ?_ | refine n7 ?_ | refine n8 ?_ | refine n9 (by decide) ?_))
    simp only [RetQ, go_sem]
    rw [drop_end (by simpa using hb), drop_end (by have := of_decide_eq_false hb; omega)] at h2
    have : a = b := h2.2 rfl
    simp [this]
section
attribute [local go_sem] frD frE
def nA : Nd := ⟨6, [0], 1, 0, 0, 0, 0, 0, [2, -1], [5], 0, 0, 0, 0, 0⟩
def nBst : Nd := ⟨11, [0], 0, 0, 0, 0, 0, 0, [], [], 0, 0, 0, 0, 0⟩
theorem nA_ok : KOk nA [[3, 4]] 2 := ⟨by decide, by decide, by simp, (by simp; decide), fun e => (by cases (show (false : Bool) = true from e)), fun e => (by cases (show (false : Bool) = true from e)), fun _ _ _ => rfl, by decide +kernel, by decide, by decide, by decide⟩
theorem nBst_ok : KOk nBst [[4, 9, 9]] 3 := ⟨by decide, by decide, by simp, (by simp; decide), fun e => (by cases (show (false : Bool) = true from e)), fun e => (by cases (show (false : Bool) = true from e)), fun _ _ _ => rfl, by decide +kernel, by decide, by decide, by decide⟩
theorem nA_v : frameV nA [[3, 4]] 2 = [7] := by decide +kernel
theorem nBst_v : frameV nBst [[4, 9, 9]] 3 = [1] := by decide +kernel
attribute [local go_sem] nA nBst
theorem awake17_c {T : World → Prop} (Tk : KT T) : Cg Go.Proofs.Tryd.prog T 12 [] [] (fun r H => H = [] ∧ r = .d (.b true)) := by
  have hA := Frame_c Tk nA [[3, 4]] 2 nA_ok
  have hB := Frame_c Tk nBst [[4, 9, 9]] 3 nBst_ok
  rw [nA_v] at hA
  rw [nBst_v] at hB
  refine Cg_of [] Tk.m Go.Proofs.Tryd.func12 rfl rfl Go.Proofs.Tryd.ntmps12 (by simp) rfl (rs := [.tmp 0]) rfl fun E hP hn hT hpn => ?_
  (repeat (first | refine Tr.seq ?_ | refine Tr.skip ?_ | refine Tr.label ?_ | refine Tr.block ?_ | refine Tr.scope ?_ | refine gs1 ?_ | refine gs2 ?_ | refine gs3 ?_ | refine Tr.exit ?_ | refine Tr.goto ?_ | refine Tr.ret ?_ | refine n1 ?_ | refine n2 ?_ | refine n3 ?_ | refine n4 ?_ | refine n5 ?_ | refine n6 ?_ | refine n7 ?_ | refine n8 ?_ | refine n9 (by decide) ?_))
  (first | refine r1 ?_ | refine r2 ?_ | refine r3 ?_); intro K hK; simp only [go_sem, hP, hn]; (repeat (refine ⟨by first | trivial | omega | (simp <;> omega) | (simp +contextual; done) | (clear hK; grind), ?_⟩)); refine hK _ ?_; clear K hK
  (repeat (first | refine Tr.seq ?_ | refine Tr.skip ?_ | refine Tr.label ?_ | refine Tr.block ?_ | refine Tr.scope ?_ | refine gs1 ?_ | refine gs2 ?_ | refine gs3 ?_ | refine Tr.exit ?_ | refine Tr.goto ?_ | refine Tr.ret ?_ | refine n1 ?_ | refine n2 ?_ | refine n3 ?_ | refine n4 ?_ | refine n5 ?_ | refine n6 ?_ | refine n7 ?_ | refine n8 ?_ | refine n9 (by decide) ?_))
  (first | refine r1 ?_ | refine r2 ?_ | refine r3 ?_); intro K hK; simp only [go_sem, hP, hn]
  (repeat (refine ⟨by first | trivial | omega | (simp <;> omega) | (simp +contextual; done) | (clear hK; grind), ?_⟩))
  refine CallN_frz 3 ?_; simp only [go_sem, hP, hn]
  refine CallN_frz 4 ?_; simp only [go_sem, hP, hn]
  refine CallN_frz 5 ?_; simp only [go_sem, hP, hn]
  refine CallN_frz 8 ?_; simp only [go_sem, hP, hn]
  refine CallN_cx (Hi := []) (by rw [hP, hT]; exact hA ) rfl rfl rfl trivial (by simp only [go_sem, hP, hn]; try trivial) (by simp only [go_sem, hP, hn]; try rfl) trivial (by rw [hn]; decide) (fun r Ho hr => ?_); obtain  ⟨rfl, rfl⟩ := hr; refine ⟨fun k _ => hpn k rfl, ?_⟩; simp only [cgS, newK, touK, go_sem, hP, hn]; (repeat (refine ⟨by first | trivial | omega | (simp <;> omega) | (simp +contextual; done) | (clear hK; grind), ?_⟩))
  refine CallN_frz 10 ?_; simp only [go_sem, hP, hn]
  refine CallN_frz 2000 ?_; simp only [go_sem, hP, hn]
  refine c1 (by rw [hP, hT]; exact Same_c Tk.m [7] [7] (by decide)) rfl rfl rfl trivial (by simp only [go_sem, hP, hn]; try trivial) (by simp only [go_sem, hP, hn]; try rfl) (by rw [hn]; decide) (by rfl) ?_; simp only [go_sem, hP, hn]; (repeat (refine ⟨by first | trivial | omega | (simp <;> omega) | (simp +contextual; done) | (clear hK; grind), ?_⟩))
  refine hK _ ?_; clear K hK
  refine Tr.le (Le.keep [1]) ?_; simp only [List.map_cons, List.map_nil, lk, Nat.reduceEqDiff, reduceIte]
  (repeat (first | refine Tr.seq ?_ | refine Tr.skip ?_ | refine Tr.label ?_ | refine Tr.block ?_ | refine Tr.scope ?_ | refine gs1 ?_ | refine gs2 ?_ | refine gs3 ?_ | refine Tr.exit ?_ | refine Tr.goto ?_ | refine Tr.ret ?_ | refine n1 ?_ | refine n2 ?_ | refine n3 ?_ | refine n4 ?_ | refine n5 ?_ | refine n6 ?_ | refine n7 ?_ | refine n8 ?_ | refine n9 (by decide) ?_))
  (first | refine r1 ?_ | refine r2 ?_ | refine r3 ?_); intro K hK; simp only [go_sem, hP, hn]
  (repeat (refine ⟨by first | trivial | omega | (simp <;> omega) | (simp +contextual; done) | (clear hK; grind), ?_⟩))
  refine CallN_frz 12 ?_; simp only [go_sem, hP, hn]
  refine CallN_frz 15 ?_; simp only [go_sem, hP, hn]
  refine CallN_le (Le.wagg 13 nBst.cs rfl (by simp [wk, Nd.cs, intC, go_sem])) ?_; simp only [go_sem, hP, hn]
  refine CallN_cx (Hi := []) (by rw [hP, hT]; exact hB ) rfl rfl rfl trivial (by simp only [go_sem, hP, hn]; try trivial) (by simp only [go_sem, hP, hn]; try rfl) trivial (by rw [hn]; decide) (fun r Ho hr => ?_); obtain  ⟨rfl, rfl⟩ := hr; refine ⟨fun k _ => hpn k rfl, ?_⟩; simp only [cgS, newK, touK, go_sem, hP, hn]; (repeat (refine ⟨by first | trivial | omega | (simp <;> omega) | (simp +contextual; done) | (clear hK; grind), ?_⟩))
  refine CallN_frz 17 ?_; simp only [go_sem, hP, hn]
  refine CallN_frz 2000 ?_; simp only [go_sem, hP, hn]
  refine c1 (by rw [hP, hT]; exact Same_c Tk.m [1] [1] (by decide)) rfl rfl rfl trivial (by simp only [go_sem, hP, hn]; try trivial) (by simp only [go_sem, hP, hn]; try rfl) (by rw [hn]; decide) (by rfl) ?_; simp only [go_sem, hP, hn]; (repeat (refine ⟨by first | trivial | omega | (simp <;> omega) | (simp +contextual; done) | (clear hK; grind), ?_⟩))
  refine hK _ ?_; clear K hK
  refine Tr.le (Le.keep [1, 2]) ?_; simp only [List.map_cons, List.map_nil, lk, Nat.reduceEqDiff, reduceIte]
  (repeat (first | ((first | refine r1 ?_ | refine r2 ?_ | refine r3 ?_); intro K hK; simp only [go_sem, hP, hn]; (repeat (refine ⟨by first | trivial | omega | (simp <;> omega) | (simp +contextual; done) | (clear hK; grind), ?_⟩)); refine hK _ ?_; clear K hK) | refine Tr.seq ?_ | refine Tr.skip ?_ | refine Tr.label ?_ | refine Tr.block ?_ | refine Tr.scope ?_ | refine gs1 ?_ | refine gs2 ?_ | refine gs3 ?_ | refine Tr.exit ?_ | refine Tr.goto ?_ | refine Tr.ret ?_ | refine n1 ?_ | refine n2 ?_ | refine n3 ?_ | refine n4 ?_ | refine n5 ?_ | refine n6 ?_ | refine n7 ?_ | refine n8 ?_ | refine n9 (by decide) ?_))
  simp only [RetG, go_sem]; (repeat (with_reducible refine And.intro ?_ ?_; (· first | trivial | omega | (simp <;> omega) | (simp +contextual; done) | (clear hK; grind))))
  rfl
end
end Go.Proofs.YtgijboakaodcgaaDoor.Aw
namespace Go.Proofs.YtgijboakaodcgaaDoor.Aw
open Go.RowKit
/-! the plain law of kernels -/
/-- the greatest one, the first of these -/
theorem mostN_max (xs : List Int) (h : 1 ≤ xs.length) : ∀ i, i ≤ xs.length → ∀ j : Int, 0 ≤ j → j < i → rd xs j ≤ rd xs (mostN xs i) ∧ (j < mostN xs i → rd xs j < rd xs (mostN xs i))
  | 0, _, j, h0, h1 => by omega
  | i + 1, hi, j, h0, h1 => by
    have ih := mostN_max xs h i (by omega)
    have hb := mostN_b xs h i (by omega)
    simp only [mostN]
    split
    · rename_i hc
      rcases Int.lt_or_le j i with hj | hj
      · have := ih j h0 hj; omega
      · obtain rfl : j = (i : Nat) := by omega
        omega
    · rename_i hc
      rcases Int.lt_or_le j i with hj | hj
      · exact ih j h0 hj
      · obtain rfl : j = (i : Nat) := by omega
        refine ⟨by omega, fun h2 => ?_⟩
        have : mostN xs i ≤ i := by
          clear ih hc h2 h0 h1 hj hb
          have : ∀ q, mostN xs q ≤ q := by
            intro q
            induction q with
            | zero => simp [mostN]
            | succ q ih => simp only [mostN]; split <;> omega
          exact this i
        omega
theorem mostV_max (xs : List Int) (h : 1 ≤ xs.length) {j : Int} (h0 : 0 ≤ j) (h1 : j < xs.length) : rd xs j ≤ rd xs (mostV xs) ∧ (j < mostV xs → rd xs j < rd xs (mostV xs)) := mostN_max xs h _ (Nat.le_refl _) j h0 h1
theorem mostV_b (xs : List Int) (h : 1 ≤ xs.length) : 0 ≤ mostV xs ∧ mostV xs < xs.length := mostN_b xs h _ (Nat.le_refl _)
theorem mem_rd {l : List Int} {x : Int} (h : x ∈ l) : ∃ j : Int, 0 ≤ j ∧ j < l.length ∧ rd l j = x := by
  obtain ⟨i, hi, rfl⟩ := List.mem_iff_getElem.1 h
  exact ⟨i, by omega, by omega, by simp [rd, List.getD_eq_getElem?_getD, hi]⟩
theorem most_same {xs ys : List Int} (h : 1 ≤ xs.length) (h1 : ∀ x, x ∈ xs ↔ x ∈ ys) : rd xs (mostV xs) = rd ys (mostV ys) := by
  have hy : 1 ≤ ys.length := by
    have := (h1 xs[0]).1 (List.getElem_mem _)
    exact List.length_pos_of_mem this
  have bx := mostV_b xs h
  have by_ := mostV_b ys hy
  obtain ⟨j, j0, j1, j2⟩ := mem_rd ((h1 _).1 (rd_mem bx.1 bx.2))
  obtain ⟨i, i0, i1, i2⟩ := mem_rd ((h1 _).2 (rd_mem by_.1 by_.2))
  have a := (mostV_max ys hy j0 j1).1
  have b := (mostV_max xs h i0 i1).1
  omega
theorem sum_rev (xs : List Int) : xs.reverse.sum = xs.sum := by
  induction xs with
  | nil => rfl
  | cons x xs ih => simp only [List.reverse_cons, List.sum_append, List.sum_cons, List.sum_nil, ih]; omega
theorem col_rev (fs : List (List Int)) (k : Int) : col fs.reverse k = (col fs k).reverse := by simp [col]
theorem eachL_rev (g : List Int → Int) (fs : List (List Int)) (w : Nat) (h : ∀ xs, xs.length = fs.length → g xs.reverse = g xs) : eachL g fs.reverse w = eachL g fs w := by
  unfold eachL
  refine List.map_congr_left fun k _ => ?_
  rw [col_rev, h _ (col_len fs _)]
theorem range_rd (f : List Int) : (List.range f.length).map (fun k => rd f (k : Nat)) = f := by
  refine List.ext_getElem (by simp) fun i h1 h2 => ?_
  simp [rd, List.getD_eq_getElem?_getD, h2]
theorem eachL_same (g : List Int → Int) (f : List Int) (m : Nat) (h : ∀ x, g (List.replicate m x) = x) : eachL g (List.replicate m f) f.length = f := by
  have : eachL g (List.replicate m f) f.length = (List.range f.length).map (fun k => rd f (k : Nat)) := by
    unfold eachL
    refine List.map_congr_left fun k _ => ?_
    unfold col
    rw [List.map_replicate, h]
  rw [this, range_rd]
theorem mean_rep (m : Nat) (hm : 1 ≤ m) (x : Int) : meanV (List.replicate m x) = x := by
  have hs : ∀ q, (List.replicate q x).sum = (q : Int) * x := by
    intro q
    induction q with
    | zero => simp
    | succ q ih => rw [List.replicate_succ, List.sum_cons, ih]; rw [show ((q + 1 : Nat) : Int) = (q : Int) + 1 by omega, Int.add_mul]; omega
  unfold meanV divV
  rw [hs, List.length_replicate, if_neg (by omega), div_split (by omega), Int.mul_ediv_cancel_left _ (by omega), Int.mul_emod_right, if_neg (by omega)]
  omega
theorem most_rep (m : Nat) (hm : 1 ≤ m) (x : Int) : rd (List.replicate m x) (mostV (List.replicate m x)) = x := by
  have hb := mostV_b (List.replicate m x) (by simpa using hm)
  have := rd_mem hb.1 hb.2
  exact List.eq_of_mem_replicate this
theorem add_two (a b : Int) (ha : -512 ≤ a ∧ a ≤ 511) (hb : -512 ≤ b ∧ b ≤ 511) : addV [a, b] = a + b := by
  unfold addV
  simp only [List.foldl_cons, List.foldl_nil]
  rw [clampV_id (x := 0 + a) (by omega) (by omega), clampV_id (by omega) (by omega)]
  omega
/-- another Post, another Bias, and what they need -/
def Nd.wq (n : Nd) (bs : List Int) (mu sh lo hi po : Int) : Nd := { n with bs := bs, mult := mu, shift := sh, low := lo, high := hi, post := po }
def Nd.wp (n : Nd) (mu sh lo hi po : Int) : Nd := n.wq n.bs mu sh lo hi po
theorem rchk_postq {n : Nd} {l bs : List Int} {mu sh lo hi po : Int} (h : n.rchk l = 0) (hw : rWeighs n.k = true) (hbl : bs.length = n.bs.length) (h21 : ∀ v m, n.s21 v m = false → (n.wq bs mu sh lo hi po).s21 v m = false) (h9 : 0 ≤ po ∧ po ≤ 3) (h12 : (n.wq bs mu sh lo hi po).e12 = true) (h27 : (n.wq bs mu sh lo hi po).s27 = true) : (n.wq bs mu sh lo hi po).rchk l = 0 := by
  obtain ⟨c1, c7, c9, he, hs, hL⟩ := rchk_unpack h
  have d1 : (n.wq bs mu sh lo hi po).chk1 l = false := c1
  have d7 : (n.wq bs mu sh lo hi po).r7 l = false := c7
  have d9 : (n.wq bs mu sh lo hi po).r9 = false := by
    show (decide (po < 0) || decide (3 < po) || po != 0 && !rWeighs n.k) = false
    rw [hw, decide_eq_false (by omega), decide_eq_false (by omega)]; simp
  have de : (n.wq bs mu sh lo hi po).else0 = true := by
    show (if n.e6 = true then false else if n.e8 = true then false else if (n.wq bs mu sh lo hi po).e10 = true then false else (n.wq bs mu sh lo hi po).e12) = true
    unfold Nd.else0 at he
    rw [h12]
    split at he
    · cases he
    · rename_i q1
      rw [if_neg q1]
      split at he
      · cases he
      · rename_i q2
        rw [if_neg q2]
        split at he
        · cases he
        · rename_i q3
          rw [if_neg (by rw [show (n.wq bs mu sh lo hi po).e10 = n.e10 by unfold Nd.e10; rw [show (n.wq bs mu sh lo hi po).bs.length = n.bs.length from hbl]; rfl]; exact q3)]
  have ds : (n.wq bs mu sh lo hi po).sized (rd l 0) = true := by
    show (if n.s4 = true then false else if n.s8 = true then false else if n.s10 = true then false else if n.s13 = true then false else
      if rWeighs n.k = true then (if ((n.wq bs mu sh lo hi po).s21 (rd l 0) (if (n.k == 2) = true then rd l 0 else n.wid)) = true then false else (n.wq bs mu sh lo hi po).s27) else (n.wq bs mu sh lo hi po).s27) = true
    unfold Nd.sized at hs
    rw [h27]
    rw [if_pos hw] at hs ⊢
    split at hs
    · cases hs
    · rename_i q1
      rw [if_neg q1]
      split at hs
      · cases hs
      · rename_i q2
        rw [if_neg q2]
        split at hs
        · cases hs
        · rename_i q3
          rw [if_neg q3]
          split at hs
          · cases hs
          · rename_i q4
            rw [if_neg q4]
            generalize (if (n.k == 2) = true then rd l 0 else n.wid) = mm at hs ⊢
            split at hs
            · cases hs
            · rename_i q5
              rw [if_neg (by rw [h21 _ _ (by simpa using q5)]; decide)]
  have dL : (n.wq bs mu sh lo hi po).chkL (rd l 0) 0 l = 0 := by
    have : ∀ (v s : Int) (l : List Int), (n.wq bs mu sh lo hi po).chkL v s l = n.chkL v s l := by
      intro v s l
      induction l generalizing s with
      | nil => rfl
      | cons x l ih => simp only [Nd.chkL]; rw [ih]; rfl
    exact (this _ _ _).trans hL
  unfold Nd.rchk
  rw [d1, d7, d9, de, ds, dL]
  rfl
theorem rchk_post {n : Nd} {l : List Int} {mu sh lo hi po : Int} (h : n.rchk l = 0) (hw : rWeighs n.k = true) (h9 : 0 ≤ po ∧ po ≤ 3) (h12 : (n.wp mu sh lo hi po).e12 = true) (h27 : (n.wp mu sh lo hi po).s27 = true) : (n.wp mu sh lo hi po).rchk l = 0 :=
  rchk_postq h hw rfl (fun _ _ h => h) h9 h12 h27
theorem KOk.wp {n : Nd} {fs : List (List Int)} {w : Nat} {mu sh lo hi po : Int} (h : KOk n fs w) (hw : rWeighs n.k = true) (h9 : 0 ≤ po ∧ po ≤ 3) (h12 : (n.wp mu sh lo hi po).e12 = true) (h27 : (n.wp mu sh lo hi po).s27 = true) : KOk (n.wp mu sh lo hi po) fs w :=
  ⟨h.w0, h.m0, h.len, h.num, h.win, h.many, h.one, rchk_post h.chk hw h9 h12 h27, h.il, h.wl, h.bl⟩
theorem KOk.s27 {n : Nd} {fs : List (List Int)} {w : Nat} (h : KOk n fs w) : n.s27 = true := by
  have hs := h.sized
  unfold Nd.sized at hs
  repeat' (split at hs <;> try (cases hs; done))
  all_goals exact hs
set_option maxRecDepth 100000
/-! the plain law of kernels: sums -/
theorem mul_abs (a b : Int) (ha : -128 ≤ a ∧ a ≤ 128) (hb : -512 ≤ b ∧ b ≤ 512) : -65536 ≤ a * b ∧ a * b ≤ 65536 := by
  have h1 : (a * b).natAbs ≤ 128 * 512 := by
    rw [Int.natAbs_mul]
    exact Nat.mul_le_mul (by omega) (by omega)
  omega
theorem dotK_lin (ws f g h : List Int) (o : Int) (hw : ∀ i, -128 ≤ rd ws i ∧ rd ws i ≤ 128) (B x y : Int) (hx : -B ≤ x ∧ x ≤ B) (hy : -B ≤ y ∧ y ≤ B) : ∀ (k : Nat), B + k * 65536 ≤ 1099511627776 → (∀ i : Nat, i < k → rd h i = rd f i + rd g i ∧ (-512 ≤ rd f i ∧ rd f i ≤ 512) ∧ -512 ≤ rd g i ∧ rd g i ≤ 512) →
    dotK ws o h k (x + y) = dotK ws o f k x + dotK ws o g k y ∧ (-(B + k * 65536) ≤ dotK ws o f k x ∧ dotK ws o f k x ≤ B + k * 65536) ∧ -(B + k * 65536) ≤ dotK ws o g k y ∧ dotK ws o g k y ≤ B + k * 65536 := by
  intro k
  induction k with
  | zero => intro _ _; simp only [dotK]; refine ⟨trivial, ?_, ?_⟩ <;> omega
  | succ k ih =>
    intro hB hf
    obtain ⟨e, b1, b2⟩ := ih (by omega) (fun i hi => hf i (by omega))
    obtain ⟨h1, h2, h3⟩ := hf k (by omega)
    have m1 := mul_abs _ _ (hw (o + (k : Nat))) h2
    have m2 := mul_abs _ _ (hw (o + (k : Nat))) h3
    simp only [dotK]
    rw [h1, e, Int.mul_add]
    generalize rd ws (o + (k : Nat)) * rd f (k : Nat) = p at m1 ⊢
    generalize rd ws (o + (k : Nat)) * rd g (k : Nat) = q at m2 ⊢
    generalize dotK ws o f k x = u at b1 ⊢
    generalize dotK ws o g k y = v at b2 ⊢
    rw [w64 (x := p) (by omega) (by omega), w64 (x := q) (by omega) (by omega), w64 (x := p + q) (by omega) (by omega), w64 (x := u + p) (by omega) (by omega), w64 (x := v + q) (by omega) (by omega), w64 (by omega) (by omega)]
    refine ⟨by omega, ?_, ?_⟩ <;> omega
structure Adds (fs gs hs : List (List Int)) (w : Nat) : Prop where
  fl : gs.length = fs.length
  hl : hs.length = fs.length
  add : ∀ j k : Int, 0 ≤ j → j < fs.length → 0 ≤ k → k < w → rd (fr hs j) k = rd (fr fs j) k + rd (fr gs j) k ∧ (-512 ≤ rd (fr fs j) k ∧ rd (fr fs j) k ≤ 512) ∧ -512 ≤ rd (fr gs j) k ∧ rd (fr gs j) k ≤ 512
theorem accW_lin {n : Nd} {fs gs hs : List (List Int)} {w : Nat} (hA : Adds fs gs hs w) (hw : ∀ i, -128 ≤ rd n.ws i ∧ rd n.ws i ≤ 128) (hw1 : 1 ≤ w ∧ w ≤ 16) (c : Int) (c0 : 0 ≤ c) (c1 : n.k = 2 → c < w) (hb : rd n.bs c = 0) : ∀ j : Nat, j ≤ fs.length → j ≤ 16 →
    accW n hs w c j = accW n fs w c j + accW n gs w c j ∧ (-(j * 1048576) ≤ accW n fs w c j ∧ accW n fs w c j ≤ j * 1048576) ∧ -(j * 1048576) ≤ accW n gs w c j ∧ accW n gs w c j ≤ j * 1048576
  | 0, _, _ => by simp only [accW, hb]; omega
  | j + 1, h1, h2 => by
    obtain ⟨e, b1, b2⟩ := accW_lin hA hw hw1 c c0 c1 hb j (by omega) (by omega)
    simp only [accW]
    rw [e, hA.hl, hA.fl]
    have key := dotK_lin n.ws (rowF n fs c j) (rowF n gs c j) (rowF n hs c j) ((c * fs.length + j) * stW n w) hw (j * 1048576) _ _ b1 b2 (stW n w) (by unfold stW; split <;> omega) (fun i hi => by
      unfold rowF
      unfold stW at hi
      split
      · rename_i h2
        rw [if_pos h2] at hi
        obtain rfl : i = 0 := by omega
        exact hA.add j c (by omega) (by omega) c0 (c1 h2)
      · rename_i h2
        rw [if_neg h2] at hi
        exact hA.add j i (by omega) (by omega) (by omega) (by omega))
    have hs : stW n w ≤ 16 := by unfold stW; split <;> omega
    refine ⟨key.1, ?_, ?_⟩ <;> omega
/-- without Post, and Bias -/
def Nd.w0 (n : Nd) : Nd := n.wq (List.replicate n.bs.length 0) 0 0 0 0 0
theorem rep_rd (m : Nat) (c : Int) : rd (List.replicate m 0) c = 0 := by
  unfold rd
  rw [List.getD_eq_getElem?_getD, List.getElem?_replicate]
  split <;> rfl
theorem all_rd {ws : List Int} (h : ws.all (inB · (-128) 127) = true) (i : Int) : -128 ≤ rd ws i ∧ rd ws i ≤ 128 := by
  unfold rd
  rw [List.getD_eq_getElem?_getD]
  cases hq : ws[i.toNat]? with
  | none => simp
  | some z =>
    have := inB_iff.1 (List.all_eq_true.1 h z (List.mem_of_getElem? hq))
    simp; omega
theorem KOk.wsall {n : Nd} {fs : List (List Int)} {w : Nat} (h : KOk n fs w) (hw : rWeighs n.k = true) : n.ws.all (inB · (-128) 127) = true := by
  have hs := h.sized
  unfold Nd.sized at hs
  rw [if_pos hw] at hs
  have h21 : n.s21 w (if (n.k == 2) = true then (w : Int) else n.wid) = false := by
    cases e : n.s21 w (if (n.k == 2) = true then (w : Int) else n.wid) with
    | false => rfl
    | true => rw [e] at hs; simp at hs
  unfold Nd.s21 at h21
  simp only [Bool.or_eq_false_iff, Bool.not_eq_false'] at h21
  exact h21.1.2
theorem w0_pst (n : Nd) (x : Int) : n.w0.pst x = clampV x (-2147483648) 2147483647 := by
  show (if (Go.bits .and .i64 0 2 != 0) = true then _ else if (Go.bits .and .i64 0 1 != 0) = true then _ else _) = _
  rw [if_neg (by decide), if_neg (by decide)]
theorem sums {n : Nd} {fs gs hs : List (List Int)} {w : Nat} (h : KOk n.w0 fs w) (hw : rWeighs n.k = true) (hA : Adds fs gs hs w) (c : Int) (c0 : 0 ≤ c) (c1 : c < n.bs.length) :
    rd (weighedV n.w0 hs w) c = rd (weighedV n.w0 fs w) c + rd (weighedV n.w0 gs w) c := by
  have hk := h.wok hw
  have hbl : n.w0.bs.length = n.bs.length := by simp [Nd.w0, Nd.wq]
  obtain ⟨e, b1, b2⟩ := accW_lin (n := n.w0) hA (all_rd (h.wsall hw)) h.w0 c c0 (fun h2 => by have := hk.dp h2; omega) (rep_rd _ _) fs.length (Nat.le_refl _) h.m0.2
  have hm := h.m0
  unfold weighedV
  rw [weighedN_rd _ _ _ _ _ c0 (by omega), weighedN_rd _ _ _ _ _ c0 (by omega), weighedN_rd _ _ _ _ _ c0 (by omega), w0_pst, w0_pst, w0_pst, hA.hl, hA.fl, e, clampV_id (by omega) (by omega), clampV_id (by omega) (by omega), clampV_id (by omega) (by omega)]
end Go.Proofs.YtgijboakaodcgaaDoor.Aw
namespace Go.Proofs.YtgijboakaodcgaaDoor.Aw
open Go.RowKit
attribute [local go_sem_proc] Nat.reduceAdd Nat.reduceMul Nat.reduceSub Nat.reduceEqDiff Nat.reduceLeDiff Nat.reduceBEq Nat.reduceBNe Int.reduceToNat reduceIte reduceCtorEq
attribute [local go_sem] initT SQ so pe he ev lk constS stp stc gdS nth pickS pickD loadS cellsAt okAt fieldAddrS fieldS partS indexAddrS indexS extractS binS binD binI isShift unS convS lenS sliceS bndI bndC mmS mm2 mmD builtS fillS okCells cellsS splS solid aliveL alive okS boxS allocS makeS bsliceS elemsOf dcells stF storeS frzA frz frzT frzS frzL frzO frzH appS srcS appVC killS killT killC killH killO k1 k2 S.has S.hasL St.add St.upd dropH lh cond_or cond_and rw_intC rw_intC0 rw_set rw_app rw_apps rw_rep rw_slice wr64 cond_true cond_false true_and and_true List.map_cons List.map_nil List.length_cons List.length_nil List.drop_succ_cons List.drop_zero List.take_succ_cons List.take_zero List.nil_append List.cons_append List.getD_cons_zero List.getD_cons_succ List.headD_cons List.length_map ite_true ite_false if_true if_false Bool.false_eq_true and_self forall_const List.drop_nil List.take_nil List.append_nil Option.map_some Option.map_none List.mapM_cons List.mapM_nil Option.bind_eq_bind Option.bind_some Option.pure_def knows resL resV oneS freshS freshL cv cvL stpL stcL or_true true_or or_false false_or List.all_cons List.all_nil Bool.and_self Bool.or_self Bool.true_and Bool.and_true Bool.or_false Bool.false_or implies_true flatD allm_nil allm_cons List.getElem?_cons_zero List.getElem?_cons_succ Nd.cs Nd.ds ml mln Option.isSome_some Option.isSome_none eq_self Int.toNat_natCast AP ldOk isLd inL subL crt chg chgS chgP idxs aliveW Option.toList_some Option.toList_none Option.toList RetG Nd.win frzA offK keepH aliveK nkH closedH closedO keysK inH St.upd rowO List.contains_cons List.contains_nil Bool.or_self Option.isNone_none Option.isNone_some Bool.not_true Bool.not_false gcs rowN e0N frzC
attribute [local go_sem] sz2 ag2 ok2 kk2 iu2 zc2 zd2 by2 sz3 ag3 ok3 kk3 iu3 zc3 zd3 by3 sz4 ag4 ok4 bo4 zc4 zd4 by4 sz5 ag5 ok5 kk5 iu5 zc5 zd5 by5 sz9 ag9 ok9 st9 zc9 zd9 by9 sz12 ag12 ok12 kk12 iu12 zc12 zd12 by12 sz15 ag15 ok15 zc15 by15 sz16 ag16 ok16 zc16 by16 sz21 ag21 ok21 kk21 iu21 zc21 zd21 by21 sz22 ag22 ok22 sl22 zc22 zd22 by22 sz23 ag23 ok23 zc23 zd23 pl23 by23 fl23_0 fl23_1 fl23_2 fl23_3 fl23_4 fl23_5 sz24 ag24 ok24 zc24 zd24 pl24 by24 fl24_0 fl24_1 fl24_2 fl24_3 fl24_4 fl24_5 sz26 ag26 ok26 zc26 zd26 pl26 by26 fl26_0 fl26_1 fl26_2 fl26_3 fl26_4 fl26_5 fl26_6 fl26_7 fl26_8 fl26_9 fl26_10 fl26_11 fl26_12 fl26_13 fl26_14 sz27 ag27 ok27 zc27 zd27 pl27 by27 fl27_0 fl27_1 fl27_2 fl27_3 fl27_4 fl27_5 fl27_6 fl27_7 fl27_8 fl27_9 fl27_10 fl27_11 fl27_12 fl27_13 fl27_14 sz28 ag28 ok28 sl28 zc28 zd28 by28 sz38 ag38 ok38 sl38 ar38 zc38 zd38 pl38 by38 sz44 ag44 ok44 sl44 ar44 zc44 zd44 pl44 by44 sz45 ag45 ok45 sl45 zc45 zd45 by45 sz46 ag46 ok46 zc46 zd46 pl46 by46 fl46_0 fl46_1 fl46_2 fl46_3 fl46_4 sz47 ag47 ok47 zc47 zd47 pl47 by47 fl47_0 fl47_1 fl47_2 fl47_3 fl47_4 sz49 ag49 ok49 kk49 iu49 zc49 zd49 by49 sz53 ag53 ok53 sl53 ar53 zc53 zd53 pl53 by53 sz54 ag54 ok54 kk54 iu54 zc54 zd54 by54 sz55 ag55 ok55 kk55 iu55 zc55 zd55 by55 sz56 ag56 ok56 sl56 zc56 zd56 by56 sz57 ag57 ok57 kk57 iu57 zc57 zd57 by57 sz60 ag60 ok60 zc60 zd60 pl60 by60 fl60_0 fl60_1 fl60_2 fl60_3 sz61 ag61 ok61 zc61 zd61 pl61 by61 fl61_0 fl61_1 fl61_2 fl61_3 sz64 ag64 ok64 zc64 by64 sz65 ag65 ok65 zc65 zd65 pl65 by65 fl65_0 fl65_1 sz66 ag66 ok66 zc66 zd66 pl66 by66 fl66_0 fl66_1 sz78 ag78 ok78 sl78 ar78 zc78 zd78 pl78 by78 sz79 ag79 ok79 sl79 ar79 zc79 zd79 pl79 by79 sz81 ag81 ok81 zc81 zd81 pl81 by81 fl81_0 fl81_1 sz82 ag82 ok82 zc82 zd82 pl82 by82 fl82_0 fl82_1 sz84 ag84 ok84 zc84 zd84 pl84 by84 fl84_0 fl84_1 fl84_2 fl84_3 sz85 ag85 ok85 zc85 zd85 pl85 by85 fl85_0 fl85_1 fl85_2 fl85_3 sz92 ag92 ok92 sl92 ar92 zc92 zd92 pl92 by92 sz101 ag101 ok101 zc101 zd101 pl101 by101 fl101_0 fl101_1 sz102 ag102 ok102 zc102 zd102 pl102 by102 fl102_0 fl102_1 sz109 ag109 ok109 zc109 zd109 pl109 by109 fl109_0 fl109_1 fl109_2 sz110 ag110 ok110 zc110 zd110 pl110 by110 fl110_0 fl110_1 fl110_2 sz120 ag120 ok120 sl120 ar120 zc120 zd120 pl120 by120 sz121 ag121 ok121 zc121 zd121 pl121 by121 fl121_0 fl121_1 sz122 ag122 ok122 sl122 ar122 zc122 zd122 pl122 by122 sz130 ag130 ok130 zc130 by130 sz140 ag140 ok140 kk140 iu140 zc140 zd140 by140 sz144 ag144 ok144 zc144 by144







section
def Z8 : List S := [.d (.i .i64 0), .d .nil, .d (.i .i64 0), .d (.i .i64 0), .d (.i .i64 0), .d (.i .i64 0), .d (.i .i64 0), .d (.i .i64 0), .d .nil, .d .nil, .d (.i .i64 0), .d (.i .i64 0), .d (.i .i64 0), .d (.i .i64 0), .d (.i .i64 0)]
attribute [local go_sem] Z8 intC
end
section
attribute [local go_sem] frD
theorem and3 (x : Int) : Go.bits .and .i64 x 3 = x % 4 := and_mask x 2 (by decide)
theorem and1023 (x : Int) : Go.bits .and .i64 x 1023 = x % 1024 := and_mask x 10 (by decide)
theorem rem5 (x : Int) : 1 ≤ 1 + Int.tmod (wrap64 (Int.tmod x 5 + 5)) 5 ∧ 1 + Int.tmod (wrap64 (Int.tmod x 5 + 5)) 5 ≤ 5 := by
  have h1 := Int.tmod_lt_of_pos x (show (0 : Int) < 5 by decide)
  have h2 := Int.lt_tmod_of_pos x (show (0 : Int) < 5 by decide)
  rw [w64 (x := Int.tmod x 5 + 5) (by omega) (by omega)]
  have h3 := Int.tmod_lt_of_pos (Int.tmod x 5 + 5) (show (0 : Int) < 5 by decide)
  have h4 := Int.tmod_nonneg 5 (show 0 ≤ Int.tmod x 5 + 5 by omega)
  omega
/-- a node's Post, as it is made -/
structure PK (n : Nd) (mu sh lo hi p : Int) : Prop where
  p0 : 0 ≤ p ∧ p ≤ 3
  pw : rWeighs n.k = false → p = 0
  m1 : (Go.bits .and .i64 p 1 == 1) = true → (1 ≤ mu ∧ mu ≤ 16384) ∧ 0 ≤ sh ∧ sh ≤ 15
  m0 : (Go.bits .and .i64 p 1 == 1) = false → mu = n.mult ∧ sh = n.shift
  l1 : (Go.bits .and .i64 p 2 == 2) = true → (-4096 ≤ lo ∧ lo ≤ -1) ∧ 0 ≤ hi ∧ hi ≤ 4095
  l0 : (Go.bits .and .i64 p 2 == 2) = false → lo = n.low ∧ hi = n.high
theorem post0 {n : Nd} {l : List Int} (h : n.rchk l = 0) (hp : n.post = 0) (hw : rWeighs n.k = true) : n.mult = 0 ∧ n.shift = 0 ∧ n.low = 0 ∧ n.high = 0 := by
  obtain ⟨_, _, _, he, _, _⟩ := rchk_unpack h
  have e12 : n.e12 = true := by
    unfold Nd.else0 at he
    repeat' (split at he <;> try (cases he; done))
    exact he
  unfold Nd.e12 Nd.bsc Nd.bcl at e12
  have hk : n.k ≠ 9 ∧ n.k ≠ 10 := by
    unfold rWeighs at hw
    simp only [Bool.or_eq_true, beq_iff_eq] at hw
    omega
  rw [hp, show (Go.bits .and .i64 0 1 == 1) = false by decide, show (Go.bits .and .i64 0 2 == 2) = false by decide] at e12
  simp [hk] at e12
  omega
theorem PK.chk {n : Nd} {l : List Int} {mu sh lo hi p : Int} (h : n.rchk l = 0) (hp : n.post = 0) (k : PK n mu sh lo hi p) : (n.wp mu sh lo hi p).rchk l = 0 := by
  cases hw : rWeighs n.k with
  | false =>
    have e := k.pw hw
    subst e
    have e1 := k.m0 (by decide)
    have e2 := k.l0 (by decide)
    have : n.wp mu sh lo hi 0 = n := by
      rw [e1.1, e1.2, e2.1, e2.2, ← hp]
      rfl
    rw [this]; exact h
  | true =>
    have z := post0 h hp hw
    refine rchk_post h hw k.p0 ?_ ?_
    · show ((n.k == 10 || Go.bits .and .i64 p 1 == 1 || mu == 0 && sh == 0) && (n.k == 9 || Go.bits .and .i64 p 2 == 2 || lo == 0 && hi == 0)) = true
      have a : (Go.bits .and .i64 p 1 == 1 || mu == 0 && sh == 0) = true := by
        cases e : (Go.bits .and .i64 p 1 == 1) with
        | true => rfl
        | false => have := k.m0 e; simp [this, z]
      have b : (Go.bits .and .i64 p 2 == 2 || lo == 0 && hi == 0) = true := by
        cases e : (Go.bits .and .i64 p 2 == 2) with
        | true => rfl
        | false => have := k.l0 e; simp [this, z]
      rw [Bool.or_assoc, Bool.or_assoc, a, b]; simp
    · show (inB mu 0 32767 && inB sh 0 30 && inB lo (-2147483648) 2147483647 && inB hi (-2147483648) 2147483647 && decide (lo ≤ hi)) = true
      have a : (0 ≤ mu ∧ mu ≤ 32767) ∧ 0 ≤ sh ∧ sh ≤ 30 := by
        cases e : (Go.bits .and .i64 p 1 == 1) with
        | true => have := k.m1 e; omega
        | false => have := k.m0 e; omega
      have b : -4096 ≤ lo ∧ lo ≤ hi ∧ hi ≤ 4095 := by
        cases e : (Go.bits .and .i64 p 2 == 2) with
        | true => have := k.l1 e; omega
        | false => have := k.l0 e; omega
      rw [inB_iff.2 a.1, inB_iff.2 a.2, inB_iff.2 (by omega), inB_iff.2 (by omega), decide_eq_true b.2.1]; rfl
/-- made: a right node, and its frames -/
structure KM (n : Nd) (fs : List (List Int)) (w : Nat) (small : Bool) : Prop extends KOk n fs w where
  w5 : w ≤ 5
  ten : small = true → ∀ f ∈ fs, ∀ x ∈ f, -512 ≤ x ∧ x ≤ 511
end
end Go.Proofs.YtgijboakaodcgaaDoor.Aw
namespace Go.Proofs.YtgijboakaodcgaaDoor.Aw
open Go.RowKit
/-- a contract whose answer is an own row, where the row is only read from now on -/
theorem Cg.data {P : Program} {T : World → Prop} {f : Nat} {xs : List S} {k : Nat} {t : TypeId} {e0 : List D} {es : List (List D)} (C : Cg P T f [] xs (fun r H => H = [(k, .row t e0 es)] ∧ r = .own k)) : Cg P T f [] xs (fun r H => H = [] ∧ r = .d (.row e0 es)) :=
  ⟨C.1, fun F w η vs hT hi hx => (C.2 F w η vs hT hi hx).mono (by
    rintro e w' ⟨r, v, Ho, η', rfl, ⟨rfl, rfl⟩, h1, h2⟩
    have hlk : lh [(k, Obj'.row t e0 es)] k = some (.row t e0 es) := by simp [lh]
    refine ⟨_, v, [], η, rfl, ⟨rfl, rfl⟩, ?_, ⟨fun k o hk => (by simp [lh] at hk), fun k o g hk => (by simp [lh] at hk), fun k k' o o' _ hk => (by simp [lh] at hk), fun k o hk => (by simp [lh] at hk), fun k _ => rfl, h2.bel⟩⟩
    simp only [RS] at h1 ⊢
    subst h1
    obtain ⟨xs', ho, r⟩ := h2.ob k _ hlk
    have hs : Sub (Gd w F [(k, Obj'.row t e0 es)] η') w' (Gd w F [] η) w' := fun b o hb ho => ⟨⟨hb.1, fun k o hk => by simp [lh] at hk⟩, ho⟩
    have r := RdE.mono hs _ _ _ _ r
    have hF : ∀ g, blk (η' k) = some g → Gd w F [] η g := fun g hg => ⟨by
      rcases (h2.ge k _ g hlk hg).2 with h3 | ⟨k', o', h3, _⟩
      · exact .inl h3
      · simp [lh] at h3, fun k o hk => by simp [lh] at hk⟩
    simp only [Rd]
    rcases ho.2 with ⟨hv, hn⟩ | ⟨g, cap, cur, hv, hb, hh, hc, hm, hcs, ht⟩
    · have : es = [] := List.eq_nil_of_length_eq_zero hn
      subst this
      exact ⟨none, 0, hv, Nat.le_refl _, .inl ⟨rfl, fun _ => rfl⟩⟩
    · refine ⟨_, cap, hv, hc, .inr ⟨_, cur, t, (0, 0), rfl, rfl, hF g (by rw [hv]; rfl), hh, r.congr fun j hj => ?_⟩⟩
      simp only [Nat.zero_add, List.getElem?_toArray]
      rw [← ht, List.getElem?_take, if_pos hj]
      simp)⟩
/-- a contract whose answer is an own row of numbers, in the other form -/
theorem Cg.ctrow {P : Program} {T : World → Prop} {f : Nat} {xs : List S} {k : Nat} {t : TypeId} {e0 : List D} {es : List (List D)} (C : Cg P T f [] xs (fun r H => H = [(k, .row t e0 es)] ∧ r = .own k)) (hfl : flatE es) : Ct P T f xs true (fun r => r = .d (.row e0 es)) :=
  ⟨C.1, fun F w vs hT hx => (C.2 F w η0 vs hT ⟨fun k o hk => (by simp [lh] at hk), fun k o g hk => (by simp [lh] at hk), fun k k' o o' _ hk => (by simp [lh] at hk)⟩ hx).mono (by
    rintro e w' ⟨r, v, Ho, η', rfl, ⟨rfl, rfl⟩, h1, h2⟩
    have hlk : lh [(k, Obj'.row t e0 es)] k = some (.row t e0 es) := by simp [lh]
    refine ⟨_, v, rfl, rfl, ?_, h2.bel.below fun b ⟨k, o, hk, _⟩ => by simp [lh] at hk⟩
    simp only [RS] at h1 ⊢
    subst h1
    obtain ⟨xs', ho, r⟩ := h2.ob k _ hlk
    have r := flat_row (F' := fun b => w.heap.size ≤ b ∨ (true = false ∧ F b)) (w' := w') hfl r
    have hF : ∀ g, blk (η' k) = some g → w.heap.size ≤ g := fun g hg => by
      rcases (h2.ge k _ g hlk hg).2 with h3 | ⟨k', o', h3, _⟩
      · exact h3
      · simp [lh] at h3
    simp only [Rd]
    rcases ho.2 with ⟨hv, hn⟩ | ⟨g, cap, cur, hv, hb, hh, hc, hm, hcs, ht⟩
    · have : es = [] := List.eq_nil_of_length_eq_zero hn
      subst this
      exact ⟨none, 0, hv, Nat.le_refl _, .inl ⟨rfl, fun _ => rfl⟩⟩
    · refine ⟨_, cap, hv, hc, .inr ⟨_, cur, t, (0, 0), rfl, rfl, .inl (hF g (by rw [hv]; rfl)), hh, r.congr fun j hj => ?_⟩⟩
      simp only [Nat.zero_add, List.getElem?_toArray]
      rw [← ht, List.getElem?_take, if_pos hj]
      simp)⟩
/-- arguments whose nils are rows of none -/
theorem Ct.wk {P : Program} {T : World → Prop} {f : Nat} {cs cs' : List S} {rest : List S} {fr : Bool} {post : S → Prop} (C : Ct P T f (.agg cs' :: rest) fr post) (h : wk cs cs') : Ct P T f (.agg cs :: rest) fr post :=
  ⟨C.1, fun F w vs hT hx => C.2 F w vs hT (by
    simp only [RSL] at hx ⊢
    obtain ⟨v, l, e, h1, h2⟩ := hx
    refine ⟨v, l, e, ?_, h2⟩
    simp only [RS] at h1 ⊢
    obtain ⟨ws, h3, h4⟩ := h1
    exact ⟨ws, h3, wk_ok h h4⟩)⟩
end Go.Proofs.YtgijboakaodcgaaDoor.Aw
namespace Go.Proofs.YtgijboakaodcgaaDoor.Aw
open Go.RowKit
attribute [local go_sem_proc] Nat.reduceAdd Nat.reduceMul Nat.reduceSub Nat.reduceEqDiff Nat.reduceLeDiff Nat.reduceBEq Nat.reduceBNe Int.reduceToNat reduceIte reduceCtorEq
attribute [local go_sem] initT SQ so pe he ev lk constS stp stc gdS nth pickS pickD loadS cellsAt okAt fieldAddrS fieldS partS indexAddrS indexS extractS binS binD binI isShift unS convS lenS sliceS bndI bndC mmS mm2 mmD builtS fillS okCells cellsS splS solid aliveL alive okS boxS allocS makeS bsliceS elemsOf dcells stF storeS frzA frz frzT frzS frzL frzO frzH appS srcS appVC killS killT killC killH killO k1 k2 S.has S.hasL St.add St.upd dropH lh cond_or cond_and rw_intC rw_intC0 rw_set rw_app rw_apps rw_rep rw_slice wr64 cond_true cond_false true_and and_true List.map_cons List.map_nil List.length_cons List.length_nil List.drop_succ_cons List.drop_zero List.take_succ_cons List.take_zero List.nil_append List.cons_append List.getD_cons_zero List.getD_cons_succ List.headD_cons List.length_map ite_true ite_false if_true if_false Bool.false_eq_true and_self forall_const List.drop_nil List.take_nil List.append_nil Option.map_some Option.map_none List.mapM_cons List.mapM_nil Option.bind_eq_bind Option.bind_some Option.pure_def knows resL resV oneS freshS freshL cv cvL stpL stcL or_true true_or or_false false_or List.all_cons List.all_nil Bool.and_self Bool.or_self Bool.true_and Bool.and_true Bool.or_false Bool.false_or implies_true flatD allm_nil allm_cons List.getElem?_cons_zero List.getElem?_cons_succ Nd.cs Nd.ds ml mln Option.isSome_some Option.isSome_none eq_self Int.toNat_natCast AP ldOk isLd inL subL crt chg chgS chgP idxs aliveW Option.toList_some Option.toList_none Option.toList RetG Nd.win frzA offK keepH aliveK nkH closedH closedO keysK inH St.upd rowO List.contains_cons List.contains_nil Bool.or_self Option.isNone_none Option.isNone_some Bool.not_true Bool.not_false gcs rowN e0N frzC
attribute [local go_sem] sz2 ag2 ok2 kk2 iu2 zc2 zd2 by2 sz3 ag3 ok3 kk3 iu3 zc3 zd3 by3 sz4 ag4 ok4 bo4 zc4 zd4 by4 sz5 ag5 ok5 kk5 iu5 zc5 zd5 by5 sz9 ag9 ok9 st9 zc9 zd9 by9 sz12 ag12 ok12 kk12 iu12 zc12 zd12 by12 sz15 ag15 ok15 zc15 by15 sz16 ag16 ok16 zc16 by16 sz21 ag21 ok21 kk21 iu21 zc21 zd21 by21 sz22 ag22 ok22 sl22 zc22 zd22 by22 sz23 ag23 ok23 zc23 zd23 pl23 by23 fl23_0 fl23_1 fl23_2 fl23_3 fl23_4 fl23_5 sz24 ag24 ok24 zc24 zd24 pl24 by24 fl24_0 fl24_1 fl24_2 fl24_3 fl24_4 fl24_5 sz26 ag26 ok26 zc26 zd26 pl26 by26 fl26_0 fl26_1 fl26_2 fl26_3 fl26_4 fl26_5 fl26_6 fl26_7 fl26_8 fl26_9 fl26_10 fl26_11 fl26_12 fl26_13 fl26_14 sz27 ag27 ok27 zc27 zd27 pl27 by27 fl27_0 fl27_1 fl27_2 fl27_3 fl27_4 fl27_5 fl27_6 fl27_7 fl27_8 fl27_9 fl27_10 fl27_11 fl27_12 fl27_13 fl27_14 sz28 ag28 ok28 sl28 zc28 zd28 by28 sz38 ag38 ok38 sl38 ar38 zc38 zd38 pl38 by38 sz44 ag44 ok44 sl44 ar44 zc44 zd44 pl44 by44 sz45 ag45 ok45 sl45 zc45 zd45 by45 sz46 ag46 ok46 zc46 zd46 pl46 by46 fl46_0 fl46_1 fl46_2 fl46_3 fl46_4 sz47 ag47 ok47 zc47 zd47 pl47 by47 fl47_0 fl47_1 fl47_2 fl47_3 fl47_4 sz49 ag49 ok49 kk49 iu49 zc49 zd49 by49 sz53 ag53 ok53 sl53 ar53 zc53 zd53 pl53 by53 sz54 ag54 ok54 kk54 iu54 zc54 zd54 by54 sz55 ag55 ok55 kk55 iu55 zc55 zd55 by55 sz56 ag56 ok56 sl56 zc56 zd56 by56 sz57 ag57 ok57 kk57 iu57 zc57 zd57 by57 sz60 ag60 ok60 zc60 zd60 pl60 by60 fl60_0 fl60_1 fl60_2 fl60_3 sz61 ag61 ok61 zc61 zd61 pl61 by61 fl61_0 fl61_1 fl61_2 fl61_3 sz64 ag64 ok64 zc64 by64 sz65 ag65 ok65 zc65 zd65 pl65 by65 fl65_0 fl65_1 sz66 ag66 ok66 zc66 zd66 pl66 by66 fl66_0 fl66_1 sz78 ag78 ok78 sl78 ar78 zc78 zd78 pl78 by78 sz79 ag79 ok79 sl79 ar79 zc79 zd79 pl79 by79 sz81 ag81 ok81 zc81 zd81 pl81 by81 fl81_0 fl81_1 sz82 ag82 ok82 zc82 zd82 pl82 by82 fl82_0 fl82_1 sz84 ag84 ok84 zc84 zd84 pl84 by84 fl84_0 fl84_1 fl84_2 fl84_3 sz85 ag85 ok85 zc85 zd85 pl85 by85 fl85_0 fl85_1 fl85_2 fl85_3 sz92 ag92 ok92 sl92 ar92 zc92 zd92 pl92 by92 sz101 ag101 ok101 zc101 zd101 pl101 by101 fl101_0 fl101_1 sz102 ag102 ok102 zc102 zd102 pl102 by102 fl102_0 fl102_1 sz109 ag109 ok109 zc109 zd109 pl109 by109 fl109_0 fl109_1 fl109_2 sz110 ag110 ok110 zc110 zd110 pl110 by110 fl110_0 fl110_1 fl110_2 sz120 ag120 ok120 sl120 ar120 zc120 zd120 pl120 by120 sz121 ag121 ok121 zc121 zd121 pl121 by121 fl121_0 fl121_1 sz122 ag122 ok122 sl122 ar122 zc122 zd122 pl122 by122 sz130 ag130 ok130 zc130 by130 sz140 ag140 ok140 kk140 iu140 zc140 zd140 by140 sz144 ag144 ok144 zc144 by144
section
attribute [local go_sem] frD
/-! frames in another order -/
/-- a node's cells, without Weights and Bias -/
def csN (n : Nd) : List S := [.d (.i .i64 n.k), .d (.row [.i .i64 0] (n.inn.map intC)), .d (.i .i64 n.wid), .d (.i .i64 n.size), .d (.i .i64 n.step), .d (.i .i64 n.gap), .d (.i .i64 n.left), .d (.i .i64 n.right), .d .nil, .d .nil, .d (.i .i64 n.mult), .d (.i .i64 n.shift), .d (.i .i64 n.low), .d (.i .i64 n.high), .d (.i .i64 n.post)]
theorem csN_wk {n : Nd} (h1 : n.ws = []) (h2 : n.bs = []) : wk (csN n) n.cs := by
  unfold csN Nd.cs
  rw [h1, h2]
  simp [wk]
theorem Frame_n {T : World → Prop} (Tk : KT T) (n : Nd) (fs : List (List Int)) (w : Nat) (h : KOk n fs w) (h1 : n.ws = []) (h2 : n.bs = []) : Ct Go.Proofs.Tryd.prog T 15 [.agg (csN n), .d (frD fs)] true (fun r => r = .d (.row [.i .i64 0] ((frameV n fs w).map intC))) :=
  ((Frame_c Tk n fs w h).ctrow (flat_ints _)).wk (csN_wk h1 h2)
def nPo (k m : Int) : Nd := ⟨k, [0], 0, m, 1, 1, 0, 0, [], [], 0, 0, 0, 0, 0⟩
def nWh : Nd := ⟨5, [0], 0, 0, 0, 0, 0, 0, [], [], 0, 0, 0, 0, 0⟩
def nSm (m : Int) : Nd := ⟨12, [0], 0, m, 0, 0, 0, 0, [], [], 0, 0, 0, 0, 0⟩
def nAd : Nd := ⟨7, [1, 2], 0, 0, 0, 0, 0, 0, [], [], 0, 0, 0, 0, 0⟩
structure GO (gs : List (List Int)) (w m : Nat) : Prop where
  m0 : 2 ≤ m ∧ m ≤ 5
  w0 : 1 ≤ w ∧ w ≤ 5
  gl : gs.length = m
  len : ∀ f ∈ gs, f.length = w
  ten : ∀ f ∈ gs, ∀ x ∈ f, -512 ≤ x ∧ x ≤ 511
structure TN (nd : Nd) (m : Nat) : Prop where
  k : nd.k = 3 ∨ nd.k = 4 ∨ nd.k = 5 ∨ nd.k = 12
  inn : nd.inn = [0]
  ws : nd.ws = []
  bs : nd.bs = []
  post : nd.post = 0
  size : rWin nd.k = true → nd.size = m
  e0 : nd.else0 = true
  sz : ∀ w, nd.sized w = true
theorem sized_no {n : Nd} (hw : rWeighs n.k = false) (h4 : n.s4 = false) (h8 : n.s8 = false) (h10 : n.s10 = false) (h13 : n.s13 = false) (h27 : n.s27 = true) (w : Int) : n.sized w = true := by
  unfold Nd.sized
  rw [h4, h8, h10, h13, hw, h27]
  rfl
theorem TN.all (m : Nat) (h : 2 ≤ m ∧ m ≤ 5) : TN (nPo 3 m) m ∧ TN (nPo 4 m) m ∧ TN nWh m ∧ TN (nSm m) m := by
  have : m = 2 ∨ m = 3 ∨ m = 4 ∨ m = 5 := by omega
  rcases this with rfl | rfl | rfl | rfl
  all_goals
    refine ⟨⟨.inl rfl, rfl, rfl, rfl, rfl, fun _ => rfl, by decide, sized_no (by decide +kernel) (by decide +kernel) (by decide +kernel) (by decide +kernel) (by decide +kernel) (by decide +kernel)⟩, ⟨.inr (.inl rfl), rfl, rfl, rfl, rfl, fun _ => rfl, by decide, sized_no (by decide +kernel) (by decide +kernel) (by decide +kernel) (by decide +kernel) (by decide +kernel) (by decide +kernel)⟩, ⟨.inr (.inr (.inl rfl)), rfl, rfl, rfl, rfl, fun e => (by cases e), by decide, sized_no (by decide +kernel) (by decide +kernel) (by decide +kernel) (by decide +kernel) (by decide +kernel) (by decide +kernel)⟩, ⟨.inr (.inr (.inr rfl)), rfl, rfl, rfl, rfl, fun _ => rfl, by decide, sized_no (by decide +kernel) (by decide +kernel) (by decide +kernel) (by decide +kernel) (by decide +kernel) (by decide +kernel)⟩⟩
theorem TN.ok {nd : Nd} {m w : Nat} {gs : List (List Int)} (t : TN nd m) (h : GO gs w m) : KOk nd gs w := by
  have hm := h.m0
  have hw := h.w0
  have hg := h.gl
  have e2 : rMany nd.k = false := by rcases t.k with e | e | e | e <;> rw [e] <;> rfl
  refine ⟨by omega, by omega, h.len, fun f hf x hx => by have := h.ten f hf x hx; unfold in32; omega, fun e => by rw [t.size e, hg], fun e => (by rw [e2] at e; cases e), fun e1 _ e5 => ?_, ?_, by rw [t.inn]; simp, by rw [t.ws]; simp, by rw [t.bs]; simp⟩
  · exfalso
    rcases t.k with e | e | e | e
    · rw [e] at e1; cases e1
    · rw [e] at e1; cases e1
    · exact e5 e
    · rw [e] at e1; cases e1
  · rw [t.inn]
    exact rchk_one (a := 0) (by omega) (by rcases t.k with e | e | e | e <;> rw [e] <;> rfl) e2 t.inn t.post t.e0 (t.sz _)
theorem TN.v {nd : Nd} {m : Nat} (t : TN nd m) (gs : List (List Int)) (w : Nat) : frameV nd gs w = eachL (fun xs => rd xs (mostV xs)) gs w ∨ frameV nd gs w = eachL meanV gs w := by
  unfold frameV
  rcases t.k with e | e | e | e <;> rw [e]
  · exact .inl rfl
  · exact .inr rfl
  · exact .inl rfl
  · exact .inr rfl
theorem TN.v' {nd : Nd} {m : Nat} (t : TN nd m) : (∀ gs w, frameV nd gs w = eachL (fun xs => rd xs (mostV xs)) gs w) ∨ ∀ gs w, frameV nd gs w = eachL meanV gs w := by
  rcases t.k with e | e | e | e
  · exact .inl fun gs w => by unfold frameV; rw [e]; rfl
  · exact .inr fun gs w => by unfold frameV; rw [e]; rfl
  · exact .inl fun gs w => by unfold frameV; rw [e]; rfl
  · exact .inr fun gs w => by unfold frameV; rw [e]; rfl
theorem TN.rev {nd : Nd} {m w : Nat} {gs : List (List Int)} (t : TN nd m) (h : GO gs w m) : frameV nd gs.reverse w = frameV nd gs w := by
  have hm := h.m0
  have hg := h.gl
  rcases t.v' with e | e
  · rw [e, e]
    exact eachL_rev _ _ _ fun xs hx => most_same (by rw [List.length_reverse]; omega) fun x => List.mem_reverse
  · rw [e, e]
    refine eachL_rev _ _ _ fun xs hx => ?_
    unfold meanV
    rw [sum_rev, List.length_reverse]
theorem TN.same {nd : Nd} {m w : Nat} {gs : List (List Int)} (t : TN nd m) (h : GO gs w m) : frameV nd (List.replicate m (fr gs 0)) w = fr gs 0 := by
  have hm := h.m0
  have hg := h.gl
  have hl : (fr gs 0).length = w := h.len _ (fr_mem (by omega) (by omega))
  rw [← hl]
  rcases t.v' with e | e
  · rw [e]; exact eachL_same _ _ _ fun x => most_rep m (by omega) x
  · rw [e]; exact eachL_same _ _ _ fun x => mean_rep m (by omega) x
theorem GO.rev {gs : List (List Int)} {w m : Nat} (h : GO gs w m) : GO gs.reverse w m := ⟨h.m0, h.w0, by rw [List.length_reverse]; exact h.gl, fun f hf => h.len f (List.mem_reverse.1 hf), fun f hf => h.ten f (List.mem_reverse.1 hf)⟩
theorem GO.rep {gs : List (List Int)} {w m : Nat} (h : GO gs w m) : GO (List.replicate m (fr gs 0)) w m := by
  have hm := h.m0
  have hg := h.gl
  have hf := fr_mem (fs := gs) (i := 0) (by omega) (by omega)
  exact ⟨h.m0, h.w0, by simp, fun f hf' => by rw [List.eq_of_mem_replicate hf']; exact h.len _ hf, fun f hf' => by rw [List.eq_of_mem_replicate hf']; exact h.ten _ hf⟩
theorem best_ok {f : List Int} {w : Nat} (hw : 1 ≤ w ∧ w ≤ 5) (hl : f.length = w) (ht : ∀ x ∈ f, -512 ≤ x ∧ x ≤ 511) : KOk nBst [f] w :=
  ⟨by omega, by simp, by simpa using hl, fun g hg x hx => by obtain rfl := List.mem_singleton.1 hg; have := ht x hx; unfold in32; omega, fun e => (by cases (show (false : Bool) = true from e)), fun e => (by cases (show (false : Bool) = true from e)), fun _ _ _ => rfl, rchk_one (a := 0) (by omega) rfl rfl rfl rfl rfl rfl, by decide, by decide, by decide⟩
theorem add_ok {f g : List Int} {w : Nat} (hw : 1 ≤ w ∧ w ≤ 5) (hf : f.length = w) (hg : g.length = w) (tf : ∀ x ∈ f, -512 ≤ x ∧ x ≤ 511) (tg : ∀ x ∈ g, -512 ≤ x ∧ x ≤ 511) : KOk nAd [f, g] w :=
  ⟨by omega, by simp, by simp [hf, hg], fun q hq x hx => by
    simp at hq
    unfold in32
    rcases hq with rfl | rfl
    · have := tf x hx; omega
    · have := tg x hx; omega, fun e => (by cases (show (false : Bool) = true from e)), fun _ => rfl, fun _ e => (by cases (show (true : Bool) = false from e)), (made_two (k := 7) (a := 1) (b := 2) (v := w) (w := w) (st := false) (by omega) (by omega) (.inl ⟨rfl, rfl⟩)).chk, by decide, by decide, by decide⟩
theorem add_turn {f g : List Int} {w : Nat} (hf : f.length = w) (hg : g.length = w) (tf : ∀ x ∈ f, -512 ≤ x ∧ x ≤ 511) (tg : ∀ x ∈ g, -512 ≤ x ∧ x ≤ 511) : frameV nAd [g, f] w = frameV nAd [f, g] w := by
  show eachL addV [g, f] w = eachL addV [f, g] w
  unfold eachL
  refine List.map_congr_left fun k hk => ?_
  have hk := List.mem_range.1 hk
  have a := tf _ (rd_mem (l := f) (j := k) (by omega) (by omega))
  have b := tg _ (rd_mem (l := g) (j := k) (by omega) (by omega))
  show addV [rd g k, rd f k] = addV [rd f k, rd g k]
  rw [add_two _ _ b a, add_two _ _ a b, Int.add_comm]
end
section
def spC (nums vals : List Int) (wd po : Int) (two small : Bool) : List S := [.d (.row [.i .i64 0] (nums.map intC)), .d (.row [.i .i64 0] (vals.map intC)), .d (.i .i64 wd), .d (.i .i64 po), .d (.b two), .d (.b small)]
attribute [local go_sem] frD spC Z8 Z8 Z8 Z8 Z8 Z8 Nd.wp Nd.wq
def PKM (small : Bool) (r : S) : Prop := ∃ n fs w, r = .tup [.agg (Nd.cs n), .d (frD fs)] ∧ KM n fs w small
end
/-! the document's sat and round, over words -/
section
attribute [local go_sem] frD
end
section
attribute [local go_sem] frD
theorem KOk.wm {n : Nd} {fs : List (List Int)} {w : Nat} (h : KOk n fs w) (hw : rWin n.k = true) : rMany n.k = false := by
  unfold rWin at hw
  unfold rMany
  simp only [Bool.or_eq_true, beq_iff_eq] at hw
  simp only [Bool.or_eq_false_iff, beq_eq_false_iff_ne]
  omega
theorem KOk.may {n : Nd} {fs : List (List Int)} {w : Nat} (h : KOk n fs w) : (rWin n.k && (fs.length : Int) != n.size || n.k == 5 && decide ((fs.length : Int) < 1) || rMany n.k && (fs.length : Int) != (n.inn.length : Int) || !rWin n.k && !rMany n.k && n.k != 5 && (fs.length : Int) != 1) = false := by
  have q1 : decide ((fs.length : Int) < 1) = false := by have := h.m0; simp; omega
  rw [q1]
  cases hA : rWin n.k with
  | true => rw [h.win hA, h.wm hA]; simp
  | false =>
    cases hB : rMany n.k with
    | true => rw [h.many hB]; simp
    | false =>
      by_cases h5 : n.k = 5
      · simp [h5]
      · rw [h.one hA hB h5]; simp
end
section
attribute [local go_sem] frD
def J3 (n : Nd) (fs : List (List Int)) (w : Nat) (c j k x : Int) (L : List Int) : St := ⟨[(1, .d (frD fs)), (2, .ptr 2 0), (5, .d (.i .i64 w)), (6, .own 3001), (7, .d (.i .i64 c)), (8, .d (.i .i64 x)), (9, .d (.i .i64 j)), (10, .d (.i .i64 k))], [(2, .box 27 n.cs), (3001, .row 3 [.i .i64 0] (L.map intC))]⟩
attribute [local go_sem] J3
end
section
attribute [local go_sem] frD
def gV (n : Nd) (xs : List Int) : Int :=
  if n.k = 3 ∨ n.k = 5 then rd xs (mostV xs)
  else if n.k = 4 ∨ n.k = 12 then meanV xs
  else if n.k = 7 then addV xs
  else if n.k = 9 then clampV (rd xs 0) n.low n.high
  else if n.k = 10 then scaleV (rd xs 0) n.mult n.shift
  else rd xs 0
end
section
attribute [local go_sem] frD spC
theorem flat_len (w : Nat) : ∀ fs : List (List Int), (∀ f ∈ fs, f.length = w) → fs.flatten.length = fs.length * w
  | [], _ => by simp
  | f :: fs, h => by
    rw [List.flatten_cons, List.length_append, flat_len w fs (fun g hg => h g (List.mem_cons_of_mem _ hg)), h f (List.mem_cons_self ..), List.length_cons, Nat.add_mul]
    omega
theorem KOk.flen {n : Nd} {fs : List (List Int)} {w : Nat} (h : KOk n fs w) : (frameV n fs w).length ≤ 256 := by
  have hm := h.m0
  have hw := h.w0
  unfold frameV
  split
  · rename_i hq
    have := (h.wok hq).b0
    unfold weighedV
    rw [weighedN_len]; omega
  repeat' (split)
  all_goals first
    | (rw [eachL_len]; omega)
    | (simp; done)
    | (rw [flat_len w fs h.len]; exact Nat.le_trans (Nat.mul_le_mul hm.2 hw.2) (by decide))
end
section
attribute [local go_sem] intC frD csN nPo nWh nSm nAd nBst frE
def P24 (gs : List (List Int)) (w m : Nat) : Tm := [(7, .d (.b true)), (8, .d (.i .i64 w)), (9, .d (.i .i64 m)), (10, .d (frD gs))]
attribute [local go_sem] P24
theorem fr_app (gs : List (List Int)) (f : List Int) {j : Int} (h0 : 0 ≤ j) : fr (gs ++ [f]) j = if j < gs.length then fr gs j else if j = gs.length then f else [] := by
  unfold fr
  rw [List.getD_eq_getElem?_getD, List.getD_eq_getElem?_getD]
  split
  · rw [List.getElem?_append_left (by omega)]
  · rw [List.getElem?_append_right (by omega)]
    split
    · rename_i h; rw [show j.toNat - gs.length = 0 by omega]; rfl
    · obtain ⟨q, hq⟩ : ∃ q, j.toNat - gs.length = q + 1 := ⟨j.toNat - gs.length - 1, by omega⟩
      rw [hq]; simp
def AR (m : Int) : List S := csN (nPo 3 m) ++ csN (nPo 4 m) ++ csN nWh ++ csN (nSm m)
attribute [local go_sem] AR
theorem KernelTurned_c {T : World → Prop} (Tk : KT T) (xs : List Int) (wd many : Int) : Cg Go.Proofs.Tryd.prog T 6 [] [.d (.row [.i .i64 0] (xs.map intC)), .d (.i .i64 wd), .d (.i .i64 many)] (fun r H => H = [] ∧ r = .d (.b true)) := by
  obtain ⟨w0, w1⟩ := rem5 wd
  have hw : wrap64 (1 + Int.tmod (wrap64 (Int.tmod wd 5 + 5)) 5) = 1 + Int.tmod (wrap64 (Int.tmod wd 5 + 5)) 5 := w64 (by omega) (by omega)
  refine Cg_of [] Tk.m Go.Proofs.Tryd.func6 rfl rfl Go.Proofs.Tryd.ntmps6 (by simp) rfl (rs := [.tmp 6]) rfl fun E hP hn hT hpn => ?_
  (repeat (first | refine Tr.seq ?_ | refine Tr.skip ?_ | refine Tr.label ?_ | refine Tr.block ?_ | refine Tr.scope ?_ | refine gs1 ?_ | refine gs2 ?_ | refine gs3 ?_ | refine Tr.exit ?_ | refine Tr.goto ?_ | refine Tr.ret ?_ | refine n1 ?_ | refine n2 ?_ | refine n3 ?_ | refine n4 ?_ | refine n5 ?_ | refine n6 ?_ | refine n7 ?_ | refine n8 ?_ | refine n9 (by decide) ?_))
  (first | refine r1 ?_ | refine r2 ?_ | refine r3 ?_); intro K hK; simp only [go_sem, hP, hn]; (repeat (refine ⟨by first | trivial | omega | (simp <;> omega) | (simp +contextual; done) | (clear hK; grind), ?_⟩)); refine hK _ ?_; clear K hK
  (repeat (first | refine Tr.seq ?_ | refine Tr.skip ?_ | refine Tr.label ?_ | refine Tr.block ?_ | refine Tr.scope ?_ | refine gs1 ?_ | refine gs2 ?_ | refine gs3 ?_ | refine Tr.exit ?_ | refine Tr.goto ?_ | refine Tr.ret ?_ | refine n1 ?_ | refine n2 ?_ | refine n3 ?_ | refine n4 ?_ | refine n5 ?_ | refine n6 ?_ | refine n7 ?_ | refine n8 ?_ | refine n9 (by decide) ?_))
  (first | refine r1 ?_ | refine r2 ?_ | refine r3 ?_); intro K hK; simp only [go_sem, hP, hn]
  (repeat (refine ⟨by first | trivial | omega | (simp <;> omega) | (simp +contextual; done) | (clear hK; grind), ?_⟩))
  refine CallN_cs (Hi := [] ) (by rw [hP, hT]; exact  awake17_c Tk) rfl rfl rfl trivial (by simp only [go_sem, hP, hn]; try trivial) (by simp only [go_sem, hP, hn]; try rfl) (by simp only [inH, go_sem, hP, hn]; try simp) (by rw [hn]; decide) ?_; simp only [go_sem, hP, hn]; (repeat (refine ⟨by first | trivial | omega | (simp <;> omega) | (simp +contextual; done) | (clear hK; grind), ?_⟩))
  refine hK _ ?_; clear K hK
  (repeat (first | refine Tr.seq ?_ | refine Tr.skip ?_ | refine Tr.label ?_ | refine Tr.block ?_ | refine Tr.scope ?_ | refine gs1 ?_ | refine gs2 ?_ | refine gs3 ?_ | refine Tr.exit ?_ | refine Tr.goto ?_ | refine Tr.ret ?_ | refine n1 ?_ | refine n2 ?_ | refine n3 ?_ | refine n4 ?_ | refine n5 ?_ | refine n6 ?_ | refine n7 ?_ | refine n8 ?_ | refine n9 (by decide) ?_))
  (first | refine r1 ?_ | refine r2 ?_ | refine r3 ?_); intro K hK; simp only [hw, go_sem, hP, hn]; (repeat (refine ⟨by first | trivial | omega | (simp <;> omega) | (simp +contextual; done) | (clear hK; grind), ?_⟩)); refine hK _ ?_; clear K hK
  generalize 1 + Int.tmod (wrap64 (Int.tmod wd 5 + 5)) 5 = wi at *
  obtain ⟨w, rfl⟩ : ∃ w : Nat, wi = w := ⟨wi.toNat, by omega⟩
  clear hw
  (repeat (first | refine Tr.seq ?_ | refine Tr.skip ?_ | refine Tr.label ?_ | refine Tr.block ?_ | refine Tr.scope ?_ | refine gs1 ?_ | refine gs2 ?_ | refine gs3 ?_ | refine Tr.exit ?_ | refine Tr.goto ?_ | refine Tr.ret ?_ | refine n1 ?_ | refine n2 ?_ | refine n3 ?_ | refine n4 ?_ | refine n5 ?_ | refine n6 ?_ | refine n7 ?_ | refine n8 ?_ | refine n9 (by decide) ?_))
  (first | refine r1 ?_ | refine r2 ?_ | refine r3 ?_); intro K hK; simp only [go_sem, hP, hn]
  rw [and3, w64 (x := 2 + many % 4) (by omega) (by omega)]
  (repeat (refine ⟨by first | trivial | omega | (simp <;> omega) | (simp +contextual; done) | (clear hK; grind), ?_⟩))
  refine hK _ ?_; clear K hK
  have hm : 2 ≤ 2 + many % 4 ∧ 2 + many % 4 ≤ 5 := by omega
  generalize 2 + many % 4 = mi at *
  obtain ⟨m, rfl⟩ : ∃ m : Nat, mi = m := ⟨mi.toNat, by omega⟩
  refine Tr.le (Le.keep [0, 7, 8, 9]) ?_; simp only [List.map_cons, List.map_nil, lk, Nat.reduceEqDiff, reduceIte]
  (repeat (first | refine Tr.seq ?_ | refine Tr.skip ?_ | refine Tr.label ?_ | refine Tr.block ?_ | refine Tr.scope ?_ | refine gs1 ?_ | refine gs2 ?_ | refine gs3 ?_ | refine Tr.exit ?_ | refine Tr.goto ?_ | refine Tr.ret ?_ | refine n1 ?_ | refine n2 ?_ | refine n3 ?_ | refine n4 ?_ | refine n5 ?_ | refine n6 ?_ | refine n7 ?_ | refine n8 ?_ | refine n9 (by decide) ?_))
  (first | refine r1 ?_ | refine r2 ?_ | refine r3 ?_); intro K hK; simp only [go_sem, hP, hn]; (repeat (refine ⟨by first | trivial | omega | (simp <;> omega) | (simp +contextual; done) | (clear hK; grind), ?_⟩)); refine hK _ ?_; clear K hK
  refine Tr.le (Le.nilslot 3001 10 22 [.nil] rfl (by rw [hpn] <;> rfl) rfl rfl) ?_
  (repeat (first | refine Tr.seq ?_ | refine Tr.skip ?_ | refine Tr.label ?_ | refine Tr.block ?_ | refine Tr.scope ?_ | refine gs1 ?_ | refine gs2 ?_ | refine gs3 ?_ | refine Tr.exit ?_ | refine Tr.goto ?_ | refine Tr.ret ?_ | refine n1 ?_ | refine n2 ?_ | refine n3 ?_ | refine n4 ?_ | refine n5 ?_ | refine n6 ?_ | refine n7 ?_ | refine n8 ?_ | refine n9 (by decide) ?_))
  (first | refine r1 ?_ | refine r2 ?_ | refine r3 ?_); intro K hK; simp only [go_sem, hP, hn]; (repeat (refine ⟨by first | trivial | omega | (simp <;> omega) | (simp +contextual; done) | (clear hK; grind), ?_⟩)); refine hK _ ?_; clear K hK
  refine Tr.le (Le.nilslot 3002 11 22 [.nil] rfl (by rw [hpn] <;> rfl) rfl rfl) ?_
  (repeat (first | refine Tr.seq ?_ | refine Tr.skip ?_ | refine Tr.label ?_ | refine Tr.block ?_ | refine Tr.scope ?_ | refine gs1 ?_ | refine gs2 ?_ | refine gs3 ?_ | refine Tr.exit ?_ | refine Tr.goto ?_ | refine Tr.ret ?_ | refine n1 ?_ | refine n2 ?_ | refine n3 ?_ | refine n4 ?_ | refine n5 ?_ | refine n6 ?_ | refine n7 ?_ | refine n8 ?_ | refine n9 (by decide) ?_))
  (first | refine r1 ?_ | refine r2 ?_ | refine r3 ?_); intro K hK; simp only [go_sem, hP, hn]; (repeat (refine ⟨by first | trivial | omega | (simp <;> omega) | (simp +contextual; done) | (clear hK; grind), ?_⟩)); refine hK _ ?_; clear K hK
  refine Tr.le (Le.nilslot 3003 12 22 [.nil] rfl (by rw [hpn] <;> rfl) rfl rfl) ?_
  (repeat (first | refine Tr.seq ?_ | refine Tr.skip ?_ | refine Tr.label ?_ | refine Tr.block ?_ | refine Tr.scope ?_ | refine gs1 ?_ | refine gs2 ?_ | refine gs3 ?_ | refine Tr.exit ?_ | refine Tr.goto ?_ | refine Tr.ret ?_ | refine n1 ?_ | refine n2 ?_ | refine n3 ?_ | refine n4 ?_ | refine n5 ?_ | refine n6 ?_ | refine n7 ?_ | refine n8 ?_ | refine n9 (by decide) ?_))
  (first | refine r1 ?_ | refine r2 ?_ | refine r3 ?_); intro K hK; simp only [go_sem, hP, hn]; (repeat (refine ⟨by first | trivial | omega | (simp <;> omega) | (simp +contextual; done) | (clear hK; grind), ?_⟩)); refine hK _ ?_; clear K hK
  (repeat (first | refine Tr.seq ?_ | refine Tr.skip ?_ | refine Tr.label ?_ | refine Tr.block ?_ | refine Tr.scope ?_ | refine gs1 ?_ | refine gs2 ?_ | refine gs3 ?_ | refine Tr.exit ?_ | refine Tr.goto ?_ | refine Tr.ret ?_ | refine n1 ?_ | refine n2 ?_ | refine n3 ?_ | refine n4 ?_ | refine n5 ?_ | refine n6 ?_ | refine n7 ?_ | refine n8 ?_ | refine n9 (by decide) ?_))
  refine Tr.le (Le.keep [0, 7, 8, 9, 10, 11, 12, 13]) ?_; simp only [List.map_cons, List.map_nil, lk, Nat.reduceEqDiff, reduceIte]
  refine Tr.loop (fun q s => ∃ (i : Int) (gs : List (List Int)), s = ⟨[(0, .d (.row [.i .i64 0] (xs.map intC))), (7, .d (.b true)), (8, .d (.i .i64 w)), (9, .d (.i .i64 m)), (10, .own 3001), (11, .own 3002), (12, .own 3003), (13, .d (.i .i64 i))], [(3001, .row 22 [.nil] (gs.map frE)), (3002, .row 22 [.nil] (gs.reverse.map frE)), (3003, .row 22 [.nil] ((List.replicate i.toNat (fr gs 0)).map frE))]⟩ ∧ 0 ≤ i ∧ i + q = m ∧ (gs.length : Int) = i ∧ (∀ f ∈ gs, f.length = w) ∧ ∀ f ∈ gs, ∀ x ∈ f, -512 ≤ x ∧ x ≤ 511) m ⟨_, (Le.mv (by simp only [go_sem, hP, hn]; first | done | (simp; done) | (simp [intC]; done) | (repeat (first | rfl | constructor))) (by simp only [go_sem, hP, hn]; first | done | (simp; done) | (simp [intC]; done) | (repeat (first | rfl | constructor)))), 0, [], rfl, by omega, by omega, rfl, by simp, by simp⟩ ?_
  rintro q s ⟨i, gs, rfl, i0, iq, hgl, hlen, hten⟩
  (repeat (first | refine Tr.seq ?_ | refine Tr.skip ?_ | refine Tr.label ?_ | refine Tr.block ?_ | refine Tr.scope ?_ | refine gs1 ?_ | refine gs2 ?_ | refine gs3 ?_ | refine Tr.exit ?_ | refine Tr.goto ?_ | refine Tr.ret ?_ | refine n1 ?_ | refine n2 ?_ | refine n3 ?_ | refine n4 ?_ | refine n5 ?_ | refine n6 ?_ | refine n7 ?_ | refine n8 ?_ | refine n9 (by decide) ?_))
  (first | refine r1 ?_ | refine r2 ?_ | refine r3 ?_); intro K hK; simp only [go_sem, hP, hn]; (repeat (refine ⟨by first | trivial | omega | (simp <;> omega) | (simp +contextual; done) | (clear hK; grind), ?_⟩)); refine hK _ ?_; clear K hK
  (repeat (first | refine Tr.seq ?_ | refine Tr.skip ?_ | refine Tr.label ?_ | refine Tr.block ?_ | refine Tr.scope ?_ | refine gs1 ?_ | refine gs2 ?_ | refine gs3 ?_ | refine Tr.exit ?_ | refine Tr.goto ?_ | refine Tr.ret ?_ | refine n1 ?_ | refine n2 ?_ | refine n3 ?_ | refine n4 ?_ | refine n5 ?_ | refine n6 ?_ | refine n7 ?_ | refine n8 ?_ | refine n9 (by decide) ?_))
  refine Tr.cond rfl (fun hb => ?_) (fun hb => ?_)
  · have hi : i < m := by simpa using hb
    clear hb
    (repeat (first | refine Tr.seq ?_ | refine Tr.skip ?_ | refine Tr.label ?_ | refine Tr.block ?_ | refine Tr.scope ?_ | refine gs1 ?_ | refine gs2 ?_ | refine gs3 ?_ | refine Tr.exit ?_ | refine Tr.goto ?_ | refine Tr.ret ?_ | refine n1 ?_ | refine n2 ?_ | refine n3 ?_ | refine n4 ?_ | refine n5 ?_ | refine n6 ?_ | refine n7 ?_ | refine n8 ?_ | refine n9 (by decide) ?_))
    (first | refine r1 ?_ | refine r2 ?_ | refine r3 ?_); intro K hK; simp only [go_sem, hP, hn]; (repeat (refine ⟨by first | trivial | omega | (simp <;> omega) | (simp +contextual; done) | (clear hK; grind), ?_⟩)); refine hK _ ?_; clear K hK
    (repeat (first | refine Tr.seq ?_ | refine Tr.skip ?_ | refine Tr.label ?_ | refine Tr.block ?_ | refine Tr.scope ?_ | refine gs1 ?_ | refine gs2 ?_ | refine gs3 ?_ | refine Tr.exit ?_ | refine Tr.goto ?_ | refine Tr.ret ?_ | refine n1 ?_ | refine n2 ?_ | refine n3 ?_ | refine n4 ?_ | refine n5 ?_ | refine n6 ?_ | refine n7 ?_ | refine n8 ?_ | refine n9 (by decide) ?_))
    (first | refine r1 ?_ | refine r2 ?_ | refine r3 ?_); intro K hK; simp only [go_sem, hP, hn]; (repeat (refine ⟨by first | trivial | omega | (simp <;> omega) | (simp +contextual; done) | (clear hK; grind), ?_⟩)); refine hK _ ?_; clear K hK
    (repeat (first | refine Tr.seq ?_ | refine Tr.skip ?_ | refine Tr.label ?_ | refine Tr.block ?_ | refine Tr.scope ?_ | refine gs1 ?_ | refine gs2 ?_ | refine gs3 ?_ | refine Tr.exit ?_ | refine Tr.goto ?_ | refine Tr.ret ?_ | refine n1 ?_ | refine n2 ?_ | refine n3 ?_ | refine n4 ?_ | refine n5 ?_ | refine n6 ?_ | refine n7 ?_ | refine n8 ?_ | refine n9 (by decide) ?_))
    refine Tr.loop (fun p s => ∃ (k : Int) (f : List Int), s = ⟨[(0, .d (.row [.i .i64 0] (xs.map intC))), (7, .d (.b true)), (8, .d (.i .i64 w)), (9, .d (.i .i64 m)), (10, .own 3001), (11, .own 3002), (12, .own 3003), (13, .d (.i .i64 i)), (14, .own 41), (15, .d (.i .i64 k))], [(41, .row 3 [.i .i64 0] (f.map intC)), (3001, .row 22 [.nil] (gs.map frE)), (3002, .row 22 [.nil] (gs.reverse.map frE)), (3003, .row 22 [.nil] ((List.replicate i.toNat (fr gs 0)).map frE))]⟩ ∧ 0 ≤ k ∧ k + p = w ∧ f.length = w ∧ ∀ x ∈ f, -512 ≤ x ∧ x ≤ 511) w ⟨_, (Le.mv (by simp only [go_sem, hP, hn]; first | done | (simp; done) | (simp [intC]; done) | (repeat (first | rfl | constructor))) (by simp only [go_sem, hP, hn]; first | done | (simp; done) | (simp [intC]; done) | (repeat (first | rfl | constructor)))), 0, List.replicate w 0, rfl, by omega, by omega, by simp, fun x hx => (by obtain rfl := List.eq_of_mem_replicate hx; decide)⟩ ?_
    rintro p s ⟨k, f, rfl, k0, kp, hf, ht⟩
    (repeat (first | refine Tr.seq ?_ | refine Tr.skip ?_ | refine Tr.label ?_ | refine Tr.block ?_ | refine Tr.scope ?_ | refine gs1 ?_ | refine gs2 ?_ | refine gs3 ?_ | refine Tr.exit ?_ | refine Tr.goto ?_ | refine Tr.ret ?_ | refine n1 ?_ | refine n2 ?_ | refine n3 ?_ | refine n4 ?_ | refine n5 ?_ | refine n6 ?_ | refine n7 ?_ | refine n8 ?_ | refine n9 (by decide) ?_))
    (first | refine r1 ?_ | refine r2 ?_ | refine r3 ?_); intro K hK; simp only [go_sem, hP, hn]; (repeat (refine ⟨by first | trivial | omega | (simp <;> omega) | (simp +contextual; done) | (clear hK; grind), ?_⟩)); refine hK _ ?_; clear K hK
    (repeat (first | refine Tr.seq ?_ | refine Tr.skip ?_ | refine Tr.label ?_ | refine Tr.block ?_ | refine Tr.scope ?_ | refine gs1 ?_ | refine gs2 ?_ | refine gs3 ?_ | refine Tr.exit ?_ | refine Tr.goto ?_ | refine Tr.ret ?_ | refine n1 ?_ | refine n2 ?_ | refine n3 ?_ | refine n4 ?_ | refine n5 ?_ | refine n6 ?_ | refine n7 ?_ | refine n8 ?_ | refine n9 (by decide) ?_))
    refine Tr.cond rfl (fun hb => ?_) (fun hb => ?_)
    · have hkw : k < w := by simpa using hb
      have mm := mul_le i 5 w 5 i0 (by omega) (by omega) (by omega)
      have g1 : wrap64 (i * w) = i * w := w64 (by omega) (by omega)
      have g2 : wrap64 (i * w + k) = i * w + k := w64 (by omega) (by omega)
      clear hb
      (repeat (first | refine Tr.seq ?_ | refine Tr.skip ?_ | refine Tr.label ?_ | refine Tr.block ?_ | refine Tr.scope ?_ | refine gs1 ?_ | refine gs2 ?_ | refine gs3 ?_ | refine Tr.exit ?_ | refine Tr.goto ?_ | refine Tr.ret ?_ | refine n1 ?_ | refine n2 ?_ | refine n3 ?_ | refine n4 ?_ | refine n5 ?_ | refine n6 ?_ | refine n7 ?_ | refine n8 ?_ | refine n9 (by decide) ?_))
      (first | refine r1 ?_ | refine r2 ?_ | refine r3 ?_); intro K hK; simp only [g1, g2, go_sem, hP, hn]
      (repeat (refine ⟨by first | trivial | omega | (simp <;> omega) | (simp +contextual; done) | (clear hK; grind), ?_⟩))
      refine hK _ ?_; clear K hK
      (repeat (first | refine Tr.seq ?_ | refine Tr.skip ?_ | refine Tr.label ?_ | refine Tr.block ?_ | refine Tr.scope ?_ | refine gs1 ?_ | refine gs2 ?_ | refine gs3 ?_ | refine Tr.exit ?_ | refine Tr.goto ?_ | refine Tr.ret ?_ | refine n1 ?_ | refine n2 ?_ | refine n3 ?_ | refine n4 ?_ | refine n5 ?_ | refine n6 ?_ | refine n7 ?_ | refine n8 ?_ | refine n9 (by decide) ?_))
      refine Tr.cond rfl (fun hc => ?_) (fun hc => ?_)
      · have hc2 : i * w + k < xs.length := by simpa using hc
        have hge : 0 ≤ i * w + k := by omega
        clear hc
        refine Tr.le (Le.keep [0, 7, 8, 9, 10, 11, 12, 13, 14, 15]) ?_; simp only [List.map_cons, List.map_nil, lk, Nat.reduceEqDiff, reduceIte]
        (repeat (first | refine Tr.seq ?_ | refine Tr.skip ?_ | refine Tr.label ?_ | refine Tr.block ?_ | refine Tr.scope ?_ | refine gs1 ?_ | refine gs2 ?_ | refine gs3 ?_ | refine Tr.exit ?_ | refine Tr.goto ?_ | refine Tr.ret ?_ | refine n1 ?_ | refine n2 ?_ | refine n3 ?_ | refine n4 ?_ | refine n5 ?_ | refine n6 ?_ | refine n7 ?_ | refine n8 ?_ | refine n9 (by decide) ?_))
        (first | refine r1 ?_ | refine r2 ?_ | refine r3 ?_); intro K hK; simp only [g1, g2, go_sem, hP, hn]
        rw [and1023, w64 (x := rd xs (i * w + k) % 1024 - 512) (by omega) (by omega)]
        (repeat (refine ⟨by first | trivial | omega | (simp <;> omega) | (simp +contextual; done) | (clear hK; grind), ?_⟩))
        refine hK _ ?_; clear K hK
        (repeat (first | refine Tr.seq ?_ | refine Tr.skip ?_ | refine Tr.label ?_ | refine Tr.block ?_ | refine Tr.scope ?_ | refine gs1 ?_ | refine gs2 ?_ | refine gs3 ?_ | refine Tr.exit ?_ | refine Tr.goto ?_ | refine Tr.ret ?_ | refine n1 ?_ | refine n2 ?_ | refine n3 ?_ | refine n4 ?_ | refine n5 ?_ | refine n6 ?_ | refine n7 ?_ | refine n8 ?_ | refine n9 (by decide) ?_))
        (first | refine r1 ?_ | refine r2 ?_ | refine r3 ?_); intro K hK; simp only [go_sem, hP, hn]; (repeat (refine ⟨by first | trivial | omega | (simp <;> omega) | (simp +contextual; done) | (clear hK; grind), ?_⟩)); refine hK _ ?_; clear K hK
        (repeat (first | refine Tr.seq ?_ | refine Tr.skip ?_ | refine Tr.label ?_ | refine Tr.block ?_ | refine Tr.scope ?_ | refine gs1 ?_ | refine gs2 ?_ | refine gs3 ?_ | refine Tr.exit ?_ | refine Tr.goto ?_ | refine Tr.ret ?_ | refine n1 ?_ | refine n2 ?_ | refine n3 ?_ | refine n4 ?_ | refine n5 ?_ | refine n6 ?_ | refine n7 ?_ | refine n8 ?_ | refine n9 (by decide) ?_))
        rw [w64 (x := k + 1) (by omega) (by omega)]
        refine ⟨p - 1, _, by omega, ?_, k + 1, f.set k.toNat (rd xs (i * w + k) % 1024 - 512), rfl, by omega, by omega, by simpa using hf, fun x hx => ?_⟩
        · exact (Le.mv (by simp only [go_sem, hP, hn]; first | done | (simp; done) | (simp [intC]; done) | (repeat (first | rfl | constructor))) (by simp only [go_sem, hP, hn]; first | done | (simp; done) | (simp [intC]; done) | (repeat (first | rfl | constructor))))
        · rcases List.mem_or_eq_of_mem_set hx with h | rfl
          · exact ht x h
          · omega
      · (repeat (first | refine Tr.seq ?_ | refine Tr.skip ?_ | refine Tr.label ?_ | refine Tr.block ?_ | refine Tr.scope ?_ | refine gs1 ?_ | refine gs2 ?_ | refine gs3 ?_ | refine Tr.exit ?_ | refine Tr.goto ?_ | refine Tr.ret ?_ | refine n1 ?_ | refine n2 ?_ | refine n3 ?_ | refine n4 ?_ | refine n5 ?_ | refine n6 ?_ | refine n7 ?_ | refine n8 ?_ | refine n9 (by decide) ?_))
        (first | refine r1 ?_ | refine r2 ?_ | refine r3 ?_); intro K hK; simp only [go_sem, hP, hn]; (repeat (refine ⟨by first | trivial | omega | (simp <;> omega) | (simp +contextual; done) | (clear hK; grind), ?_⟩)); refine hK _ ?_; clear K hK
        (repeat (first | refine Tr.seq ?_ | refine Tr.skip ?_ | refine Tr.label ?_ | refine Tr.block ?_ | refine Tr.scope ?_ | refine gs1 ?_ | refine gs2 ?_ | refine gs3 ?_ | refine Tr.exit ?_ | refine Tr.goto ?_ | refine Tr.ret ?_ | refine n1 ?_ | refine n2 ?_ | refine n3 ?_ | refine n4 ?_ | refine n5 ?_ | refine n6 ?_ | refine n7 ?_ | refine n8 ?_ | refine n9 (by decide) ?_))
        rw [w64 (x := k + 1) (by omega) (by omega)]
        refine ⟨p - 1, _, by omega, ?_, k + 1, f, rfl, by omega, by omega, hf, ht⟩
        exact (Le.mv (by simp only [go_sem, hP, hn]; first | done | (simp; done) | (simp [intC]; done) | (repeat (first | rfl | constructor))) (by simp only [go_sem, hP, hn]; first | done | (simp; done) | (simp [intC]; done) | (repeat (first | rfl | constructor))))
    · clear hb k0 kp
      refine Tr.le (Le.keep [0, 7, 8, 9, 10, 11, 12, 13, 14]) ?_; simp only [List.map_cons, List.map_nil, lk, Nat.reduceEqDiff, reduceIte]
      refine Tr.le (Le.freeze 41) ?_
      simp only [go_sem, hP, hn]
      (repeat (first | refine Tr.seq ?_ | refine Tr.skip ?_ | refine Tr.label ?_ | refine Tr.block ?_ | refine Tr.scope ?_ | refine gs1 ?_ | refine gs2 ?_ | refine gs3 ?_ | refine Tr.exit ?_ | refine Tr.goto ?_ | refine Tr.ret ?_ | refine n1 ?_ | refine n2 ?_ | refine n3 ?_ | refine n4 ?_ | refine n5 ?_ | refine n6 ?_ | refine n7 ?_ | refine n8 ?_ | refine n9 (by decide) ?_))
      (first | refine r1 ?_ | refine r2 ?_ | refine r3 ?_); intro K hK; simp only [go_sem, hP, hn]; (repeat (refine ⟨by first | trivial | omega | (simp <;> omega) | (simp +contextual; done) | (clear hK; grind), ?_⟩)); refine hK _ ?_; clear K hK
      (repeat (first | refine Tr.seq ?_ | refine Tr.skip ?_ | refine Tr.label ?_ | refine Tr.block ?_ | refine Tr.scope ?_ | refine gs1 ?_ | refine gs2 ?_ | refine gs3 ?_ | refine Tr.exit ?_ | refine Tr.goto ?_ | refine Tr.ret ?_ | refine n1 ?_ | refine n2 ?_ | refine n3 ?_ | refine n4 ?_ | refine n5 ?_ | refine n6 ?_ | refine n7 ?_ | refine n8 ?_ | refine n9 (by decide) ?_))
      (first | refine r1 ?_ | refine r2 ?_ | refine r3 ?_); intro K hK; simp only [go_sem, hP, hn]; (repeat (refine ⟨by first | trivial | omega | (simp <;> omega) | (simp +contextual; done) | (clear hK; grind), ?_⟩)); refine hK _ ?_; clear K hK
      (repeat (first | refine Tr.seq ?_ | refine Tr.skip ?_ | refine Tr.label ?_ | refine Tr.block ?_ | refine Tr.scope ?_ | refine gs1 ?_ | refine gs2 ?_ | refine gs3 ?_ | refine Tr.exit ?_ | refine Tr.goto ?_ | refine Tr.ret ?_ | refine n1 ?_ | refine n2 ?_ | refine n3 ?_ | refine n4 ?_ | refine n5 ?_ | refine n6 ?_ | refine n7 ?_ | refine n8 ?_ | refine n9 (by decide) ?_))
      (first | refine r1 ?_ | refine r2 ?_ | refine r3 ?_); intro K hK; simp only [go_sem, hP, hn]
      have hF0 : (gs.map frE ++ [[D.row [.i .i64 0] (f.map intC)]]).getD 0 [.nil] = [.row [.i .i64 0] ((fr (gs ++ [f]) 0).map intC)] := by
        rw [show gs.map frE ++ [[D.row [.i .i64 0] (f.map intC)]] = (gs ++ [f]).map frE by simp [frE]]
        exact rw_fr _ 0 (by omega) (by simp <;> omega)
      rw [hF0]
      simp only [go_sem, hP, hn]
      (repeat (refine ⟨by first | trivial | omega | (simp <;> omega) | (simp +contextual; done) | (clear hK; grind), ?_⟩))
      refine hK _ ?_; clear K hK
      (repeat (first | refine Tr.seq ?_ | refine Tr.skip ?_ | refine Tr.label ?_ | refine Tr.block ?_ | refine Tr.scope ?_ | refine gs1 ?_ | refine gs2 ?_ | refine gs3 ?_ | refine Tr.exit ?_ | refine Tr.goto ?_ | refine Tr.ret ?_ | refine n1 ?_ | refine n2 ?_ | refine n3 ?_ | refine n4 ?_ | refine n5 ?_ | refine n6 ?_ | refine n7 ?_ | refine n8 ?_ | refine n9 (by decide) ?_))
      (first | refine r1 ?_ | refine r2 ?_ | refine r3 ?_); intro K hK; simp only [go_sem, hP, hn]; (repeat (refine ⟨by first | trivial | omega | (simp <;> omega) | (simp +contextual; done) | (clear hK; grind), ?_⟩)); refine hK _ ?_; clear K hK
      (repeat (first | refine Tr.seq ?_ | refine Tr.skip ?_ | refine Tr.label ?_ | refine Tr.block ?_ | refine Tr.scope ?_ | refine gs1 ?_ | refine gs2 ?_ | refine gs3 ?_ | refine Tr.exit ?_ | refine Tr.goto ?_ | refine Tr.ret ?_ | refine n1 ?_ | refine n2 ?_ | refine n3 ?_ | refine n4 ?_ | refine n5 ?_ | refine n6 ?_ | refine n7 ?_ | refine n8 ?_ | refine n9 (by decide) ?_))
      rw [w64 (x := i + 1) (by omega) (by omega)]
      refine ⟨q - 1, _, by omega, ?_, i + 1, gs ++ [f], rfl, by omega, by omega, by simp; omega, fun g hg => ?_, fun g hg => ?_⟩
      · refine Le.trans (b := ⟨[(0, .d (.row [.i .i64 0] (xs.map intC))), (7, .d (.b true)), (8, .d (.i .i64 w)), (9, .d (.i .i64 m)), (10, .own 71), (11, .own 75), (12, .own 81), (13, .d (.i .i64 (i + 1)))], [(71, .row 22 [.nil] (gs.map frE ++ [frE f])), (75, .row 22 [.nil] ([frE f] ++ gs.reverse.map frE)), (81, .row 22 [.nil] ((List.replicate i.toNat (fr gs 0)).map frE ++ [frE (fr (gs ++ [f]) 0)]))]⟩) (Le.mv (by simp only [go_sem, hP, hn]; first | done | (simp; done) | (simp [intC]; done) | (repeat (first | rfl | constructor))) (by simp only [go_sem, hP, hn]; first | done | (simp; done) | (simp [intC]; done) | (repeat (first | rfl | constructor)))) ?_
        rw [show gs.map frE ++ [frE f] = (gs ++ [f]).map frE by simp, show [frE f] ++ gs.reverse.map frE = (gs ++ [f]).reverse.map frE by simp, show (List.replicate i.toNat (fr gs 0)).map frE ++ [frE (fr (gs ++ [f]) 0)] = (List.replicate (i + 1).toNat (fr (gs ++ [f]) 0)).map frE by
          rw [show (i + 1).toNat = i.toNat + 1 by omega, List.replicate_succ']
          rcases Int.lt_or_le 0 i with h | h
          · rw [fr_app _ _ (by omega), if_pos (by omega)]; try simp
          · rw [show i.toNat = 0 by omega]; try simp]
        refine Le.trans (Le.ren 71 3001 (by rw [hpn] <;> rfl) rfl rfl) ?_; simp only [renT, renH, renO, renS, renL, rn, go_sem, hP, hn]
        refine Le.trans (Le.ren 75 3002 (by rw [hpn] <;> rfl) rfl rfl) ?_; simp only [renT, renH, renO, renS, renL, rn, go_sem, hP, hn]
        refine Le.trans (Le.ren 81 3003 (by rw [hpn] <;> rfl) rfl rfl) ?_; simp only [renT, renH, renO, renS, renL, rn, go_sem, hP, hn]
        exact (Le.mv (by simp only [go_sem, hP, hn]; first | done | (simp; done) | (simp [intC]; done) | (repeat (first | rfl | constructor))) (by simp only [go_sem, hP, hn]; first | done | (simp; done) | (simp [intC]; done) | (repeat (first | rfl | constructor))))
      · rcases List.mem_append.1 hg with h | h
        · exact hlen g h
        · obtain rfl := List.mem_singleton.1 h; exact hf
      · rcases List.mem_append.1 hg with h | h
        · exact hten g h
        · obtain rfl := List.mem_singleton.1 h; exact ht
  · have hi : i = m := by have := of_decide_eq_false hb; omega
    clear hb iq
    subst hi
    have hG : GO gs w m := ⟨by omega, by omega, by omega, hlen, hten⟩
    clear hgl hlen hten i0
    rw [Int.toNat_natCast]
    obtain ⟨t1, t2, t3, t4⟩ := TN.all m hG.m0
    refine Tr.le (Le.keep [7, 8, 9, 10, 11, 12]) ?_; simp only [List.map_cons, List.map_nil, lk, Nat.reduceEqDiff, reduceIte]
    refine Tr.le (Le.freeze 3001) ?_
    simp only [go_sem, hP, hn]
    refine Tr.le (Le.freeze 3002) ?_
    simp only [go_sem, hP, hn]
    refine Tr.le (Le.freeze 3003) ?_
    simp only [go_sem, hP, hn]
    (repeat (first | refine Tr.seq ?_ | refine Tr.skip ?_ | refine Tr.label ?_ | refine Tr.block ?_ | refine Tr.scope ?_ | refine gs1 ?_ | refine gs2 ?_ | refine gs3 ?_ | refine Tr.exit ?_ | refine Tr.goto ?_ | refine Tr.ret ?_ | refine n1 ?_ | refine n2 ?_ | refine n3 ?_ | refine n4 ?_ | refine n5 ?_ | refine n6 ?_ | refine n7 ?_ | refine n8 ?_ | refine n9 (by decide) ?_))
    (first | refine r1 ?_ | refine r2 ?_ | refine r3 ?_); intro K hK; simp only [go_sem, hP, hn]; (repeat (refine ⟨by first | trivial | omega | (simp <;> omega) | (simp +contextual; done) | (clear hK; grind), ?_⟩)); refine hK _ ?_; clear K hK
    (repeat (first | refine Tr.seq ?_ | refine Tr.skip ?_ | refine Tr.label ?_ | refine Tr.block ?_ | refine Tr.scope ?_ | refine gs1 ?_ | refine gs2 ?_ | refine gs3 ?_ | refine Tr.exit ?_ | refine Tr.goto ?_ | refine Tr.ret ?_ | refine n1 ?_ | refine n2 ?_ | refine n3 ?_ | refine n4 ?_ | refine n5 ?_ | refine n6 ?_ | refine n7 ?_ | refine n8 ?_ | refine n9 (by decide) ?_))
    (first | refine r1 ?_ | refine r2 ?_ | refine r3 ?_); intro K hK; simp only [go_sem, hP, hn]; (repeat (refine ⟨by first | trivial | omega | (simp <;> omega) | (simp +contextual; done) | (clear hK; grind), ?_⟩)); refine hK _ ?_; clear K hK
    refine Tr.le (Le.freeze 82) ?_
    simp only [go_sem, hP, hn]
    refine Tr.le (Le.freeze 87) ?_
    simp only [go_sem, hP, hn]
    refine Tr.le (Le.freeze 89) ?_
    simp only [go_sem, hP, hn]
    refine Tr.le (Le.keep [7, 8, 9, 10, 11, 12, 17]) ?_; simp only [List.map_cons, List.map_nil, lk, Nat.reduceEqDiff, reduceIte]
    (repeat (first | refine Tr.seq ?_ | refine Tr.skip ?_ | refine Tr.label ?_ | refine Tr.block ?_ | refine Tr.scope ?_ | refine gs1 ?_ | refine gs2 ?_ | refine gs3 ?_ | refine Tr.exit ?_ | refine Tr.goto ?_ | refine Tr.ret ?_ | refine n1 ?_ | refine n2 ?_ | refine n3 ?_ | refine n4 ?_ | refine n5 ?_ | refine n6 ?_ | refine n7 ?_ | refine n8 ?_ | refine n9 (by decide) ?_))
    (first | refine r1 ?_ | refine r2 ?_ | refine r3 ?_); intro K hK; simp only [go_sem, hP, hn]; (repeat (refine ⟨by first | trivial | omega | (simp <;> omega) | (simp +contextual; done) | (clear hK; grind), ?_⟩)); refine hK _ ?_; clear K hK
    (repeat (first | refine Tr.seq ?_ | refine Tr.skip ?_ | refine Tr.label ?_ | refine Tr.block ?_ | refine Tr.scope ?_ | refine gs1 ?_ | refine gs2 ?_ | refine gs3 ?_ | refine Tr.exit ?_ | refine Tr.goto ?_ | refine Tr.ret ?_ | refine n1 ?_ | refine n2 ?_ | refine n3 ?_ | refine n4 ?_ | refine n5 ?_ | refine n6 ?_ | refine n7 ?_ | refine n8 ?_ | refine n9 (by decide) ?_))
    (first | refine r1 ?_ | refine r2 ?_ | refine r3 ?_); intro K hK; simp only [go_sem, hP, hn]; (repeat (refine ⟨by first | trivial | omega | (simp <;> omega) | (simp +contextual; done) | (clear hK; grind), ?_⟩)); refine hK _ ?_; clear K hK
    (repeat (first | refine Tr.seq ?_ | refine Tr.skip ?_ | refine Tr.label ?_ | refine Tr.block ?_ | refine Tr.scope ?_ | refine gs1 ?_ | refine gs2 ?_ | refine gs3 ?_ | refine Tr.exit ?_ | refine Tr.goto ?_ | refine Tr.ret ?_ | refine n1 ?_ | refine n2 ?_ | refine n3 ?_ | refine n4 ?_ | refine n5 ?_ | refine n6 ?_ | refine n7 ?_ | refine n8 ?_ | refine n9 (by decide) ?_))
    (first | refine r1 ?_ | refine r2 ?_ | refine r3 ?_); intro K hK; simp only [go_sem, hP, hn]; (repeat (refine ⟨by first | trivial | omega | (simp <;> omega) | (simp +contextual; done) | (clear hK; grind), ?_⟩)); refine hK _ ?_; clear K hK
    (repeat (first | refine Tr.seq ?_ | refine Tr.skip ?_ | refine Tr.label ?_ | refine Tr.block ?_ | refine Tr.scope ?_ | refine gs1 ?_ | refine gs2 ?_ | refine gs3 ?_ | refine Tr.exit ?_ | refine Tr.goto ?_ | refine Tr.ret ?_ | refine n1 ?_ | refine n2 ?_ | refine n3 ?_ | refine n4 ?_ | refine n5 ?_ | refine n6 ?_ | refine n7 ?_ | refine n8 ?_ | refine n9 (by decide) ?_))
    refine Tr.le (Le.keep [7, 8, 9, 10, 11, 12, 17, 18]) ?_; simp only [List.map_cons, List.map_nil, lk, Nat.reduceEqDiff, reduceIte]
    have hfr0 : (gs.map frE).getD 0 [.nil] = [.row [.i .i64 0] ((fr gs 0).map intC)] := rw_fr gs 0 (by decide) (by have := hG.gl; have := hG.m0; omega)
    have hf0 := hG.len _ (fr_mem (fs := gs) (i := 0) (by decide) (by have := hG.gl; have := hG.m0; omega))
    have hw := hG.w0
    have hf0t := hG.ten _ (fr_mem (fs := gs) (i := 0) (by decide) (by have := hG.gl; have := hG.m0; omega))
    refine Tr.loop (fun q s => ∃ (i : Int), s = ⟨[(7, .d (.b true)), (8, .d (.i .i64 w)), (9, .d (.i .i64 m)), (10, .d (frD gs)), (11, .d (frD gs.reverse)), (12, .d (frD (List.replicate m (fr gs 0)))), (17, .ptr 17 0), (18, .d (.i .i64 i))], [(17, .box 38 (AR m))]⟩ ∧ i + q = 4 ∧ (i = 0 ∨ i = 1 ∨ i = 2 ∨ i = 3 ∨ i = 4)) 4 ⟨_, (Le.mv (by simp only [go_sem, hP, hn]; first | done | (simp; done) | (simp [intC]; done) | (repeat (first | rfl | constructor))) (by simp only [go_sem, hP, hn]; first | done | (simp; done) | (simp [intC]; done) | (repeat (first | rfl | constructor)))), 0, rfl, rfl, .inl rfl⟩ ?_
    rintro q s ⟨i, rfl, iq, (rfl | rfl | rfl | rfl | rfl)⟩
    · have hV1 := t1.rev hG
      have hV2 := t1.same hG
      have hl1 := (t1.ok hG).flen
      have c1 := Frame_n Tk (nPo 3 m) gs w (t1.ok hG) rfl rfl
      have c2 := Frame_n Tk (nPo 3 m) gs.reverse w (t1.ok hG.rev) rfl rfl
      have c3 := Frame_n Tk (nPo 3 m) (List.replicate m (fr gs 0)) w (t1.ok hG.rep) rfl rfl
      rw [hV1] at c2
      rw [hV2] at c3
      clear hV1 hV2
      generalize frameV (nPo 3 m) gs w = v at *
      (repeat (first | refine Tr.seq ?_ | refine Tr.skip ?_ | refine Tr.label ?_ | refine Tr.block ?_ | refine Tr.scope ?_ | refine gs1 ?_ | refine gs2 ?_ | refine gs3 ?_ | refine Tr.exit ?_ | refine Tr.goto ?_ | refine Tr.ret ?_ | refine n1 ?_ | refine n2 ?_ | refine n3 ?_ | refine n4 ?_ | refine n5 ?_ | refine n6 ?_ | refine n7 ?_ | refine n8 ?_ | refine n9 (by decide) ?_))
      (first | refine r1 ?_ | refine r2 ?_ | refine r3 ?_); intro K hK; simp only [go_sem, hP, hn]; (repeat (refine ⟨by first | trivial | omega | (simp <;> omega) | (simp +contextual; done) | (clear hK; grind), ?_⟩)); refine hK _ ?_; clear K hK
      (repeat (first | refine Tr.seq ?_ | refine Tr.skip ?_ | refine Tr.label ?_ | refine Tr.block ?_ | refine Tr.scope ?_ | refine gs1 ?_ | refine gs2 ?_ | refine gs3 ?_ | refine Tr.exit ?_ | refine Tr.goto ?_ | refine Tr.ret ?_ | refine n1 ?_ | refine n2 ?_ | refine n3 ?_ | refine n4 ?_ | refine n5 ?_ | refine n6 ?_ | refine n7 ?_ | refine n8 ?_ | refine n9 (by decide) ?_))
      refine Tr.cond rfl (fun hb => ?_) (fun hb => ?_)
      rotate_left
      · exact absurd hb (by decide)
      clear hb
      (repeat (first | refine Tr.seq ?_ | refine Tr.skip ?_ | refine Tr.label ?_ | refine Tr.block ?_ | refine Tr.scope ?_ | refine gs1 ?_ | refine gs2 ?_ | refine gs3 ?_ | refine Tr.exit ?_ | refine Tr.goto ?_ | refine Tr.ret ?_ | refine n1 ?_ | refine n2 ?_ | refine n3 ?_ | refine n4 ?_ | refine n5 ?_ | refine n6 ?_ | refine n7 ?_ | refine n8 ?_ | refine n9 (by decide) ?_))
      (first | refine d1 (.p true 0 (.p true 1 (.p true 2 (.p true 3 (.p true 5 (.p true 6 (.p true 7 (.p true 8 (.alt 4 (.alt 9 (.alt 10 (.p false 11 .nil) .nil) .nil) .nil))))))))) [] (by rw [hP]; kernel_rfl) (by kernel_rfl) (by simp only [go_sem, hP, hn]; try simp) (fun _ _ h => h) fun K hK => ?_ | refine d2 (.p true 0 (.p true 1 (.p true 2 (.p true 3 (.p true 5 (.p true 6 (.p true 7 (.p true 8 (.alt 4 (.alt 9 (.alt 10 (.p false 11 .nil) .nil) .nil) .nil))))))))) [] (by rw [hP]; kernel_rfl) (by kernel_rfl) (by simp only [go_sem, hP, hn]; try simp) (fun _ _ h => h) fun K hK => ?_ | refine d4 (.p true 0 (.p true 1 (.p true 2 (.p true 3 (.p true 5 (.p true 6 (.p true 7 (.p true 8 (.alt 4 (.alt 9 (.alt 10 (.p false 11 .nil) .nil) .nil) .nil))))))))) [] (by rw [hP]; kernel_rfl) (by kernel_rfl) (by simp only [go_sem, hP, hn]; try simp) (fun _ _ h => h) fun K hK => ?_); simp only [go_sem, hP, hn]
      (repeat (refine ⟨by first | trivial | omega | (simp <;> omega) | (simp +contextual; done) | (clear hK; grind), ?_⟩))
      refine p1 (by rw [hP, hT]; exact c1) rfl rfl rfl trivial (by simp only [go_sem, hP, hn]; try trivial) (by simp only [go_sem, hP, hn]; try rfl) (by rw [hn]; decide) (by rfl) ?_; simp only [go_sem, hP, hn]; (repeat (refine ⟨by first | trivial | omega | (simp <;> omega) | (simp +contextual; done) | (clear hK; grind), ?_⟩))
      refine p1 (by rw [hP, hT]; exact c2) rfl rfl rfl trivial (by simp only [go_sem, hP, hn]; try trivial) (by simp only [go_sem, hP, hn]; try rfl) (by rw [hn]; decide) (by rfl) ?_; simp only [go_sem, hP, hn]; (repeat (refine ⟨by first | trivial | omega | (simp <;> omega) | (simp +contextual; done) | (clear hK; grind), ?_⟩))
      refine p1 (by rw [hP, hT]; exact Same_c Tk.m v v (by omega)) rfl rfl rfl trivial (by simp only [go_sem, hP, hn]; try trivial) (by simp only [go_sem, hP, hn]; try rfl) (by rw [hn]; decide) (by rfl) ?_; simp only [go_sem, hP, hn]; (repeat (refine ⟨by first | trivial | omega | (simp <;> omega) | (simp +contextual; done) | (clear hK; grind), ?_⟩))
      refine hK _ ?_; clear K hK
      refine Tr.le (Le.keep [7, 8, 9, 10, 11, 12, 17, 18, 19]) ?_; simp only [List.map_cons, List.map_nil, lk, Nat.reduceEqDiff, reduceIte]
      (repeat (first | refine Tr.seq ?_ | refine Tr.skip ?_ | refine Tr.label ?_ | refine Tr.block ?_ | refine Tr.scope ?_ | refine gs1 ?_ | refine gs2 ?_ | refine gs3 ?_ | refine Tr.exit ?_ | refine Tr.goto ?_ | refine Tr.ret ?_ | refine n1 ?_ | refine n2 ?_ | refine n3 ?_ | refine n4 ?_ | refine n5 ?_ | refine n6 ?_ | refine n7 ?_ | refine n8 ?_ | refine n9 (by decide) ?_))
      (first | refine d1 (.p true 0 (.p true 1 (.p true 2 (.p true 3 (.p true 5 (.p true 6 (.p true 7 (.alt 4 (.alt 8 (.p false 9 .nil) .nil) .nil)))))))) [] (by rw [hP]; kernel_rfl) (by kernel_rfl) (by simp only [go_sem, hP, hn]; try simp) (fun _ _ h => h) fun K hK => ?_ | refine d2 (.p true 0 (.p true 1 (.p true 2 (.p true 3 (.p true 5 (.p true 6 (.p true 7 (.alt 4 (.alt 8 (.p false 9 .nil) .nil) .nil)))))))) [] (by rw [hP]; kernel_rfl) (by kernel_rfl) (by simp only [go_sem, hP, hn]; try simp) (fun _ _ h => h) fun K hK => ?_ | refine d4 (.p true 0 (.p true 1 (.p true 2 (.p true 3 (.p true 5 (.p true 6 (.p true 7 (.alt 4 (.alt 8 (.p false 9 .nil) .nil) .nil)))))))) [] (by rw [hP]; kernel_rfl) (by kernel_rfl) (by simp only [go_sem, hP, hn]; try simp) (fun _ _ h => h) fun K hK => ?_); simp only [go_sem, hP, hn]
      rw [hfr0]
      simp only [go_sem, hP, hn]
      (repeat (refine ⟨by first | trivial | omega | (simp <;> omega) | (simp +contextual; done) | (clear hK; grind), ?_⟩))
      refine p1 (by rw [hP, hT]; exact c3) rfl rfl rfl trivial (by simp only [go_sem, hP, hn]; try trivial) (by simp only [go_sem, hP, hn]; try rfl) (by rw [hn]; decide) (by rfl) ?_; simp only [go_sem, hP, hn]; (repeat (refine ⟨by first | trivial | omega | (simp <;> omega) | (simp +contextual; done) | (clear hK; grind), ?_⟩))
      refine p1 (by rw [hP, hT]; exact Same_c Tk.m (fr gs 0) (fr gs 0) (by omega)) rfl rfl rfl trivial (by simp only [go_sem, hP, hn]; try trivial) (by simp only [go_sem, hP, hn]; try rfl) (by rw [hn]; decide) (by rfl) ?_; simp only [go_sem, hP, hn]; (repeat (refine ⟨by first | trivial | omega | (simp <;> omega) | (simp +contextual; done) | (clear hK; grind), ?_⟩))
      refine hK _ ?_; clear K hK
      refine Tr.le (Le.keep [7, 8, 9, 10, 11, 12, 17, 18, 19, 20]) ?_; simp only [List.map_cons, List.map_nil, lk, Nat.reduceEqDiff, reduceIte]
      (repeat (first | refine Tr.seq ?_ | refine Tr.skip ?_ | refine Tr.label ?_ | refine Tr.block ?_ | refine Tr.scope ?_ | refine gs1 ?_ | refine gs2 ?_ | refine gs3 ?_ | refine Tr.exit ?_ | refine Tr.goto ?_ | refine Tr.ret ?_ | refine n1 ?_ | refine n2 ?_ | refine n3 ?_ | refine n4 ?_ | refine n5 ?_ | refine n6 ?_ | refine n7 ?_ | refine n8 ?_ | refine n9 (by decide) ?_))
      (first | refine r1 ?_ | refine r2 ?_ | refine r3 ?_); intro K hK; simp only [go_sem, hP, hn]; (repeat (refine ⟨by first | trivial | omega | (simp <;> omega) | (simp +contextual; done) | (clear hK; grind), ?_⟩)); refine hK _ ?_; clear K hK
      (repeat (first | refine Tr.seq ?_ | refine Tr.skip ?_ | refine Tr.label ?_ | refine Tr.block ?_ | refine Tr.scope ?_ | refine gs1 ?_ | refine gs2 ?_ | refine gs3 ?_ | refine Tr.exit ?_ | refine Tr.goto ?_ | refine Tr.ret ?_ | refine n1 ?_ | refine n2 ?_ | refine n3 ?_ | refine n4 ?_ | refine n5 ?_ | refine n6 ?_ | refine n7 ?_ | refine n8 ?_ | refine n9 (by decide) ?_))
      refine Tr.cond rfl (fun hc => ?_) (fun hc => ?_)
      · simp at hc
      (repeat (first | refine Tr.seq ?_ | refine Tr.skip ?_ | refine Tr.label ?_ | refine Tr.block ?_ | refine Tr.scope ?_ | refine gs1 ?_ | refine gs2 ?_ | refine gs3 ?_ | refine Tr.exit ?_ | refine Tr.goto ?_ | refine Tr.ret ?_ | refine n1 ?_ | refine n2 ?_ | refine n3 ?_ | refine n4 ?_ | refine n5 ?_ | refine n6 ?_ | refine n7 ?_ | refine n8 ?_ | refine n9 (by decide) ?_))
      (first | refine r1 ?_ | refine r2 ?_ | refine r3 ?_); intro K hK; simp only [go_sem, hP, hn]; (repeat (refine ⟨by first | trivial | omega | (simp <;> omega) | (simp +contextual; done) | (clear hK; grind), ?_⟩)); refine hK _ ?_; clear K hK
      (repeat (first | refine Tr.seq ?_ | refine Tr.skip ?_ | refine Tr.label ?_ | refine Tr.block ?_ | refine Tr.scope ?_ | refine gs1 ?_ | refine gs2 ?_ | refine gs3 ?_ | refine Tr.exit ?_ | refine Tr.goto ?_ | refine Tr.ret ?_ | refine n1 ?_ | refine n2 ?_ | refine n3 ?_ | refine n4 ?_ | refine n5 ?_ | refine n6 ?_ | refine n7 ?_ | refine n8 ?_ | refine n9 (by decide) ?_))
      rw [show wrap64 (0 + 1) = 1 by rw [w64] <;> decide]
      refine ⟨q - 1, _, by omega, ?_, 1, rfl, by omega, (.inr (.inl rfl))⟩
      exact (Le.mv (by simp only [go_sem, hP, hn]; first | done | (simp; done) | (simp [intC]; done) | (repeat (first | rfl | constructor))) (by simp only [go_sem, hP, hn]; first | done | (simp; done) | (simp [intC]; done) | (repeat (first | rfl | constructor))))
    · have hV1 := t2.rev hG
      have hV2 := t2.same hG
      have hl1 := (t2.ok hG).flen
      have c1 := Frame_n Tk (nPo 4 m) gs w (t2.ok hG) rfl rfl
      have c2 := Frame_n Tk (nPo 4 m) gs.reverse w (t2.ok hG.rev) rfl rfl
      have c3 := Frame_n Tk (nPo 4 m) (List.replicate m (fr gs 0)) w (t2.ok hG.rep) rfl rfl
      rw [hV1] at c2
      rw [hV2] at c3
      clear hV1 hV2
      generalize frameV (nPo 4 m) gs w = v at *
      (repeat (first | refine Tr.seq ?_ | refine Tr.skip ?_ | refine Tr.label ?_ | refine Tr.block ?_ | refine Tr.scope ?_ | refine gs1 ?_ | refine gs2 ?_ | refine gs3 ?_ | refine Tr.exit ?_ | refine Tr.goto ?_ | refine Tr.ret ?_ | refine n1 ?_ | refine n2 ?_ | refine n3 ?_ | refine n4 ?_ | refine n5 ?_ | refine n6 ?_ | refine n7 ?_ | refine n8 ?_ | refine n9 (by decide) ?_))
      (first | refine r1 ?_ | refine r2 ?_ | refine r3 ?_); intro K hK; simp only [go_sem, hP, hn]; (repeat (refine ⟨by first | trivial | omega | (simp <;> omega) | (simp +contextual; done) | (clear hK; grind), ?_⟩)); refine hK _ ?_; clear K hK
      (repeat (first | refine Tr.seq ?_ | refine Tr.skip ?_ | refine Tr.label ?_ | refine Tr.block ?_ | refine Tr.scope ?_ | refine gs1 ?_ | refine gs2 ?_ | refine gs3 ?_ | refine Tr.exit ?_ | refine Tr.goto ?_ | refine Tr.ret ?_ | refine n1 ?_ | refine n2 ?_ | refine n3 ?_ | refine n4 ?_ | refine n5 ?_ | refine n6 ?_ | refine n7 ?_ | refine n8 ?_ | refine n9 (by decide) ?_))
      refine Tr.cond rfl (fun hb => ?_) (fun hb => ?_)
      rotate_left
      · exact absurd hb (by decide)
      clear hb
      (repeat (first | refine Tr.seq ?_ | refine Tr.skip ?_ | refine Tr.label ?_ | refine Tr.block ?_ | refine Tr.scope ?_ | refine gs1 ?_ | refine gs2 ?_ | refine gs3 ?_ | refine Tr.exit ?_ | refine Tr.goto ?_ | refine Tr.ret ?_ | refine n1 ?_ | refine n2 ?_ | refine n3 ?_ | refine n4 ?_ | refine n5 ?_ | refine n6 ?_ | refine n7 ?_ | refine n8 ?_ | refine n9 (by decide) ?_))
      (first | refine d1 (.p true 0 (.p true 1 (.p true 2 (.p true 3 (.p true 5 (.p true 6 (.p true 7 (.p true 8 (.alt 4 (.alt 9 (.alt 10 (.p false 11 .nil) .nil) .nil) .nil))))))))) [] (by rw [hP]; kernel_rfl) (by kernel_rfl) (by simp only [go_sem, hP, hn]; try simp) (fun _ _ h => h) fun K hK => ?_ | refine d2 (.p true 0 (.p true 1 (.p true 2 (.p true 3 (.p true 5 (.p true 6 (.p true 7 (.p true 8 (.alt 4 (.alt 9 (.alt 10 (.p false 11 .nil) .nil) .nil) .nil))))))))) [] (by rw [hP]; kernel_rfl) (by kernel_rfl) (by simp only [go_sem, hP, hn]; try simp) (fun _ _ h => h) fun K hK => ?_ | refine d4 (.p true 0 (.p true 1 (.p true 2 (.p true 3 (.p true 5 (.p true 6 (.p true 7 (.p true 8 (.alt 4 (.alt 9 (.alt 10 (.p false 11 .nil) .nil) .nil) .nil))))))))) [] (by rw [hP]; kernel_rfl) (by kernel_rfl) (by simp only [go_sem, hP, hn]; try simp) (fun _ _ h => h) fun K hK => ?_); simp only [go_sem, hP, hn]
      (repeat (refine ⟨by first | trivial | omega | (simp <;> omega) | (simp +contextual; done) | (clear hK; grind), ?_⟩))
      refine p1 (by rw [hP, hT]; exact c1) rfl rfl rfl trivial (by simp only [go_sem, hP, hn]; try trivial) (by simp only [go_sem, hP, hn]; try rfl) (by rw [hn]; decide) (by rfl) ?_; simp only [go_sem, hP, hn]; (repeat (refine ⟨by first | trivial | omega | (simp <;> omega) | (simp +contextual; done) | (clear hK; grind), ?_⟩))
      refine p1 (by rw [hP, hT]; exact c2) rfl rfl rfl trivial (by simp only [go_sem, hP, hn]; try trivial) (by simp only [go_sem, hP, hn]; try rfl) (by rw [hn]; decide) (by rfl) ?_; simp only [go_sem, hP, hn]; (repeat (refine ⟨by first | trivial | omega | (simp <;> omega) | (simp +contextual; done) | (clear hK; grind), ?_⟩))
      refine p1 (by rw [hP, hT]; exact Same_c Tk.m v v (by omega)) rfl rfl rfl trivial (by simp only [go_sem, hP, hn]; try trivial) (by simp only [go_sem, hP, hn]; try rfl) (by rw [hn]; decide) (by rfl) ?_; simp only [go_sem, hP, hn]; (repeat (refine ⟨by first | trivial | omega | (simp <;> omega) | (simp +contextual; done) | (clear hK; grind), ?_⟩))
      refine hK _ ?_; clear K hK
      refine Tr.le (Le.keep [7, 8, 9, 10, 11, 12, 17, 18, 19]) ?_; simp only [List.map_cons, List.map_nil, lk, Nat.reduceEqDiff, reduceIte]
      (repeat (first | refine Tr.seq ?_ | refine Tr.skip ?_ | refine Tr.label ?_ | refine Tr.block ?_ | refine Tr.scope ?_ | refine gs1 ?_ | refine gs2 ?_ | refine gs3 ?_ | refine Tr.exit ?_ | refine Tr.goto ?_ | refine Tr.ret ?_ | refine n1 ?_ | refine n2 ?_ | refine n3 ?_ | refine n4 ?_ | refine n5 ?_ | refine n6 ?_ | refine n7 ?_ | refine n8 ?_ | refine n9 (by decide) ?_))
      (first | refine d1 (.p true 0 (.p true 1 (.p true 2 (.p true 3 (.p true 5 (.p true 6 (.p true 7 (.alt 4 (.alt 8 (.p false 9 .nil) .nil) .nil)))))))) [] (by rw [hP]; kernel_rfl) (by kernel_rfl) (by simp only [go_sem, hP, hn]; try simp) (fun _ _ h => h) fun K hK => ?_ | refine d2 (.p true 0 (.p true 1 (.p true 2 (.p true 3 (.p true 5 (.p true 6 (.p true 7 (.alt 4 (.alt 8 (.p false 9 .nil) .nil) .nil)))))))) [] (by rw [hP]; kernel_rfl) (by kernel_rfl) (by simp only [go_sem, hP, hn]; try simp) (fun _ _ h => h) fun K hK => ?_ | refine d4 (.p true 0 (.p true 1 (.p true 2 (.p true 3 (.p true 5 (.p true 6 (.p true 7 (.alt 4 (.alt 8 (.p false 9 .nil) .nil) .nil)))))))) [] (by rw [hP]; kernel_rfl) (by kernel_rfl) (by simp only [go_sem, hP, hn]; try simp) (fun _ _ h => h) fun K hK => ?_); simp only [go_sem, hP, hn]
      rw [hfr0]
      simp only [go_sem, hP, hn]
      (repeat (refine ⟨by first | trivial | omega | (simp <;> omega) | (simp +contextual; done) | (clear hK; grind), ?_⟩))
      refine p1 (by rw [hP, hT]; exact c3) rfl rfl rfl trivial (by simp only [go_sem, hP, hn]; try trivial) (by simp only [go_sem, hP, hn]; try rfl) (by rw [hn]; decide) (by rfl) ?_; simp only [go_sem, hP, hn]; (repeat (refine ⟨by first | trivial | omega | (simp <;> omega) | (simp +contextual; done) | (clear hK; grind), ?_⟩))
      refine p1 (by rw [hP, hT]; exact Same_c Tk.m (fr gs 0) (fr gs 0) (by omega)) rfl rfl rfl trivial (by simp only [go_sem, hP, hn]; try trivial) (by simp only [go_sem, hP, hn]; try rfl) (by rw [hn]; decide) (by rfl) ?_; simp only [go_sem, hP, hn]; (repeat (refine ⟨by first | trivial | omega | (simp <;> omega) | (simp +contextual; done) | (clear hK; grind), ?_⟩))
      refine hK _ ?_; clear K hK
      refine Tr.le (Le.keep [7, 8, 9, 10, 11, 12, 17, 18, 19, 20]) ?_; simp only [List.map_cons, List.map_nil, lk, Nat.reduceEqDiff, reduceIte]
      (repeat (first | refine Tr.seq ?_ | refine Tr.skip ?_ | refine Tr.label ?_ | refine Tr.block ?_ | refine Tr.scope ?_ | refine gs1 ?_ | refine gs2 ?_ | refine gs3 ?_ | refine Tr.exit ?_ | refine Tr.goto ?_ | refine Tr.ret ?_ | refine n1 ?_ | refine n2 ?_ | refine n3 ?_ | refine n4 ?_ | refine n5 ?_ | refine n6 ?_ | refine n7 ?_ | refine n8 ?_ | refine n9 (by decide) ?_))
      (first | refine r1 ?_ | refine r2 ?_ | refine r3 ?_); intro K hK; simp only [go_sem, hP, hn]; (repeat (refine ⟨by first | trivial | omega | (simp <;> omega) | (simp +contextual; done) | (clear hK; grind), ?_⟩)); refine hK _ ?_; clear K hK
      (repeat (first | refine Tr.seq ?_ | refine Tr.skip ?_ | refine Tr.label ?_ | refine Tr.block ?_ | refine Tr.scope ?_ | refine gs1 ?_ | refine gs2 ?_ | refine gs3 ?_ | refine Tr.exit ?_ | refine Tr.goto ?_ | refine Tr.ret ?_ | refine n1 ?_ | refine n2 ?_ | refine n3 ?_ | refine n4 ?_ | refine n5 ?_ | refine n6 ?_ | refine n7 ?_ | refine n8 ?_ | refine n9 (by decide) ?_))
      refine Tr.cond rfl (fun hc => ?_) (fun hc => ?_)
      · simp at hc
      (repeat (first | refine Tr.seq ?_ | refine Tr.skip ?_ | refine Tr.label ?_ | refine Tr.block ?_ | refine Tr.scope ?_ | refine gs1 ?_ | refine gs2 ?_ | refine gs3 ?_ | refine Tr.exit ?_ | refine Tr.goto ?_ | refine Tr.ret ?_ | refine n1 ?_ | refine n2 ?_ | refine n3 ?_ | refine n4 ?_ | refine n5 ?_ | refine n6 ?_ | refine n7 ?_ | refine n8 ?_ | refine n9 (by decide) ?_))
      (first | refine r1 ?_ | refine r2 ?_ | refine r3 ?_); intro K hK; simp only [go_sem, hP, hn]; (repeat (refine ⟨by first | trivial | omega | (simp <;> omega) | (simp +contextual; done) | (clear hK; grind), ?_⟩)); refine hK _ ?_; clear K hK
      (repeat (first | refine Tr.seq ?_ | refine Tr.skip ?_ | refine Tr.label ?_ | refine Tr.block ?_ | refine Tr.scope ?_ | refine gs1 ?_ | refine gs2 ?_ | refine gs3 ?_ | refine Tr.exit ?_ | refine Tr.goto ?_ | refine Tr.ret ?_ | refine n1 ?_ | refine n2 ?_ | refine n3 ?_ | refine n4 ?_ | refine n5 ?_ | refine n6 ?_ | refine n7 ?_ | refine n8 ?_ | refine n9 (by decide) ?_))
      rw [show wrap64 (1 + 1) = 2 by rw [w64] <;> decide]
      refine ⟨q - 1, _, by omega, ?_, 2, rfl, by omega, (.inr (.inr (.inl rfl)))⟩
      exact (Le.mv (by simp only [go_sem, hP, hn]; first | done | (simp; done) | (simp [intC]; done) | (repeat (first | rfl | constructor))) (by simp only [go_sem, hP, hn]; first | done | (simp; done) | (simp [intC]; done) | (repeat (first | rfl | constructor))))
    · have hV1 := t3.rev hG
      have hV2 := t3.same hG
      have hl1 := (t3.ok hG).flen
      have c1 := Frame_n Tk nWh gs w (t3.ok hG) rfl rfl
      have c2 := Frame_n Tk nWh gs.reverse w (t3.ok hG.rev) rfl rfl
      have c3 := Frame_n Tk nWh (List.replicate m (fr gs 0)) w (t3.ok hG.rep) rfl rfl
      rw [hV1] at c2
      rw [hV2] at c3
      clear hV1 hV2
      generalize frameV nWh gs w = v at *
      (repeat (first | refine Tr.seq ?_ | refine Tr.skip ?_ | refine Tr.label ?_ | refine Tr.block ?_ | refine Tr.scope ?_ | refine gs1 ?_ | refine gs2 ?_ | refine gs3 ?_ | refine Tr.exit ?_ | refine Tr.goto ?_ | refine Tr.ret ?_ | refine n1 ?_ | refine n2 ?_ | refine n3 ?_ | refine n4 ?_ | refine n5 ?_ | refine n6 ?_ | refine n7 ?_ | refine n8 ?_ | refine n9 (by decide) ?_))
      (first | refine r1 ?_ | refine r2 ?_ | refine r3 ?_); intro K hK; simp only [go_sem, hP, hn]; (repeat (refine ⟨by first | trivial | omega | (simp <;> omega) | (simp +contextual; done) | (clear hK; grind), ?_⟩)); refine hK _ ?_; clear K hK
      (repeat (first | refine Tr.seq ?_ | refine Tr.skip ?_ | refine Tr.label ?_ | refine Tr.block ?_ | refine Tr.scope ?_ | refine gs1 ?_ | refine gs2 ?_ | refine gs3 ?_ | refine Tr.exit ?_ | refine Tr.goto ?_ | refine Tr.ret ?_ | refine n1 ?_ | refine n2 ?_ | refine n3 ?_ | refine n4 ?_ | refine n5 ?_ | refine n6 ?_ | refine n7 ?_ | refine n8 ?_ | refine n9 (by decide) ?_))
      refine Tr.cond rfl (fun hb => ?_) (fun hb => ?_)
      rotate_left
      · exact absurd hb (by decide)
      clear hb
      (repeat (first | refine Tr.seq ?_ | refine Tr.skip ?_ | refine Tr.label ?_ | refine Tr.block ?_ | refine Tr.scope ?_ | refine gs1 ?_ | refine gs2 ?_ | refine gs3 ?_ | refine Tr.exit ?_ | refine Tr.goto ?_ | refine Tr.ret ?_ | refine n1 ?_ | refine n2 ?_ | refine n3 ?_ | refine n4 ?_ | refine n5 ?_ | refine n6 ?_ | refine n7 ?_ | refine n8 ?_ | refine n9 (by decide) ?_))
      (first | refine d1 (.p true 0 (.p true 1 (.p true 2 (.p true 3 (.p true 5 (.p true 6 (.p true 7 (.p true 8 (.alt 4 (.alt 9 (.alt 10 (.p false 11 .nil) .nil) .nil) .nil))))))))) [] (by rw [hP]; kernel_rfl) (by kernel_rfl) (by simp only [go_sem, hP, hn]; try simp) (fun _ _ h => h) fun K hK => ?_ | refine d2 (.p true 0 (.p true 1 (.p true 2 (.p true 3 (.p true 5 (.p true 6 (.p true 7 (.p true 8 (.alt 4 (.alt 9 (.alt 10 (.p false 11 .nil) .nil) .nil) .nil))))))))) [] (by rw [hP]; kernel_rfl) (by kernel_rfl) (by simp only [go_sem, hP, hn]; try simp) (fun _ _ h => h) fun K hK => ?_ | refine d4 (.p true 0 (.p true 1 (.p true 2 (.p true 3 (.p true 5 (.p true 6 (.p true 7 (.p true 8 (.alt 4 (.alt 9 (.alt 10 (.p false 11 .nil) .nil) .nil) .nil))))))))) [] (by rw [hP]; kernel_rfl) (by kernel_rfl) (by simp only [go_sem, hP, hn]; try simp) (fun _ _ h => h) fun K hK => ?_); simp only [go_sem, hP, hn]
      (repeat (refine ⟨by first | trivial | omega | (simp <;> omega) | (simp +contextual; done) | (clear hK; grind), ?_⟩))
      refine p1 (by rw [hP, hT]; exact c1) rfl rfl rfl trivial (by simp only [go_sem, hP, hn]; try trivial) (by simp only [go_sem, hP, hn]; try rfl) (by rw [hn]; decide) (by rfl) ?_; simp only [go_sem, hP, hn]; (repeat (refine ⟨by first | trivial | omega | (simp <;> omega) | (simp +contextual; done) | (clear hK; grind), ?_⟩))
      refine p1 (by rw [hP, hT]; exact c2) rfl rfl rfl trivial (by simp only [go_sem, hP, hn]; try trivial) (by simp only [go_sem, hP, hn]; try rfl) (by rw [hn]; decide) (by rfl) ?_; simp only [go_sem, hP, hn]; (repeat (refine ⟨by first | trivial | omega | (simp <;> omega) | (simp +contextual; done) | (clear hK; grind), ?_⟩))
      refine p1 (by rw [hP, hT]; exact Same_c Tk.m v v (by omega)) rfl rfl rfl trivial (by simp only [go_sem, hP, hn]; try trivial) (by simp only [go_sem, hP, hn]; try rfl) (by rw [hn]; decide) (by rfl) ?_; simp only [go_sem, hP, hn]; (repeat (refine ⟨by first | trivial | omega | (simp <;> omega) | (simp +contextual; done) | (clear hK; grind), ?_⟩))
      refine hK _ ?_; clear K hK
      refine Tr.le (Le.keep [7, 8, 9, 10, 11, 12, 17, 18, 19]) ?_; simp only [List.map_cons, List.map_nil, lk, Nat.reduceEqDiff, reduceIte]
      (repeat (first | refine Tr.seq ?_ | refine Tr.skip ?_ | refine Tr.label ?_ | refine Tr.block ?_ | refine Tr.scope ?_ | refine gs1 ?_ | refine gs2 ?_ | refine gs3 ?_ | refine Tr.exit ?_ | refine Tr.goto ?_ | refine Tr.ret ?_ | refine n1 ?_ | refine n2 ?_ | refine n3 ?_ | refine n4 ?_ | refine n5 ?_ | refine n6 ?_ | refine n7 ?_ | refine n8 ?_ | refine n9 (by decide) ?_))
      (first | refine d1 (.p true 0 (.p true 1 (.p true 2 (.p true 3 (.p true 5 (.p true 6 (.p true 7 (.alt 4 (.alt 8 (.p false 9 .nil) .nil) .nil)))))))) [] (by rw [hP]; kernel_rfl) (by kernel_rfl) (by simp only [go_sem, hP, hn]; try simp) (fun _ _ h => h) fun K hK => ?_ | refine d2 (.p true 0 (.p true 1 (.p true 2 (.p true 3 (.p true 5 (.p true 6 (.p true 7 (.alt 4 (.alt 8 (.p false 9 .nil) .nil) .nil)))))))) [] (by rw [hP]; kernel_rfl) (by kernel_rfl) (by simp only [go_sem, hP, hn]; try simp) (fun _ _ h => h) fun K hK => ?_ | refine d4 (.p true 0 (.p true 1 (.p true 2 (.p true 3 (.p true 5 (.p true 6 (.p true 7 (.alt 4 (.alt 8 (.p false 9 .nil) .nil) .nil)))))))) [] (by rw [hP]; kernel_rfl) (by kernel_rfl) (by simp only [go_sem, hP, hn]; try simp) (fun _ _ h => h) fun K hK => ?_); simp only [go_sem, hP, hn]
      rw [hfr0]
      simp only [go_sem, hP, hn]
      (repeat (refine ⟨by first | trivial | omega | (simp <;> omega) | (simp +contextual; done) | (clear hK; grind), ?_⟩))
      refine p1 (by rw [hP, hT]; exact c3) rfl rfl rfl trivial (by simp only [go_sem, hP, hn]; try trivial) (by simp only [go_sem, hP, hn]; try rfl) (by rw [hn]; decide) (by rfl) ?_; simp only [go_sem, hP, hn]; (repeat (refine ⟨by first | trivial | omega | (simp <;> omega) | (simp +contextual; done) | (clear hK; grind), ?_⟩))
      refine p1 (by rw [hP, hT]; exact Same_c Tk.m (fr gs 0) (fr gs 0) (by omega)) rfl rfl rfl trivial (by simp only [go_sem, hP, hn]; try trivial) (by simp only [go_sem, hP, hn]; try rfl) (by rw [hn]; decide) (by rfl) ?_; simp only [go_sem, hP, hn]; (repeat (refine ⟨by first | trivial | omega | (simp <;> omega) | (simp +contextual; done) | (clear hK; grind), ?_⟩))
      refine hK _ ?_; clear K hK
      refine Tr.le (Le.keep [7, 8, 9, 10, 11, 12, 17, 18, 19, 20]) ?_; simp only [List.map_cons, List.map_nil, lk, Nat.reduceEqDiff, reduceIte]
      (repeat (first | refine Tr.seq ?_ | refine Tr.skip ?_ | refine Tr.label ?_ | refine Tr.block ?_ | refine Tr.scope ?_ | refine gs1 ?_ | refine gs2 ?_ | refine gs3 ?_ | refine Tr.exit ?_ | refine Tr.goto ?_ | refine Tr.ret ?_ | refine n1 ?_ | refine n2 ?_ | refine n3 ?_ | refine n4 ?_ | refine n5 ?_ | refine n6 ?_ | refine n7 ?_ | refine n8 ?_ | refine n9 (by decide) ?_))
      (first | refine r1 ?_ | refine r2 ?_ | refine r3 ?_); intro K hK; simp only [go_sem, hP, hn]; (repeat (refine ⟨by first | trivial | omega | (simp <;> omega) | (simp +contextual; done) | (clear hK; grind), ?_⟩)); refine hK _ ?_; clear K hK
      (repeat (first | refine Tr.seq ?_ | refine Tr.skip ?_ | refine Tr.label ?_ | refine Tr.block ?_ | refine Tr.scope ?_ | refine gs1 ?_ | refine gs2 ?_ | refine gs3 ?_ | refine Tr.exit ?_ | refine Tr.goto ?_ | refine Tr.ret ?_ | refine n1 ?_ | refine n2 ?_ | refine n3 ?_ | refine n4 ?_ | refine n5 ?_ | refine n6 ?_ | refine n7 ?_ | refine n8 ?_ | refine n9 (by decide) ?_))
      refine Tr.cond rfl (fun hc => ?_) (fun hc => ?_)
      · simp at hc
      (repeat (first | refine Tr.seq ?_ | refine Tr.skip ?_ | refine Tr.label ?_ | refine Tr.block ?_ | refine Tr.scope ?_ | refine gs1 ?_ | refine gs2 ?_ | refine gs3 ?_ | refine Tr.exit ?_ | refine Tr.goto ?_ | refine Tr.ret ?_ | refine n1 ?_ | refine n2 ?_ | refine n3 ?_ | refine n4 ?_ | refine n5 ?_ | refine n6 ?_ | refine n7 ?_ | refine n8 ?_ | refine n9 (by decide) ?_))
      (first | refine r1 ?_ | refine r2 ?_ | refine r3 ?_); intro K hK; simp only [go_sem, hP, hn]; (repeat (refine ⟨by first | trivial | omega | (simp <;> omega) | (simp +contextual; done) | (clear hK; grind), ?_⟩)); refine hK _ ?_; clear K hK
      (repeat (first | refine Tr.seq ?_ | refine Tr.skip ?_ | refine Tr.label ?_ | refine Tr.block ?_ | refine Tr.scope ?_ | refine gs1 ?_ | refine gs2 ?_ | refine gs3 ?_ | refine Tr.exit ?_ | refine Tr.goto ?_ | refine Tr.ret ?_ | refine n1 ?_ | refine n2 ?_ | refine n3 ?_ | refine n4 ?_ | refine n5 ?_ | refine n6 ?_ | refine n7 ?_ | refine n8 ?_ | refine n9 (by decide) ?_))
      rw [show wrap64 (2 + 1) = 3 by rw [w64] <;> decide]
      refine ⟨q - 1, _, by omega, ?_, 3, rfl, by omega, (.inr (.inr (.inr (.inl rfl))))⟩
      exact (Le.mv (by simp only [go_sem, hP, hn]; first | done | (simp; done) | (simp [intC]; done) | (repeat (first | rfl | constructor))) (by simp only [go_sem, hP, hn]; first | done | (simp; done) | (simp [intC]; done) | (repeat (first | rfl | constructor))))
    · have hV1 := t4.rev hG
      have hV2 := t4.same hG
      have hl1 := (t4.ok hG).flen
      have c1 := Frame_n Tk (nSm m) gs w (t4.ok hG) rfl rfl
      have c2 := Frame_n Tk (nSm m) gs.reverse w (t4.ok hG.rev) rfl rfl
      have c3 := Frame_n Tk (nSm m) (List.replicate m (fr gs 0)) w (t4.ok hG.rep) rfl rfl
      rw [hV1] at c2
      rw [hV2] at c3
      clear hV1 hV2
      generalize frameV (nSm m) gs w = v at *
      (repeat (first | refine Tr.seq ?_ | refine Tr.skip ?_ | refine Tr.label ?_ | refine Tr.block ?_ | refine Tr.scope ?_ | refine gs1 ?_ | refine gs2 ?_ | refine gs3 ?_ | refine Tr.exit ?_ | refine Tr.goto ?_ | refine Tr.ret ?_ | refine n1 ?_ | refine n2 ?_ | refine n3 ?_ | refine n4 ?_ | refine n5 ?_ | refine n6 ?_ | refine n7 ?_ | refine n8 ?_ | refine n9 (by decide) ?_))
      (first | refine r1 ?_ | refine r2 ?_ | refine r3 ?_); intro K hK; simp only [go_sem, hP, hn]; (repeat (refine ⟨by first | trivial | omega | (simp <;> omega) | (simp +contextual; done) | (clear hK; grind), ?_⟩)); refine hK _ ?_; clear K hK
      (repeat (first | refine Tr.seq ?_ | refine Tr.skip ?_ | refine Tr.label ?_ | refine Tr.block ?_ | refine Tr.scope ?_ | refine gs1 ?_ | refine gs2 ?_ | refine gs3 ?_ | refine Tr.exit ?_ | refine Tr.goto ?_ | refine Tr.ret ?_ | refine n1 ?_ | refine n2 ?_ | refine n3 ?_ | refine n4 ?_ | refine n5 ?_ | refine n6 ?_ | refine n7 ?_ | refine n8 ?_ | refine n9 (by decide) ?_))
      refine Tr.cond rfl (fun hb => ?_) (fun hb => ?_)
      rotate_left
      · exact absurd hb (by decide)
      clear hb
      (repeat (first | refine Tr.seq ?_ | refine Tr.skip ?_ | refine Tr.label ?_ | refine Tr.block ?_ | refine Tr.scope ?_ | refine gs1 ?_ | refine gs2 ?_ | refine gs3 ?_ | refine Tr.exit ?_ | refine Tr.goto ?_ | refine Tr.ret ?_ | refine n1 ?_ | refine n2 ?_ | refine n3 ?_ | refine n4 ?_ | refine n5 ?_ | refine n6 ?_ | refine n7 ?_ | refine n8 ?_ | refine n9 (by decide) ?_))
      (first | refine d1 (.p true 0 (.p true 1 (.p true 2 (.p true 3 (.p true 5 (.p true 6 (.p true 7 (.p true 8 (.alt 4 (.alt 9 (.alt 10 (.p false 11 .nil) .nil) .nil) .nil))))))))) [] (by rw [hP]; kernel_rfl) (by kernel_rfl) (by simp only [go_sem, hP, hn]; try simp) (fun _ _ h => h) fun K hK => ?_ | refine d2 (.p true 0 (.p true 1 (.p true 2 (.p true 3 (.p true 5 (.p true 6 (.p true 7 (.p true 8 (.alt 4 (.alt 9 (.alt 10 (.p false 11 .nil) .nil) .nil) .nil))))))))) [] (by rw [hP]; kernel_rfl) (by kernel_rfl) (by simp only [go_sem, hP, hn]; try simp) (fun _ _ h => h) fun K hK => ?_ | refine d4 (.p true 0 (.p true 1 (.p true 2 (.p true 3 (.p true 5 (.p true 6 (.p true 7 (.p true 8 (.alt 4 (.alt 9 (.alt 10 (.p false 11 .nil) .nil) .nil) .nil))))))))) [] (by rw [hP]; kernel_rfl) (by kernel_rfl) (by simp only [go_sem, hP, hn]; try simp) (fun _ _ h => h) fun K hK => ?_); simp only [go_sem, hP, hn]
      (repeat (refine ⟨by first | trivial | omega | (simp <;> omega) | (simp +contextual; done) | (clear hK; grind), ?_⟩))
      refine p1 (by rw [hP, hT]; exact c1) rfl rfl rfl trivial (by simp only [go_sem, hP, hn]; try trivial) (by simp only [go_sem, hP, hn]; try rfl) (by rw [hn]; decide) (by rfl) ?_; simp only [go_sem, hP, hn]; (repeat (refine ⟨by first | trivial | omega | (simp <;> omega) | (simp +contextual; done) | (clear hK; grind), ?_⟩))
      refine p1 (by rw [hP, hT]; exact c2) rfl rfl rfl trivial (by simp only [go_sem, hP, hn]; try trivial) (by simp only [go_sem, hP, hn]; try rfl) (by rw [hn]; decide) (by rfl) ?_; simp only [go_sem, hP, hn]; (repeat (refine ⟨by first | trivial | omega | (simp <;> omega) | (simp +contextual; done) | (clear hK; grind), ?_⟩))
      refine p1 (by rw [hP, hT]; exact Same_c Tk.m v v (by omega)) rfl rfl rfl trivial (by simp only [go_sem, hP, hn]; try trivial) (by simp only [go_sem, hP, hn]; try rfl) (by rw [hn]; decide) (by rfl) ?_; simp only [go_sem, hP, hn]; (repeat (refine ⟨by first | trivial | omega | (simp <;> omega) | (simp +contextual; done) | (clear hK; grind), ?_⟩))
      refine hK _ ?_; clear K hK
      refine Tr.le (Le.keep [7, 8, 9, 10, 11, 12, 17, 18, 19]) ?_; simp only [List.map_cons, List.map_nil, lk, Nat.reduceEqDiff, reduceIte]
      (repeat (first | refine Tr.seq ?_ | refine Tr.skip ?_ | refine Tr.label ?_ | refine Tr.block ?_ | refine Tr.scope ?_ | refine gs1 ?_ | refine gs2 ?_ | refine gs3 ?_ | refine Tr.exit ?_ | refine Tr.goto ?_ | refine Tr.ret ?_ | refine n1 ?_ | refine n2 ?_ | refine n3 ?_ | refine n4 ?_ | refine n5 ?_ | refine n6 ?_ | refine n7 ?_ | refine n8 ?_ | refine n9 (by decide) ?_))
      (first | refine d1 (.p true 0 (.p true 1 (.p true 2 (.p true 3 (.p true 5 (.p true 6 (.p true 7 (.alt 4 (.alt 8 (.p false 9 .nil) .nil) .nil)))))))) [] (by rw [hP]; kernel_rfl) (by kernel_rfl) (by simp only [go_sem, hP, hn]; try simp) (fun _ _ h => h) fun K hK => ?_ | refine d2 (.p true 0 (.p true 1 (.p true 2 (.p true 3 (.p true 5 (.p true 6 (.p true 7 (.alt 4 (.alt 8 (.p false 9 .nil) .nil) .nil)))))))) [] (by rw [hP]; kernel_rfl) (by kernel_rfl) (by simp only [go_sem, hP, hn]; try simp) (fun _ _ h => h) fun K hK => ?_ | refine d4 (.p true 0 (.p true 1 (.p true 2 (.p true 3 (.p true 5 (.p true 6 (.p true 7 (.alt 4 (.alt 8 (.p false 9 .nil) .nil) .nil)))))))) [] (by rw [hP]; kernel_rfl) (by kernel_rfl) (by simp only [go_sem, hP, hn]; try simp) (fun _ _ h => h) fun K hK => ?_); simp only [go_sem, hP, hn]
      rw [hfr0]
      simp only [go_sem, hP, hn]
      (repeat (refine ⟨by first | trivial | omega | (simp <;> omega) | (simp +contextual; done) | (clear hK; grind), ?_⟩))
      refine p1 (by rw [hP, hT]; exact c3) rfl rfl rfl trivial (by simp only [go_sem, hP, hn]; try trivial) (by simp only [go_sem, hP, hn]; try rfl) (by rw [hn]; decide) (by rfl) ?_; simp only [go_sem, hP, hn]; (repeat (refine ⟨by first | trivial | omega | (simp <;> omega) | (simp +contextual; done) | (clear hK; grind), ?_⟩))
      refine p1 (by rw [hP, hT]; exact Same_c Tk.m (fr gs 0) (fr gs 0) (by omega)) rfl rfl rfl trivial (by simp only [go_sem, hP, hn]; try trivial) (by simp only [go_sem, hP, hn]; try rfl) (by rw [hn]; decide) (by rfl) ?_; simp only [go_sem, hP, hn]; (repeat (refine ⟨by first | trivial | omega | (simp <;> omega) | (simp +contextual; done) | (clear hK; grind), ?_⟩))
      refine hK _ ?_; clear K hK
      refine Tr.le (Le.keep [7, 8, 9, 10, 11, 12, 17, 18, 19, 20]) ?_; simp only [List.map_cons, List.map_nil, lk, Nat.reduceEqDiff, reduceIte]
      (repeat (first | refine Tr.seq ?_ | refine Tr.skip ?_ | refine Tr.label ?_ | refine Tr.block ?_ | refine Tr.scope ?_ | refine gs1 ?_ | refine gs2 ?_ | refine gs3 ?_ | refine Tr.exit ?_ | refine Tr.goto ?_ | refine Tr.ret ?_ | refine n1 ?_ | refine n2 ?_ | refine n3 ?_ | refine n4 ?_ | refine n5 ?_ | refine n6 ?_ | refine n7 ?_ | refine n8 ?_ | refine n9 (by decide) ?_))
      (first | refine r1 ?_ | refine r2 ?_ | refine r3 ?_); intro K hK; simp only [go_sem, hP, hn]; (repeat (refine ⟨by first | trivial | omega | (simp <;> omega) | (simp +contextual; done) | (clear hK; grind), ?_⟩)); refine hK _ ?_; clear K hK
      (repeat (first | refine Tr.seq ?_ | refine Tr.skip ?_ | refine Tr.label ?_ | refine Tr.block ?_ | refine Tr.scope ?_ | refine gs1 ?_ | refine gs2 ?_ | refine gs3 ?_ | refine Tr.exit ?_ | refine Tr.goto ?_ | refine Tr.ret ?_ | refine n1 ?_ | refine n2 ?_ | refine n3 ?_ | refine n4 ?_ | refine n5 ?_ | refine n6 ?_ | refine n7 ?_ | refine n8 ?_ | refine n9 (by decide) ?_))
      refine Tr.cond rfl (fun hc => ?_) (fun hc => ?_)
      · simp at hc
      (repeat (first | refine Tr.seq ?_ | refine Tr.skip ?_ | refine Tr.label ?_ | refine Tr.block ?_ | refine Tr.scope ?_ | refine gs1 ?_ | refine gs2 ?_ | refine gs3 ?_ | refine Tr.exit ?_ | refine Tr.goto ?_ | refine Tr.ret ?_ | refine n1 ?_ | refine n2 ?_ | refine n3 ?_ | refine n4 ?_ | refine n5 ?_ | refine n6 ?_ | refine n7 ?_ | refine n8 ?_ | refine n9 (by decide) ?_))
      (first | refine r1 ?_ | refine r2 ?_ | refine r3 ?_); intro K hK; simp only [go_sem, hP, hn]; (repeat (refine ⟨by first | trivial | omega | (simp <;> omega) | (simp +contextual; done) | (clear hK; grind), ?_⟩)); refine hK _ ?_; clear K hK
      (repeat (first | refine Tr.seq ?_ | refine Tr.skip ?_ | refine Tr.label ?_ | refine Tr.block ?_ | refine Tr.scope ?_ | refine gs1 ?_ | refine gs2 ?_ | refine gs3 ?_ | refine Tr.exit ?_ | refine Tr.goto ?_ | refine Tr.ret ?_ | refine n1 ?_ | refine n2 ?_ | refine n3 ?_ | refine n4 ?_ | refine n5 ?_ | refine n6 ?_ | refine n7 ?_ | refine n8 ?_ | refine n9 (by decide) ?_))
      rw [show wrap64 (3 + 1) = 4 by rw [w64] <;> decide]
      refine ⟨q - 1, _, by omega, ?_, 4, rfl, by omega, (.inr (.inr (.inr (.inr rfl))))⟩
      exact (Le.mv (by simp only [go_sem, hP, hn]; first | done | (simp; done) | (simp [intC]; done) | (repeat (first | rfl | constructor))) (by simp only [go_sem, hP, hn]; first | done | (simp; done) | (simp [intC]; done) | (repeat (first | rfl | constructor))))
    · (repeat (first | refine Tr.seq ?_ | refine Tr.skip ?_ | refine Tr.label ?_ | refine Tr.block ?_ | refine Tr.scope ?_ | refine gs1 ?_ | refine gs2 ?_ | refine gs3 ?_ | refine Tr.exit ?_ | refine Tr.goto ?_ | refine Tr.ret ?_ | refine n1 ?_ | refine n2 ?_ | refine n3 ?_ | refine n4 ?_ | refine n5 ?_ | refine n6 ?_ | refine n7 ?_ | refine n8 ?_ | refine n9 (by decide) ?_))
      (first | refine r1 ?_ | refine r2 ?_ | refine r3 ?_); intro K hK; simp only [go_sem, hP, hn]; (repeat (refine ⟨by first | trivial | omega | (simp <;> omega) | (simp +contextual; done) | (clear hK; grind), ?_⟩)); refine hK _ ?_; clear K hK
      (repeat (first | refine Tr.seq ?_ | refine Tr.skip ?_ | refine Tr.label ?_ | refine Tr.block ?_ | refine Tr.scope ?_ | refine gs1 ?_ | refine gs2 ?_ | refine gs3 ?_ | refine Tr.exit ?_ | refine Tr.goto ?_ | refine Tr.ret ?_ | refine n1 ?_ | refine n2 ?_ | refine n3 ?_ | refine n4 ?_ | refine n5 ?_ | refine n6 ?_ | refine n7 ?_ | refine n8 ?_ | refine n9 (by decide) ?_))
      refine Tr.cond rfl (fun hb => ?_) (fun hb => ?_)
      · exact absurd hb (by decide)
      clear hb
      refine Tr.le (Le.keep [7, 8, 10]) ?_; simp only [List.map_cons, List.map_nil, lk, Nat.reduceEqDiff, reduceIte]
      have hB := Frame_n Tk nBst [fr gs 0] w (best_ok hw hf0 hf0t) rfl rfl
      rw [show frameV nBst [fr gs 0] w = [mostV (fr gs 0)] from rfl] at hB
      have hmb := mostV_b (fr gs 0) (by omega)
      have hmx := fun k h0 h1 => mostV_max (fr gs 0) (by omega) (j := k) h0 h1
      (repeat (first | refine Tr.seq ?_ | refine Tr.skip ?_ | refine Tr.label ?_ | refine Tr.block ?_ | refine Tr.scope ?_ | refine gs1 ?_ | refine gs2 ?_ | refine gs3 ?_ | refine Tr.exit ?_ | refine Tr.goto ?_ | refine Tr.ret ?_ | refine n1 ?_ | refine n2 ?_ | refine n3 ?_ | refine n4 ?_ | refine n5 ?_ | refine n6 ?_ | refine n7 ?_ | refine n8 ?_ | refine n9 (by decide) ?_))
      (first | refine r1 ?_ | refine r2 ?_ | refine r3 ?_); intro K hK; simp only [go_sem, hP, hn]
      rw [hfr0]
      simp only [go_sem, hP, hn]
      (repeat (refine ⟨by first | trivial | omega | (simp <;> omega) | (simp +contextual; done) | (clear hK; grind), ?_⟩))
      refine c1 (by rw [hP, hT]; exact hB) rfl rfl rfl trivial (by simp only [go_sem, hP, hn]; try trivial) (by simp only [go_sem, hP, hn]; try rfl) (by rw [hn]; decide) (by rfl) ?_; simp only [go_sem, hP, hn]; (repeat (refine ⟨by first | trivial | omega | (simp <;> omega) | (simp +contextual; done) | (clear hK; grind), ?_⟩))
      refine hK _ ?_; clear K hK
      generalize mostV (fr gs 0) = b at *
      refine Tr.le (Le.keep [7, 8, 10, 21]) ?_; simp only [List.map_cons, List.map_nil, lk, Nat.reduceEqDiff, reduceIte]
      (repeat (first | refine Tr.seq ?_ | refine Tr.skip ?_ | refine Tr.label ?_ | refine Tr.block ?_ | refine Tr.scope ?_ | refine gs1 ?_ | refine gs2 ?_ | refine gs3 ?_ | refine Tr.exit ?_ | refine Tr.goto ?_ | refine Tr.ret ?_ | refine n1 ?_ | refine n2 ?_ | refine n3 ?_ | refine n4 ?_ | refine n5 ?_ | refine n6 ?_ | refine n7 ?_ | refine n8 ?_ | refine n9 (by decide) ?_))
      (first | refine r1 ?_ | refine r2 ?_ | refine r3 ?_); intro K hK; simp only [go_sem, hP, hn]; (repeat (refine ⟨by first | trivial | omega | (simp <;> omega) | (simp +contextual; done) | (clear hK; grind), ?_⟩)); refine hK _ ?_; clear K hK
      (repeat (first | refine Tr.seq ?_ | refine Tr.skip ?_ | refine Tr.label ?_ | refine Tr.block ?_ | refine Tr.scope ?_ | refine gs1 ?_ | refine gs2 ?_ | refine gs3 ?_ | refine Tr.exit ?_ | refine Tr.goto ?_ | refine Tr.ret ?_ | refine n1 ?_ | refine n2 ?_ | refine n3 ?_ | refine n4 ?_ | refine n5 ?_ | refine n6 ?_ | refine n7 ?_ | refine n8 ?_ | refine n9 (by decide) ?_))
      refine Tr.cond rfl (fun hc => ?_) (fun hc => ?_)
      · exfalso
        simp at hc
        omega
      clear hc
      refine Tr.le (Le.keep [7, 8, 10, 21]) ?_; simp only [List.map_cons, List.map_nil, lk, Nat.reduceEqDiff, reduceIte]
      (repeat (first | refine Tr.seq ?_ | refine Tr.skip ?_ | refine Tr.label ?_ | refine Tr.block ?_ | refine Tr.scope ?_ | refine gs1 ?_ | refine gs2 ?_ | refine gs3 ?_ | refine Tr.exit ?_ | refine Tr.goto ?_ | refine Tr.ret ?_ | refine n1 ?_ | refine n2 ?_ | refine n3 ?_ | refine n4 ?_ | refine n5 ?_ | refine n6 ?_ | refine n7 ?_ | refine n8 ?_ | refine n9 (by decide) ?_))
      (first | refine r1 ?_ | refine r2 ?_ | refine r3 ?_); intro K hK; simp only [go_sem, hP, hn]; (repeat (refine ⟨by first | trivial | omega | (simp <;> omega) | (simp +contextual; done) | (clear hK; grind), ?_⟩)); refine hK _ ?_; clear K hK
      (repeat (first | refine Tr.seq ?_ | refine Tr.skip ?_ | refine Tr.label ?_ | refine Tr.block ?_ | refine Tr.scope ?_ | refine gs1 ?_ | refine gs2 ?_ | refine gs3 ?_ | refine Tr.exit ?_ | refine Tr.goto ?_ | refine Tr.ret ?_ | refine n1 ?_ | refine n2 ?_ | refine n3 ?_ | refine n4 ?_ | refine n5 ?_ | refine n6 ?_ | refine n7 ?_ | refine n8 ?_ | refine n9 (by decide) ?_))
      refine Tr.loop (fun q s => ∃ (k : Int), s = ⟨[(7, .d (.b true)), (8, .d (.i .i64 w)), (10, .d (frD gs)), (21, .d (.row [.i .i64 0] ([b].map intC))), (22, .d (.i .i64 k))], []⟩ ∧ 0 ≤ k ∧ k + q = w) w ⟨_, (Le.mv (by simp only [go_sem, hP, hn]; first | done | (simp; done) | (simp [intC]; done) | (repeat (first | rfl | constructor))) (by simp only [go_sem, hP, hn]; first | done | (simp; done) | (simp [intC]; done) | (repeat (first | rfl | constructor)))), 0, rfl, by omega, by omega⟩ ?_
      rintro q s ⟨k, rfl, k0, kq⟩
      (repeat (first | refine Tr.seq ?_ | refine Tr.skip ?_ | refine Tr.label ?_ | refine Tr.block ?_ | refine Tr.scope ?_ | refine gs1 ?_ | refine gs2 ?_ | refine gs3 ?_ | refine Tr.exit ?_ | refine Tr.goto ?_ | refine Tr.ret ?_ | refine n1 ?_ | refine n2 ?_ | refine n3 ?_ | refine n4 ?_ | refine n5 ?_ | refine n6 ?_ | refine n7 ?_ | refine n8 ?_ | refine n9 (by decide) ?_))
      (first | refine r1 ?_ | refine r2 ?_ | refine r3 ?_); intro K hK; simp only [go_sem, hP, hn]; (repeat (refine ⟨by first | trivial | omega | (simp <;> omega) | (simp +contextual; done) | (clear hK; grind), ?_⟩)); refine hK _ ?_; clear K hK
      (repeat (first | refine Tr.seq ?_ | refine Tr.skip ?_ | refine Tr.label ?_ | refine Tr.block ?_ | refine Tr.scope ?_ | refine gs1 ?_ | refine gs2 ?_ | refine gs3 ?_ | refine Tr.exit ?_ | refine Tr.goto ?_ | refine Tr.ret ?_ | refine n1 ?_ | refine n2 ?_ | refine n3 ?_ | refine n4 ?_ | refine n5 ?_ | refine n6 ?_ | refine n7 ?_ | refine n8 ?_ | refine n9 (by decide) ?_))
      refine Tr.cond rfl (fun hb => ?_) (fun hb => ?_)
      · have hkw : k < w := by simpa using hb
        have hm := hmx k k0 (by omega)
        clear hb
        (repeat (first | refine Tr.seq ?_ | refine Tr.skip ?_ | refine Tr.label ?_ | refine Tr.block ?_ | refine Tr.scope ?_ | refine gs1 ?_ | refine gs2 ?_ | refine gs3 ?_ | refine Tr.exit ?_ | refine Tr.goto ?_ | refine Tr.ret ?_ | refine n1 ?_ | refine n2 ?_ | refine n3 ?_ | refine n4 ?_ | refine n5 ?_ | refine n6 ?_ | refine n7 ?_ | refine n8 ?_ | refine n9 (by decide) ?_))
        (first | refine d1 (.p true 0 (.p true 1 (.p true 2 (.p true 3 (.p true 4 (.p true 5 (.p true 6 (.p true 7 (.p true 8 (.p true 9 (.p true 10 (.p true 11 (.p true 12 (.p true 13 (.p true 14 (.p true 15 (.p true 16 (.p true 17 (.p true 18 (.p true 19 (.p true 20 (.p true 21 (.p true 22 (.p true 23 (.p true 24 (.p true 25 (.p true 26 (.p true 27 (.p true 28 (.p true 29 (.p true 30 (.p true 31 (.p true 32 (.p true 33 (.p true 34 (.p true 35 (.p true 36 (.p true 37 (.p true 38 .nil))))))))))))))))))))))))))))))))))))))) [] (by rw [hP]; kernel_rfl) (by kernel_rfl) (by simp only [go_sem, hP, hn]; try simp) (fun _ _ h => h) fun K hK => ?_ | refine d2 (.p true 0 (.p true 1 (.p true 2 (.p true 3 (.p true 4 (.p true 5 (.p true 6 (.p true 7 (.p true 8 (.p true 9 (.p true 10 (.p true 11 (.p true 12 (.p true 13 (.p true 14 (.p true 15 (.p true 16 (.p true 17 (.p true 18 (.p true 19 (.p true 20 (.p true 21 (.p true 22 (.p true 23 (.p true 24 (.p true 25 (.p true 26 (.p true 27 (.p true 28 (.p true 29 (.p true 30 (.p true 31 (.p true 32 (.p true 33 (.p true 34 (.p true 35 (.p true 36 (.p true 37 (.p true 38 .nil))))))))))))))))))))))))))))))))))))))) [] (by rw [hP]; kernel_rfl) (by kernel_rfl) (by simp only [go_sem, hP, hn]; try simp) (fun _ _ h => h) fun K hK => ?_ | refine d4 (.p true 0 (.p true 1 (.p true 2 (.p true 3 (.p true 4 (.p true 5 (.p true 6 (.p true 7 (.p true 8 (.p true 9 (.p true 10 (.p true 11 (.p true 12 (.p true 13 (.p true 14 (.p true 15 (.p true 16 (.p true 17 (.p true 18 (.p true 19 (.p true 20 (.p true 21 (.p true 22 (.p true 23 (.p true 24 (.p true 25 (.p true 26 (.p true 27 (.p true 28 (.p true 29 (.p true 30 (.p true 31 (.p true 32 (.p true 33 (.p true 34 (.p true 35 (.p true 36 (.p true 37 (.p true 38 .nil))))))))))))))))))))))))))))))))))))))) [] (by rw [hP]; kernel_rfl) (by kernel_rfl) (by simp only [go_sem, hP, hn]; try simp) (fun _ _ h => h) fun K hK => ?_); simp only [go_sem, hP, hn]
        rw [hfr0]
        simp only [go_sem, hP, hn]
        (repeat (refine ⟨by first | trivial | omega | (simp <;> omega) | (simp +contextual; done) | (clear hK; grind), ?_⟩))
        refine hK _ ?_; clear K hK
        refine Tr.le (Le.keep [7, 8, 10, 21, 22, 193]) ?_; simp only [List.map_cons, List.map_nil, lk, Nat.reduceEqDiff, reduceIte]
        (repeat (first | refine Tr.seq ?_ | refine Tr.skip ?_ | refine Tr.label ?_ | refine Tr.block ?_ | refine Tr.scope ?_ | refine gs1 ?_ | refine gs2 ?_ | refine gs3 ?_ | refine Tr.exit ?_ | refine Tr.goto ?_ | refine Tr.ret ?_ | refine n1 ?_ | refine n2 ?_ | refine n3 ?_ | refine n4 ?_ | refine n5 ?_ | refine n6 ?_ | refine n7 ?_ | refine n8 ?_ | refine n9 (by decide) ?_))
        refine Tr.cond rfl (fun hc => ?_) (fun hc => ?_)
        · exfalso
          simp only [Bool.or_eq_true, Bool.and_eq_true, decide_eq_true_eq, beq_iff_eq] at hc
          omega
        clear hc
        (repeat (first | refine Tr.seq ?_ | refine Tr.skip ?_ | refine Tr.label ?_ | refine Tr.block ?_ | refine Tr.scope ?_ | refine gs1 ?_ | refine gs2 ?_ | refine gs3 ?_ | refine Tr.exit ?_ | refine Tr.goto ?_ | refine Tr.ret ?_ | refine n1 ?_ | refine n2 ?_ | refine n3 ?_ | refine n4 ?_ | refine n5 ?_ | refine n6 ?_ | refine n7 ?_ | refine n8 ?_ | refine n9 (by decide) ?_))
        (first | refine r1 ?_ | refine r2 ?_ | refine r3 ?_); intro K hK; simp only [go_sem, hP, hn]; (repeat (refine ⟨by first | trivial | omega | (simp <;> omega) | (simp +contextual; done) | (clear hK; grind), ?_⟩)); refine hK _ ?_; clear K hK
        (repeat (first | refine Tr.seq ?_ | refine Tr.skip ?_ | refine Tr.label ?_ | refine Tr.block ?_ | refine Tr.scope ?_ | refine gs1 ?_ | refine gs2 ?_ | refine gs3 ?_ | refine Tr.exit ?_ | refine Tr.goto ?_ | refine Tr.ret ?_ | refine n1 ?_ | refine n2 ?_ | refine n3 ?_ | refine n4 ?_ | refine n5 ?_ | refine n6 ?_ | refine n7 ?_ | refine n8 ?_ | refine n9 (by decide) ?_))
        rw [w64 (x := k + 1) (by omega) (by omega)]
        refine ⟨q - 1, _, by omega, ?_, k + 1, rfl, by omega, by omega⟩
        exact (Le.mv (by simp only [go_sem, hP, hn]; first | done | (simp; done) | (simp [intC]; done) | (repeat (first | rfl | constructor))) (by simp only [go_sem, hP, hn]; first | done | (simp; done) | (simp [intC]; done) | (repeat (first | rfl | constructor))))
      · clear hb
        refine Tr.le (Le.keep [7, 8, 10]) ?_; simp only [List.map_cons, List.map_nil, lk, Nat.reduceEqDiff, reduceIte]
        have hg1 : 1 < gs.length := by have := hG.gl; have := hG.m0; omega
        have hfr1 : (gs.map frE).getD 1 [.nil] = [.row [.i .i64 0] ((fr gs 1).map intC)] := rw_fr gs 1 (by decide) (by omega)
        have hm1 := fr_mem (fs := gs) (i := 1) (by decide) (by omega)
        have hf1 := hG.len _ hm1
        have hf1t := hG.ten _ hm1
        have hk1 := add_ok hw hf0 hf1 hf0t hf1t
        have hk2 := add_ok hw hf1 hf0 hf1t hf0t
        have c1 := Frame_n Tk nAd [fr gs 0, fr gs 1] w hk1 rfl rfl
        have c2 := Frame_n Tk nAd [fr gs 1, fr gs 0] w hk2 rfl rfl
        rw [add_turn hf0 hf1 hf0t hf1t] at c2
        have hvl : (frameV nAd [fr gs 0, fr gs 1] w).length = w := eachL_len _ _ _
        generalize frameV nAd [fr gs 0, fr gs 1] w = v at *
        refine Tr.exit ?_
        refine Tr.seq ?_
        refine Tr.meet (fun s => s = ⟨[(7, .d (.b true)), (8, .d (.i .i64 w)), (10, .d (frD gs)), (23, .d (.row [.i .i64 0] (v.map intC)))], []⟩) ?_ ?_
        rotate_left
        · (first | refine d1 (.p true 2 (.p true 3 (.p true 4 (.p true 5 (.p true 6 (.p true 7 (.alt 0 (.p false 1 (.alt 8 (.alt 9 (.p false 10 .nil) .nil) .nil)) (.alt 8 (.alt 0 (.p false 1 (.alt 9 (.p false 10 .nil) .nil)) .nil) .nil)))))))) [] (by rw [hP]; kernel_rfl) (by kernel_rfl) (by simp only [go_sem, hP, hn]; try simp) (fun _ _ h => h) fun K hK => ?_ | refine d2 (.p true 2 (.p true 3 (.p true 4 (.p true 5 (.p true 6 (.p true 7 (.alt 0 (.p false 1 (.alt 8 (.alt 9 (.p false 10 .nil) .nil) .nil)) (.alt 8 (.alt 0 (.p false 1 (.alt 9 (.p false 10 .nil) .nil)) .nil) .nil)))))))) [] (by rw [hP]; kernel_rfl) (by kernel_rfl) (by simp only [go_sem, hP, hn]; try simp) (fun _ _ h => h) fun K hK => ?_ | refine d4 (.p true 2 (.p true 3 (.p true 4 (.p true 5 (.p true 6 (.p true 7 (.alt 0 (.p false 1 (.alt 8 (.alt 9 (.p false 10 .nil) .nil) .nil)) (.alt 8 (.alt 0 (.p false 1 (.alt 9 (.p false 10 .nil) .nil)) .nil) .nil)))))))) [] (by rw [hP]; kernel_rfl) (by kernel_rfl) (by simp only [go_sem, hP, hn]; try simp) (fun _ _ h => h) fun K hK => ?_); simp only [go_sem, hP, hn]
          rw [hfr0, hfr1]
          simp only [go_sem, hP, hn]
          (repeat (refine ⟨by first | trivial | omega | (simp <;> omega) | (simp +contextual; done) | (clear hK; grind), ?_⟩))
          refine ⟨?_, ?_⟩
          all_goals (repeat (refine ⟨by first | trivial | omega | (simp <;> omega) | (simp +contextual; done) | (clear hK; grind), ?_⟩))
          all_goals (refine p1 (by rw [hP, hT]; exact c1) rfl rfl rfl trivial (by simp only [go_sem, hP, hn]; try trivial) (by simp only [go_sem, hP, hn]; try rfl) (by rw [hn]; decide) (by rfl) ?_; simp only [go_sem, hP, hn]; (repeat (refine ⟨by first | trivial | omega | (simp <;> omega) | (simp +contextual; done) | (clear hK; grind), ?_⟩)))
          all_goals (repeat' (refine And.intro ?_ ?_)); all_goals (first | (refine hK _ ?_; ((repeat (first | refine Tr.seq ?_ | refine Tr.skip ?_ | refine Tr.label ?_ | refine Tr.block ?_ | refine Tr.scope ?_ | refine gs1 ?_ | refine gs2 ?_ | refine gs3 ?_ | refine Tr.exit ?_ | refine Tr.goto ?_ | refine Tr.ret ?_ | refine n1 ?_ | refine n2 ?_ | refine n3 ?_ | refine n4 ?_ | refine n5 ?_ | refine n6 ?_ | refine n7 ?_ | refine n8 ?_ | refine n9 (by decide) ?_)); exact ⟨_, (Le.mv (by simp only [go_sem, hP, hn]; first | done | (simp; done) | (simp [intC]; done) | (repeat (first | rfl | constructor))) (by simp only [go_sem, hP, hn]; first | done | (simp; done) | (simp [intC]; done) | (repeat (first | rfl | constructor)))), rfl⟩)) | (first | trivial | omega | (simp <;> omega) | (simp +contextual; done) | (clear hK; grind)))
        rintro s rfl
        refine Tr.seq ?_
        refine Tr.meet (fun s => s = ⟨[(7, .d (.b true)), (8, .d (.i .i64 w)), (10, .d (frD gs)), (23, .d (.row [.i .i64 0] (v.map intC))), (24, .d (.row [.i .i64 0] (v.map intC)))], []⟩) ?_ ?_
        rotate_left
        · (first | refine d1 (.p true 2 (.p true 3 (.p true 4 (.p true 5 (.p true 6 (.p true 7 (.alt 0 (.p false 1 (.alt 8 (.alt 9 (.p false 10 .nil) .nil) .nil)) (.alt 8 (.alt 0 (.p false 1 (.alt 9 (.p false 10 .nil) .nil)) .nil) .nil)))))))) [] (by rw [hP]; kernel_rfl) (by kernel_rfl) (by simp only [go_sem, hP, hn]; try simp) (fun _ _ h => h) fun K hK => ?_ | refine d2 (.p true 2 (.p true 3 (.p true 4 (.p true 5 (.p true 6 (.p true 7 (.alt 0 (.p false 1 (.alt 8 (.alt 9 (.p false 10 .nil) .nil) .nil)) (.alt 8 (.alt 0 (.p false 1 (.alt 9 (.p false 10 .nil) .nil)) .nil) .nil)))))))) [] (by rw [hP]; kernel_rfl) (by kernel_rfl) (by simp only [go_sem, hP, hn]; try simp) (fun _ _ h => h) fun K hK => ?_ | refine d4 (.p true 2 (.p true 3 (.p true 4 (.p true 5 (.p true 6 (.p true 7 (.alt 0 (.p false 1 (.alt 8 (.alt 9 (.p false 10 .nil) .nil) .nil)) (.alt 8 (.alt 0 (.p false 1 (.alt 9 (.p false 10 .nil) .nil)) .nil) .nil)))))))) [] (by rw [hP]; kernel_rfl) (by kernel_rfl) (by simp only [go_sem, hP, hn]; try simp) (fun _ _ h => h) fun K hK => ?_); simp only [go_sem, hP, hn]
          rw [hfr1, hfr0]
          simp only [go_sem, hP, hn]
          (repeat (refine ⟨by first | trivial | omega | (simp <;> omega) | (simp +contextual; done) | (clear hK; grind), ?_⟩))
          refine ⟨?_, ?_⟩
          all_goals (repeat (refine ⟨by first | trivial | omega | (simp <;> omega) | (simp +contextual; done) | (clear hK; grind), ?_⟩))
          all_goals (refine p1 (by rw [hP, hT]; exact c2) rfl rfl rfl trivial (by simp only [go_sem, hP, hn]; try trivial) (by simp only [go_sem, hP, hn]; try rfl) (by rw [hn]; decide) (by rfl) ?_; simp only [go_sem, hP, hn]; (repeat (refine ⟨by first | trivial | omega | (simp <;> omega) | (simp +contextual; done) | (clear hK; grind), ?_⟩)))
          all_goals (repeat' (refine And.intro ?_ ?_)); all_goals (first | (refine hK _ ?_; ((repeat (first | refine Tr.seq ?_ | refine Tr.skip ?_ | refine Tr.label ?_ | refine Tr.block ?_ | refine Tr.scope ?_ | refine gs1 ?_ | refine gs2 ?_ | refine gs3 ?_ | refine Tr.exit ?_ | refine Tr.goto ?_ | refine Tr.ret ?_ | refine n1 ?_ | refine n2 ?_ | refine n3 ?_ | refine n4 ?_ | refine n5 ?_ | refine n6 ?_ | refine n7 ?_ | refine n8 ?_ | refine n9 (by decide) ?_)); exact ⟨_, (Le.mv (by simp only [go_sem, hP, hn]; first | done | (simp; done) | (simp [intC]; done) | (repeat (first | rfl | constructor))) (by simp only [go_sem, hP, hn]; first | done | (simp; done) | (simp [intC]; done) | (repeat (first | rfl | constructor)))), rfl⟩)) | (first | trivial | omega | (simp <;> omega) | (simp +contextual; done) | (clear hK; grind)))
        rintro s rfl
        clear c1 c2
        (repeat (first | refine Tr.seq ?_ | refine Tr.skip ?_ | refine Tr.label ?_ | refine Tr.block ?_ | refine Tr.scope ?_ | refine gs1 ?_ | refine gs2 ?_ | refine gs3 ?_ | refine Tr.exit ?_ | refine Tr.goto ?_ | refine Tr.ret ?_ | refine n1 ?_ | refine n2 ?_ | refine n3 ?_ | refine n4 ?_ | refine n5 ?_ | refine n6 ?_ | refine n7 ?_ | refine n8 ?_ | refine n9 (by decide) ?_))
        (first | refine r1 ?_ | refine r2 ?_ | refine r3 ?_); intro K hK; simp only [go_sem, hP, hn]; (repeat (refine ⟨by first | trivial | omega | (simp <;> omega) | (simp +contextual; done) | (clear hK; grind), ?_⟩)); refine c1 (by rw [hP, hT]; exact Same_c Tk.m v v (by omega)) rfl rfl rfl trivial (by simp only [go_sem, hP, hn]; try trivial) (by simp only [go_sem, hP, hn]; try rfl) (by rw [hn]; decide) (by rfl) ?_; simp only [go_sem, hP, hn]; (repeat (refine ⟨by first | trivial | omega | (simp <;> omega) | (simp +contextual; done) | (clear hK; grind), ?_⟩)); refine hK _ ?_; clear K hK
        (repeat (first | refine Tr.seq ?_ | refine Tr.skip ?_ | refine Tr.label ?_ | refine Tr.block ?_ | refine Tr.scope ?_ | refine gs1 ?_ | refine gs2 ?_ | refine gs3 ?_ | refine Tr.exit ?_ | refine Tr.goto ?_ | refine Tr.ret ?_ | refine n1 ?_ | refine n2 ?_ | refine n3 ?_ | refine n4 ?_ | refine n5 ?_ | refine n6 ?_ | refine n7 ?_ | refine n8 ?_ | refine n9 (by decide) ?_))
        (first | refine r1 ?_ | refine r2 ?_ | refine r3 ?_); intro K hK; simp only [go_sem, hP, hn]; (repeat (refine ⟨by first | trivial | omega | (simp <;> omega) | (simp +contextual; done) | (clear hK; grind), ?_⟩)); refine hK _ ?_; clear K hK
        (repeat (first | refine Tr.seq ?_ | refine Tr.skip ?_ | refine Tr.label ?_ | refine Tr.block ?_ | refine Tr.scope ?_ | refine gs1 ?_ | refine gs2 ?_ | refine gs3 ?_ | refine Tr.exit ?_ | refine Tr.goto ?_ | refine Tr.ret ?_ | refine n1 ?_ | refine n2 ?_ | refine n3 ?_ | refine n4 ?_ | refine n5 ?_ | refine n6 ?_ | refine n7 ?_ | refine n8 ?_ | refine n9 (by decide) ?_))
        simp only [RetG, go_sem]; (repeat (with_reducible refine And.intro ?_ ?_; (· first | trivial | omega | (simp <;> omega) | (simp +contextual; done) | (clear hK; grind))))
        simp [hvl]
end
end Go.Proofs.YtgijboakaodcgaaDoor.Aw
