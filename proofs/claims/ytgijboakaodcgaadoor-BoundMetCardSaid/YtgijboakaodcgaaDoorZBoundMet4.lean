/- The abstract walk, and contracts of Go functions: each call returns what the Lean function named tells. Conditions: those that each theorem names, none else. -/
import Derived.Test.YtgijboakaodcgaaDoorZBoundMet3
set_option linter.unusedVariables false
set_option linter.unusedSimpArgs false
set_option maxRecDepth 100000
set_option linter.unusedSectionVars false
set_option maxHeartbeats 4000000
namespace Go.Proofs.YtgijboakaodcgaaDoor.Aw
open Go.RowKit
attribute [local go_sem_proc] Nat.reduceAdd Nat.reduceMul Nat.reduceSub Nat.reduceEqDiff Nat.reduceLeDiff Nat.reduceBEq Nat.reduceBNe Int.reduceToNat reduceIte reduceCtorEq
attribute [local go_sem] initT SQ so pe he ev lk constS stp stc gdS nth pickS pickD loadS cellsAt okAt fieldAddrS fieldS partS indexAddrS indexS extractS binS binD binI isShift unS convS lenS sliceS bndI bndC mmS mm2 mmD builtS fillS okCells cellsS splS solid aliveL alive okS boxS allocS makeS bsliceS elemsOf dcells stF storeS frzA frz frzT frzS frzL frzO frzH appS srcS appVC killS killT killC killH killO k1 k2 S.has S.hasL St.add St.upd dropH lh cond_or cond_and rw_intC rw_intC0 rw_set rw_app rw_apps rw_rep rw_slice wr64 cond_true cond_false true_and and_true List.map_cons List.map_nil List.length_cons List.length_nil List.drop_succ_cons List.drop_zero List.take_succ_cons List.take_zero List.nil_append List.cons_append List.getD_cons_zero List.getD_cons_succ List.headD_cons List.length_map ite_true ite_false if_true if_false Bool.false_eq_true and_self forall_const List.drop_nil List.take_nil List.append_nil Option.map_some Option.map_none List.mapM_cons List.mapM_nil Option.bind_eq_bind Option.bind_some Option.pure_def knows resL resV oneS freshS freshL cv cvL stpL stcL or_true true_or or_false false_or List.all_cons List.all_nil Bool.and_self Bool.or_self Bool.true_and Bool.and_true Bool.or_false Bool.false_or implies_true flatD allm_nil allm_cons List.getElem?_cons_zero List.getElem?_cons_succ Nd.cs Nd.ds ml mln Option.isSome_some Option.isSome_none eq_self Int.toNat_natCast AP ldOk isLd inL subL crt chg chgS chgP idxs aliveW Option.toList_some Option.toList_none Option.toList RetG Nd.win frzA offK keepH aliveK nkH closedH closedO keysK inH St.upd rowO List.contains_cons List.contains_nil Bool.or_self Option.isNone_none Option.isNone_some Bool.not_true Bool.not_false gcs rowN e0N frzC
attribute [local go_sem] sz2 ag2 ok2 kk2 iu2 zc2 zd2 by2 sz3 ag3 ok3 kk3 iu3 zc3 zd3 by3 sz4 ag4 ok4 bo4 zc4 zd4 by4 sz5 ag5 ok5 kk5 iu5 zc5 zd5 by5 sz9 ag9 ok9 st9 zc9 zd9 by9 sz12 ag12 ok12 kk12 iu12 zc12 zd12 by12 sz15 ag15 ok15 zc15 by15 sz16 ag16 ok16 zc16 by16 sz21 ag21 ok21 kk21 iu21 zc21 zd21 by21 sz22 ag22 ok22 sl22 zc22 zd22 by22 sz23 ag23 ok23 zc23 zd23 pl23 by23 fl23_0 fl23_1 fl23_2 fl23_3 fl23_4 fl23_5 sz24 ag24 ok24 zc24 zd24 pl24 by24 fl24_0 fl24_1 fl24_2 fl24_3 fl24_4 fl24_5 sz26 ag26 ok26 zc26 zd26 pl26 by26 fl26_0 fl26_1 fl26_2 fl26_3 fl26_4 fl26_5 fl26_6 fl26_7 fl26_8 fl26_9 fl26_10 fl26_11 fl26_12 fl26_13 fl26_14 sz27 ag27 ok27 zc27 zd27 pl27 by27 fl27_0 fl27_1 fl27_2 fl27_3 fl27_4 fl27_5 fl27_6 fl27_7 fl27_8 fl27_9 fl27_10 fl27_11 fl27_12 fl27_13 fl27_14 sz28 ag28 ok28 sl28 zc28 zd28 by28 sz38 ag38 ok38 sl38 ar38 zc38 zd38 pl38 by38 sz44 ag44 ok44 sl44 ar44 zc44 zd44 pl44 by44 sz45 ag45 ok45 sl45 zc45 zd45 by45 sz46 ag46 ok46 zc46 zd46 pl46 by46 fl46_0 fl46_1 fl46_2 fl46_3 fl46_4 sz47 ag47 ok47 zc47 zd47 pl47 by47 fl47_0 fl47_1 fl47_2 fl47_3 fl47_4 sz49 ag49 ok49 kk49 iu49 zc49 zd49 by49 sz53 ag53 ok53 sl53 ar53 zc53 zd53 pl53 by53 sz54 ag54 ok54 kk54 iu54 zc54 zd54 by54 sz55 ag55 ok55 kk55 iu55 zc55 zd55 by55 sz56 ag56 ok56 sl56 zc56 zd56 by56 sz57 ag57 ok57 kk57 iu57 zc57 zd57 by57 sz60 ag60 ok60 zc60 zd60 pl60 by60 fl60_0 fl60_1 fl60_2 fl60_3 sz61 ag61 ok61 zc61 zd61 pl61 by61 fl61_0 fl61_1 fl61_2 fl61_3 sz64 ag64 ok64 zc64 by64 sz65 ag65 ok65 zc65 zd65 pl65 by65 fl65_0 fl65_1 sz66 ag66 ok66 zc66 zd66 pl66 by66 fl66_0 fl66_1 sz78 ag78 ok78 sl78 ar78 zc78 zd78 pl78 by78 sz79 ag79 ok79 sl79 ar79 zc79 zd79 pl79 by79 sz81 ag81 ok81 zc81 zd81 pl81 by81 fl81_0 fl81_1 sz82 ag82 ok82 zc82 zd82 pl82 by82 fl82_0 fl82_1 sz84 ag84 ok84 zc84 zd84 pl84 by84 fl84_0 fl84_1 fl84_2 fl84_3 sz85 ag85 ok85 zc85 zd85 pl85 by85 fl85_0 fl85_1 fl85_2 fl85_3 sz92 ag92 ok92 sl92 ar92 zc92 zd92 pl92 by92 sz101 ag101 ok101 zc101 zd101 pl101 by101 fl101_0 fl101_1 sz102 ag102 ok102 zc102 zd102 pl102 by102 fl102_0 fl102_1 sz109 ag109 ok109 zc109 zd109 pl109 by109 fl109_0 fl109_1 fl109_2 sz110 ag110 ok110 zc110 zd110 pl110 by110 fl110_0 fl110_1 fl110_2 sz120 ag120 ok120 sl120 ar120 zc120 zd120 pl120 by120 sz121 ag121 ok121 zc121 zd121 pl121 by121 fl121_0 fl121_1 sz122 ag122 ok122 sl122 ar122 zc122 zd122 pl122 by122 sz130 ag130 ok130 zc130 by130 sz140 ag140 ok140 kk140 iu140 zc140 zd140 by140 sz144 ag144 ok144 zc144 by144
section
attribute [local go_sem] Rg.cs Rg.ds e0R rgS
def eachW (n : Nd) : Nat := n.ws.length / n.bs.length
def overR (x : Rg) : Bool := decide (x.al < -68719476736) || decide (68719476736 < x.ah)
def stepR (ns : List Nd) (W : List Int) (i : Int) (out : List Rg) : Rg := nodeR (nd ns (i - 1)) (rd W (rd (nd ns (i - 1)).inn 0)) ((nd ns (i - 1)).inn.map (rg out)) (eachW (nd ns (i - 1)))
/-- ends along an order -/
def rgL (ns : List Nd) (W : List Int) : List Int → List Rg → Option (List Rg)
  | [], out => some out
  | i :: r, out => if overR (stepR ns W i out) = true then none else rgL ns W r (out.set i.toNat (stepR ns W i out))
def rangesV (wd lo hi out : Int) (ns : List Nd) : Int × List Rg :=
  if ((lookG wd lo hi out ns).1 != 0) = true then ((lookG wd lo hi out ns).1, [])
  else match rgL ns (lookG wd lo hi out ns).2.2.1 (lookG wd lo hi out ns).2.1 (rgS lo hi :: List.replicate ns.length ⟨0, 0, 0, 0⟩) with
    | none => (16, [])
    | some o => (0, o)
/-- a node that ends may go over -/
structure NG (N : Int) (n : Nd) : Prop where
  i0 : 1 ≤ n.inn.length ∧ n.inn.length ≤ 4
  ij : ∀ j ∈ n.inn, 0 ≤ j ∧ j ≤ N
  bw : rWeighs n.k = true → BW n (eachW n)
  s27 : n.s27 = true
structure LG (lo hi : Int) (ns : List Nd) (os W : List Int) : Prop where
  lo0 : in32 lo ∧ in32 hi
  wl : W.length = ns.length + 1
  w16 : ∀ x ∈ W, 0 ≤ x ∧ x ≤ 16
  osn : ∀ i ∈ os, (1 ≤ i ∧ i ≤ ns.length) ∧ NG ns.length (nd ns (i - 1))
  ol : os.length ≤ 65536
theorem s27' {n : Nd} (h : n.s27 = true) : (0 ≤ n.mult ∧ n.mult ≤ 32767) ∧ (0 ≤ n.shift ∧ n.shift ≤ 30) ∧ -2147483648 ≤ n.low ∧ n.low ≤ n.high ∧ n.high ≤ 2147483647 := by
  unfold Nd.s27 at h
  simp only [Bool.and_eq_true, inB_iff, decide_eq_true_eq] at h
  omega
theorem scale32' (x m s : Int) : in32 (scaleV x m s) := by
  unfold scaleV
  split
  · exact clamp32 _
  · decide
theorem pst32' (n : Nd) (x : Int) (h : n.s27 = true) : in32 (n.pst x) := by
  obtain ⟨_, _, a, b, c⟩ := s27' h
  unfold Nd.pst
  split
  · have := clampV_in (x := if (Go.bits .and .i64 n.post 1 != 0) = true then scaleV (clampV x (-2147483648) 2147483647) n.mult n.shift else clampV x (-2147483648) 2147483647) b
    unfold in32; omega
  · split
    · exact scale32' _ _ _
    · exact clamp32 _
theorem nodeR32 {n : Nd} {width : Int} {ins : List Rg} {each : Nat} (h : NOk n ins each) (hs : n.s27 = true) (hw : 0 ≤ width ∧ width ≤ 16) : in32 (nodeR n width ins each).lo ∧ in32 (nodeR n width ins each).hi := by
  have hl := nodeLH32 h
  obtain ⟨_, _, a, b, c⟩ := s27' hs
  unfold nodeR
  split
  · exact ⟨pst32' n _ hs, pst32' n _ hs⟩
  split
  · exact hl
  split
  · exact ⟨add_in _, add_in _⟩
  split
  · have h1 := clampV_in (x := nodeL n ins) b
    have h2 := clampV_in (x := nodeH n ins) b
    exact ⟨by show in32 (clampV _ _ _); unfold in32; omega, by show in32 (clampV _ _ _); unfold in32; omega⟩
  split
  · exact ⟨scale32' _ _ _, scale32' _ _ _⟩
  split
  · refine ⟨by show in32 0; decide, ?_⟩
    show in32 (wrap64 (width - 1))
    rw [w64 (by omega) (by omega)]; unfold in32; omega
  · exact hl
theorem rg_in {out : List Rg} (h : ∀ r ∈ out, in32 r.lo ∧ in32 r.hi) {j : Int} (h0 : 0 ≤ j) (h1 : j < out.length) : in32 (rg out j).lo ∧ in32 (rg out j).hi := h _ (rg_mem h0 h1)
theorem rw_rgset (l : List Rg) (i : Nat) (x : Rg) : setE (l.map Rg.ds) i 0 [.i .i64 x.lo, .i .i64 x.hi, .i .i64 x.al, .i .i64 x.ah] = (l.set i x).map Rg.ds := by
  unfold setE
  apply List.ext_getElem?
  intro j
  rw [List.getElem?_modify, List.getElem?_map, List.getElem?_map, List.getElem?_set]
  by_cases h : i = j
  · subst h
    by_cases h2 : i < l.length
    · simp [h2, Rg.ds]
    · simp [h2]
  · simp [h]
theorem rw_rgrep (n : Nat) : List.replicate n [D.i .i64 0, D.i .i64 0, D.i .i64 0, D.i .i64 0] = (List.replicate n (⟨0, 0, 0, 0⟩ : Rg)).map Rg.ds := by simp [Rg.ds]
attribute [local go_sem] rw_rgset rw_rgrep
theorem Ranges_c {T : World → Prop} (Tk : KT T) (wd lo hi out : Int) (ns : List Nd) (hns : ns.length ≤ 65536) (hin : ∀ n ∈ ns, n.inn.length ≤ 4096 ∧ n.ws.length ≤ 65536 ∧ n.bs.length ≤ 65536) (hL : (lookG wd lo hi out ns).1 = 0 → LG lo hi ns (lookG wd lo hi out ns).2.1 (lookG wd lo hi out ns).2.2.1) :
    Cg Go.Proofs.Tryd.prog T 26 [] [.agg (gcs wd lo hi out (.d (rowN ns)))] (fun r H => H = [] ∧ r = .tup [.d (.row e0R ((rangesV wd lo hi out ns).2.map Rg.ds)), .d (.i .i64 (rangesV wd lo hi out ns).1)]) := by
  refine Cg_of [] Tk.m Go.Proofs.Tryd.func26 rfl rfl Go.Proofs.Tryd.ntmps26 (by simp) rfl (rs := [.tmp 2, .tmp 3]) rfl fun E hP hn hT hpn => ?_
  (repeat (first | refine Tr.seq ?_ | refine Tr.skip ?_ | refine Tr.label ?_ | refine Tr.block ?_ | refine Tr.scope ?_ | refine gs1 ?_ | refine gs2 ?_ | refine gs3 ?_ | refine Tr.exit ?_ | refine Tr.goto ?_ | refine Tr.ret ?_ | refine n1 ?_ | refine n2 ?_ | refine n3 ?_ | refine n4 ?_ | refine n5 ?_ | refine n6 ?_ | refine n7 ?_ | refine n8 ?_ | refine n9 (by decide) ?_))
  (first | refine r1 ?_ | refine r2 ?_ | refine r3 ?_); intro K hK; simp only [go_sem, hP, hn]; (repeat (refine ⟨by first | trivial | omega | (simp <;> omega) | (simp +contextual; done) | (clear hK; grind), ?_⟩)); refine hK _ ?_; clear K hK
  (repeat (first | refine Tr.seq ?_ | refine Tr.skip ?_ | refine Tr.label ?_ | refine Tr.block ?_ | refine Tr.scope ?_ | refine gs1 ?_ | refine gs2 ?_ | refine gs3 ?_ | refine Tr.exit ?_ | refine Tr.goto ?_ | refine Tr.ret ?_ | refine n1 ?_ | refine n2 ?_ | refine n3 ?_ | refine n4 ?_ | refine n5 ?_ | refine n6 ?_ | refine n7 ?_ | refine n8 ?_ | refine n9 (by decide) ?_))
  (first | refine r1 ?_ | refine r2 ?_ | refine r3 ?_); intro K hK; simp only [go_sem, hP, hn]
  (repeat (refine ⟨by first | trivial | omega | (simp <;> omega) | (simp +contextual; done) | (clear hK; grind), ?_⟩))
  refine CallN_cs (Hi := [] ) (by rw [hP, hT]; exact  Check_c Tk wd lo hi out ns hns hin) rfl rfl rfl trivial (by simp only [go_sem, hP, hn]; try trivial) (by simp only [go_sem, hP, hn]; try rfl) (by simp only [inH, go_sem, hP, hn]; try simp) (by rw [hn]; decide) ?_; simp only [go_sem, hP, hn]; (repeat (refine ⟨by first | trivial | omega | (simp <;> omega) | (simp +contextual; done) | (clear hK; grind), ?_⟩))
  refine hK _ ?_; clear K hK
  (repeat (first | refine Tr.seq ?_ | refine Tr.skip ?_ | refine Tr.label ?_ | refine Tr.block ?_ | refine Tr.scope ?_ | refine gs1 ?_ | refine gs2 ?_ | refine gs3 ?_ | refine Tr.exit ?_ | refine Tr.goto ?_ | refine Tr.ret ?_ | refine n1 ?_ | refine n2 ?_ | refine n3 ?_ | refine n4 ?_ | refine n5 ?_ | refine n6 ?_ | refine n7 ?_ | refine n8 ?_ | refine n9 (by decide) ?_))
  (first | refine r1 ?_ | refine r2 ?_ | refine r3 ?_); intro K hK; simp only [go_sem, hP, hn]; (repeat (refine ⟨by first | trivial | omega | (simp <;> omega) | (simp +contextual; done) | (clear hK; grind), ?_⟩)); refine hK _ ?_; clear K hK
  (repeat (first | refine Tr.seq ?_ | refine Tr.skip ?_ | refine Tr.label ?_ | refine Tr.block ?_ | refine Tr.scope ?_ | refine gs1 ?_ | refine gs2 ?_ | refine gs3 ?_ | refine Tr.exit ?_ | refine Tr.goto ?_ | refine Tr.ret ?_ | refine n1 ?_ | refine n2 ?_ | refine n3 ?_ | refine n4 ?_ | refine n5 ?_ | refine n6 ?_ | refine n7 ?_ | refine n8 ?_ | refine n9 (by decide) ?_))
  refine Tr.cond rfl (fun he => ?_) (fun he => ?_)
  · (repeat (first | refine Tr.seq ?_ | refine Tr.skip ?_ | refine Tr.label ?_ | refine Tr.block ?_ | refine Tr.scope ?_ | refine gs1 ?_ | refine gs2 ?_ | refine gs3 ?_ | refine Tr.exit ?_ | refine Tr.goto ?_ | refine Tr.ret ?_ | refine n1 ?_ | refine n2 ?_ | refine n3 ?_ | refine n4 ?_ | refine n5 ?_ | refine n6 ?_ | refine n7 ?_ | refine n8 ?_ | refine n9 (by decide) ?_))
    (first | refine r1 ?_ | refine r2 ?_ | refine r3 ?_); intro K hK; simp only [go_sem, hP, hn]; (repeat (refine ⟨by first | trivial | omega | (simp <;> omega) | (simp +contextual; done) | (clear hK; grind), ?_⟩)); refine hK _ ?_; clear K hK
    refine Tr.le (Le.nilrow 2 e0R rfl) ?_
    (repeat (first | ((first | refine r1 ?_ | refine r2 ?_ | refine r3 ?_); intro K hK; simp only [go_sem, hP, hn]; (repeat (refine ⟨by first | trivial | omega | (simp <;> omega) | (simp +contextual; done) | (clear hK; grind), ?_⟩)); refine hK _ ?_; clear K hK) | refine Tr.seq ?_ | refine Tr.skip ?_ | refine Tr.label ?_ | refine Tr.block ?_ | refine Tr.scope ?_ | refine gs1 ?_ | refine gs2 ?_ | refine gs3 ?_ | refine Tr.exit ?_ | refine Tr.goto ?_ | refine Tr.ret ?_ | refine n1 ?_ | refine n2 ?_ | refine n3 ?_ | refine n4 ?_ | refine n5 ?_ | refine n6 ?_ | refine n7 ?_ | refine n8 ?_ | refine n9 (by decide) ?_))
    simp only [RetG, go_sem]; (repeat (with_reducible refine And.intro ?_ ?_; (· first | trivial | omega | (simp <;> omega) | (simp +contextual; done) | (clear hK; grind))))
    unfold rangesV
    rw [if_pos he]
    rfl
  have he0 : (lookG wd lo hi out ns).1 = 0 := by simpa using he
  have hG := hL he0
  have hR : rangesV wd lo hi out ns = match rgL ns (lookG wd lo hi out ns).2.2.1 (lookG wd lo hi out ns).2.1 (rgS lo hi :: List.replicate ns.length ⟨0, 0, 0, 0⟩) with
    | none => (16, [])
    | some o => (0, o) := by unfold rangesV; rw [if_neg (by rw [he]; decide)]
  have hWc := Widths_c Tk wd lo hi out ns hns hin
  have hOc := Order_c Tk wd lo hi out ns hns hin
  rw [hR]
  clear hL he hR
  generalize (lookG wd lo hi out ns).2.2.1 = W at *
  generalize (lookG wd lo hi out ns).2.1 = os at *
  clear he0
  generalize hV : rgL ns W os (rgS lo hi :: List.replicate ns.length ⟨0, 0, 0, 0⟩) = V
  have hwl := hG.wl
  have hol := hG.ol
  refine Tr.le (Le.keep [1, 2, 3]) ?_; simp only [List.map_cons, List.map_nil, lk, Nat.reduceEqDiff, reduceIte]
  (repeat (first | refine Tr.seq ?_ | refine Tr.skip ?_ | refine Tr.label ?_ | refine Tr.block ?_ | refine Tr.scope ?_ | refine gs1 ?_ | refine gs2 ?_ | refine gs3 ?_ | refine Tr.exit ?_ | refine Tr.goto ?_ | refine Tr.ret ?_ | refine n1 ?_ | refine n2 ?_ | refine n3 ?_ | refine n4 ?_ | refine n5 ?_ | refine n6 ?_ | refine n7 ?_ | refine n8 ?_ | refine n9 (by decide) ?_))
  (first | refine r1 ?_ | refine r2 ?_ | refine r3 ?_); intro K hK; simp only [go_sem, hP, hn]
  (repeat (refine ⟨by first | trivial | omega | (simp <;> omega) | (simp +contextual; done) | (clear hK; grind), ?_⟩))
  refine CallN_cs (Hi := [] ) (by rw [hP, hT]; exact  hWc) rfl rfl rfl trivial (by simp only [go_sem, hP, hn]; try trivial) (by simp only [go_sem, hP, hn]; try rfl) (by simp only [inH, go_sem, hP, hn]; try simp) (by rw [hn]; decide) ?_; simp only [go_sem, hP, hn]; (repeat (refine ⟨by first | trivial | omega | (simp <;> omega) | (simp +contextual; done) | (clear hK; grind), ?_⟩))
  refine hK _ ?_; clear K hK
  (repeat (first | refine Tr.seq ?_ | refine Tr.skip ?_ | refine Tr.label ?_ | refine Tr.block ?_ | refine Tr.scope ?_ | refine gs1 ?_ | refine gs2 ?_ | refine gs3 ?_ | refine Tr.exit ?_ | refine Tr.goto ?_ | refine Tr.ret ?_ | refine n1 ?_ | refine n2 ?_ | refine n3 ?_ | refine n4 ?_ | refine n5 ?_ | refine n6 ?_ | refine n7 ?_ | refine n8 ?_ | refine n9 (by decide) ?_))
  (first | refine r1 ?_ | refine r2 ?_ | refine r3 ?_); intro K hK; simp only [go_sem, hP, hn]
  rw [hwl]
  (repeat (refine ⟨by first | trivial | omega | (simp <;> omega) | (simp +contextual; done) | (clear hK; grind), ?_⟩))
  refine hK _ ?_; clear K hK
  (repeat (first | refine Tr.seq ?_ | refine Tr.skip ?_ | refine Tr.label ?_ | refine Tr.block ?_ | refine Tr.scope ?_ | refine gs1 ?_ | refine gs2 ?_ | refine gs3 ?_ | refine Tr.exit ?_ | refine Tr.goto ?_ | refine Tr.ret ?_ | refine n1 ?_ | refine n2 ?_ | refine n3 ?_ | refine n4 ?_ | refine n5 ?_ | refine n6 ?_ | refine n7 ?_ | refine n8 ?_ | refine n9 (by decide) ?_))
  (first | refine r1 ?_ | refine r2 ?_ | refine r3 ?_); intro K hK; simp only [go_sem, hP, hn]; (repeat (refine ⟨by first | trivial | omega | (simp <;> omega) | (simp +contextual; done) | (clear hK; grind), ?_⟩)); refine c1 (by rw [hP, hT]; exact same20_c Tk.m lo hi) rfl rfl rfl trivial (by simp only [go_sem, hP, hn]; try trivial) (by simp only [go_sem, hP, hn]; try rfl) (by rw [hn]; decide) (by rfl) ?_; simp only [go_sem, hP, hn]; (repeat (refine ⟨by first | trivial | omega | (simp <;> omega) | (simp +contextual; done) | (clear hK; grind), ?_⟩)); refine hK _ ?_; clear K hK
  rw [show setE ((List.replicate (ns.length + 1) (⟨0, 0, 0, 0⟩ : Rg)).map Rg.ds) 0 0 [.i .i64 lo, .i .i64 hi, .i .i64 lo, .i .i64 hi] = (rgS lo hi :: List.replicate ns.length ⟨0, 0, 0, 0⟩).map Rg.ds from rw_rgset _ 0 (rgS lo hi)]
  (repeat (first | refine Tr.seq ?_ | refine Tr.skip ?_ | refine Tr.label ?_ | refine Tr.block ?_ | refine Tr.scope ?_ | refine gs1 ?_ | refine gs2 ?_ | refine gs3 ?_ | refine Tr.exit ?_ | refine Tr.goto ?_ | refine Tr.ret ?_ | refine n1 ?_ | refine n2 ?_ | refine n3 ?_ | refine n4 ?_ | refine n5 ?_ | refine n6 ?_ | refine n7 ?_ | refine n8 ?_ | refine n9 (by decide) ?_))
  (first | refine r1 ?_ | refine r2 ?_ | refine r3 ?_); intro K hK; simp only [go_sem, hP, hn]
  (repeat (refine ⟨by first | trivial | omega | (simp <;> omega) | (simp +contextual; done) | (clear hK; grind), ?_⟩))
  refine CallN_cs (Hi := [] ) (by rw [hP, hT]; exact  hOc) rfl rfl rfl trivial (by simp only [go_sem, hP, hn]; try trivial) (by simp only [go_sem, hP, hn]; try rfl) (by simp only [inH, go_sem, hP, hn]; try simp) (by rw [hn]; decide) ?_; simp only [go_sem, hP, hn]; (repeat (refine ⟨by first | trivial | omega | (simp <;> omega) | (simp +contextual; done) | (clear hK; grind), ?_⟩))
  refine hK _ ?_; clear K hK
  (repeat (first | refine Tr.seq ?_ | refine Tr.skip ?_ | refine Tr.label ?_ | refine Tr.block ?_ | refine Tr.scope ?_ | refine gs1 ?_ | refine gs2 ?_ | refine gs3 ?_ | refine Tr.exit ?_ | refine Tr.goto ?_ | refine Tr.ret ?_ | refine n1 ?_ | refine n2 ?_ | refine n3 ?_ | refine n4 ?_ | refine n5 ?_ | refine n6 ?_ | refine n7 ?_ | refine n8 ?_ | refine n9 (by decide) ?_))
  refine Tr.le (Le.keep [1, 5, 6, 31, 32, 33]) ?_; simp only [List.map_cons, List.map_nil, lk, Nat.reduceEqDiff, reduceIte]
  have h0l : ∀ r ∈ rgS lo hi :: List.replicate ns.length ⟨0, 0, 0, 0⟩, in32 r.lo ∧ in32 r.hi := fun r hr => by
    rcases List.mem_cons.1 hr with rfl | hr
    · exact hG.lo0
    · obtain rfl := List.eq_of_mem_replicate hr; exact ⟨by show in32 0; decide, by show in32 0; decide⟩
  refine Tr.loop (fun q s => ∃ (k : Int) (o : List Rg), s = ⟨[(1, .ptr 1 0), (5, .d (.row [.i .i64 0] (W.map intC))), (6, .own 22), (31, .d (.row [.i .i64 0] (os.map intC))), (32, .d (.i .i64 os.length)), (33, .d (.i .i64 k))], [(1, .box 47 (gcs wd lo hi out (.d (rowN ns)))), (22, .row 61 e0R (o.map Rg.ds))]⟩ ∧ 0 ≤ k ∧ k + q = os.length ∧ o.length = ns.length + 1 ∧ (∀ r ∈ o, in32 r.lo ∧ in32 r.hi) ∧ V = rgL ns W (os.drop k.toNat) o) os.length ⟨_, (Le.mv (by simp only [go_sem, hP, hn]; first | done | (simp; done) | (simp [intC]; done) | (repeat (first | rfl | constructor))) (by simp only [go_sem, hP, hn]; first | done | (simp; done) | (simp [intC]; done) | (repeat (first | rfl | constructor)))), 0, rgS lo hi :: List.replicate ns.length ⟨0, 0, 0, 0⟩, rfl, by omega, by omega, by simp, h0l, hV.symm⟩ ?_
  rintro q s ⟨k, o, rfl, k0, kq, hol2, ho32, hst⟩
  (repeat (first | refine Tr.seq ?_ | refine Tr.skip ?_ | refine Tr.label ?_ | refine Tr.block ?_ | refine Tr.scope ?_ | refine gs1 ?_ | refine gs2 ?_ | refine gs3 ?_ | refine Tr.exit ?_ | refine Tr.goto ?_ | refine Tr.ret ?_ | refine n1 ?_ | refine n2 ?_ | refine n3 ?_ | refine n4 ?_ | refine n5 ?_ | refine n6 ?_ | refine n7 ?_ | refine n8 ?_ | refine n9 (by decide) ?_))
  (first | refine r1 ?_ | refine r2 ?_ | refine r3 ?_); intro K hK; simp only [go_sem, hP, hn]; (repeat (refine ⟨by first | trivial | omega | (simp <;> omega) | (simp +contextual; done) | (clear hK; grind), ?_⟩)); refine hK _ ?_; clear K hK
  (repeat (first | refine Tr.seq ?_ | refine Tr.skip ?_ | refine Tr.label ?_ | refine Tr.block ?_ | refine Tr.scope ?_ | refine gs1 ?_ | refine gs2 ?_ | refine gs3 ?_ | refine Tr.exit ?_ | refine Tr.goto ?_ | refine Tr.ret ?_ | refine n1 ?_ | refine n2 ?_ | refine n3 ?_ | refine n4 ?_ | refine n5 ?_ | refine n6 ?_ | refine n7 ?_ | refine n8 ?_ | refine n9 (by decide) ?_))
  refine Tr.cond rfl (fun hb => ?_) (fun hb => ?_)
  · have hk : k < os.length := by simpa using hb
    clear hb
    obtain ⟨⟨hi1, hi2⟩, hN⟩ := hG.osn _ (rd_mem k0 hk)
    rw [drop_rd k0 hk] at hst
    simp only [rgL] at hst
    generalize hii : rd os k = i at *
    have hnd := rw_nd ns (i - 1) (by omega) (by omega)
    have g1 : wrap64 (i - 1) = i - 1 := w64 (by omega) (by omega)
    have hini := hin _ (nd_mem (ns := ns) (i := i - 1) (by omega) (by omega))
    unfold stepR at hst
    generalize nd ns (i - 1) = n at *
    have hil := hN.i0
    have hw0 := hG.w16
    have hj0 := hN.ij _ (rd_mem (l := n.inn) (j := 0) (by decide) (by omega))
    have hwj := hG.w16 _ (rd_mem (l := W) (j := rd n.inn 0) hj0.1 (by omega))
    have hNO : NOk n (n.inn.map (rg o)) (eachW n) := ⟨by rw [List.length_map]; omega, fun r hr => by
      obtain ⟨j, hj, rfl⟩ := List.mem_map.1 hr
      have := hN.ij j hj
      exact rg_in ho32 this.1 (by omega), hN.bw⟩
    have hx32 := nodeR32 (width := rd W (rd n.inn 0)) hNO hN.s27 hwj
    have hnc := node20_c Tk n (rd W (rd n.inn 0)) (n.inn.map (rg o)) (eachW n) hNO
    generalize nodeR n (rd W (rd n.inn 0)) (n.inn.map (rg o)) (eachW n) = x at *
    (repeat (first | refine Tr.seq ?_ | refine Tr.skip ?_ | refine Tr.label ?_ | refine Tr.block ?_ | refine Tr.scope ?_ | refine gs1 ?_ | refine gs2 ?_ | refine gs3 ?_ | refine Tr.exit ?_ | refine Tr.goto ?_ | refine Tr.ret ?_ | refine n1 ?_ | refine n2 ?_ | refine n3 ?_ | refine n4 ?_ | refine n5 ?_ | refine n6 ?_ | refine n7 ?_ | refine n8 ?_ | refine n9 (by decide) ?_))
    (first | refine r1 ?_ | refine r2 ?_ | refine r3 ?_); intro K hK; simp only [go_sem, hP, hn]
    rw [hii]
    (repeat (refine ⟨by first | trivial | omega | (simp <;> omega) | (simp +contextual; done) | (clear hK; grind), ?_⟩))
    refine hK _ ?_; clear K hK
    (repeat (first | refine Tr.seq ?_ | refine Tr.skip ?_ | refine Tr.label ?_ | refine Tr.block ?_ | refine Tr.scope ?_ | refine gs1 ?_ | refine gs2 ?_ | refine gs3 ?_ | refine Tr.exit ?_ | refine Tr.goto ?_ | refine Tr.ret ?_ | refine n1 ?_ | refine n2 ?_ | refine n3 ?_ | refine n4 ?_ | refine n5 ?_ | refine n6 ?_ | refine n7 ?_ | refine n8 ?_ | refine n9 (by decide) ?_))
    (first | refine r1 ?_ | refine r2 ?_ | refine r3 ?_); intro K hK; simp only [g1, go_sem, hP, hn]
    rw [hnd]
    simp only [go_sem, hP, hn]
    (repeat (refine ⟨by first | trivial | omega | (simp <;> omega) | (simp +contextual; done) | (clear hK; grind), ?_⟩))
    refine hK _ ?_; clear K hK
    refine Tr.le (Le.keep [1, 5, 6, 8, 9, 31, 32, 33]) ?_; simp only [List.map_cons, List.map_nil, lk, Nat.reduceEqDiff, reduceIte]
    (repeat (first | refine Tr.seq ?_ | refine Tr.skip ?_ | refine Tr.label ?_ | refine Tr.block ?_ | refine Tr.scope ?_ | refine gs1 ?_ | refine gs2 ?_ | refine gs3 ?_ | refine Tr.exit ?_ | refine Tr.goto ?_ | refine Tr.ret ?_ | refine n1 ?_ | refine n2 ?_ | refine n3 ?_ | refine n4 ?_ | refine n5 ?_ | refine n6 ?_ | refine n7 ?_ | refine n8 ?_ | refine n9 (by decide) ?_))
    (first | refine r1 ?_ | refine r2 ?_ | refine r3 ?_); intro K hK; simp only [go_sem, hP, hn]; (repeat (refine ⟨by first | trivial | omega | (simp <;> omega) | (simp +contextual; done) | (clear hK; grind), ?_⟩)); refine hK _ ?_; clear K hK
    (repeat (first | refine Tr.seq ?_ | refine Tr.skip ?_ | refine Tr.label ?_ | refine Tr.block ?_ | refine Tr.scope ?_ | refine gs1 ?_ | refine gs2 ?_ | refine gs3 ?_ | refine Tr.exit ?_ | refine Tr.goto ?_ | refine Tr.ret ?_ | refine n1 ?_ | refine n2 ?_ | refine n3 ?_ | refine n4 ?_ | refine n5 ?_ | refine n6 ?_ | refine n7 ?_ | refine n8 ?_ | refine n9 (by decide) ?_))
    (first | refine r1 ?_ | refine r2 ?_ | refine r3 ?_); intro K hK; simp only [go_sem, hP, hn]; (repeat (refine ⟨by first | trivial | omega | (simp <;> omega) | (simp +contextual; done) | (clear hK; grind), ?_⟩)); refine hK _ ?_; clear K hK
    (repeat (first | refine Tr.seq ?_ | refine Tr.skip ?_ | refine Tr.label ?_ | refine Tr.block ?_ | refine Tr.scope ?_ | refine gs1 ?_ | refine gs2 ?_ | refine gs3 ?_ | refine Tr.exit ?_ | refine Tr.goto ?_ | refine Tr.ret ?_ | refine n1 ?_ | refine n2 ?_ | refine n3 ?_ | refine n4 ?_ | refine n5 ?_ | refine n6 ?_ | refine n7 ?_ | refine n8 ?_ | refine n9 (by decide) ?_))
    refine Tr.le (Le.keep [1, 5, 6, 8, 9, 10, 31, 32, 33, 48, 49, 50]) ?_; simp only [List.map_cons, List.map_nil, lk, Nat.reduceEqDiff, reduceIte]
    refine Tr.loop (fun p s => ∃ (j : Int) (I : List Rg), s = ⟨[(1, .ptr 1 0), (5, .d (.row [.i .i64 0] (W.map intC))), (6, .own 22), (8, .d (.i .i64 i)), (9, .ptr 9 0), (10, .own 46), (31, .d (.row [.i .i64 0] (os.map intC))), (32, .d (.i .i64 os.length)), (33, .d (.i .i64 k)), (48, .d (.row [.i .i64 0] (n.inn.map intC))), (49, .d (.i .i64 n.inn.length)), (50, .d (.i .i64 j))], [(1, .box 47 (gcs wd lo hi out (.d (rowN ns)))), (22, .row 61 e0R (o.map Rg.ds)), (9, .box 27 n.cs), (46, .row 61 e0R (I.map Rg.ds))]⟩ ∧ 0 ≤ j ∧ j + p = n.inn.length ∧ I.length = n.inn.length ∧ I.take j.toNat = (n.inn.map (rg o)).take j.toNat) n.inn.length ⟨_, (Le.mv (by simp only [go_sem, hP, hn]; first | done | (simp; done) | (simp [intC]; done) | (repeat (first | rfl | constructor))) (by simp only [go_sem, hP, hn]; first | done | (simp; done) | (simp [intC]; done) | (repeat (first | rfl | constructor)))), 0, List.replicate n.inn.length ⟨0, 0, 0, 0⟩, rfl, by omega, by omega, by simp, by simp⟩ ?_
    rintro p s ⟨j, I, rfl, j0, jp, hI, hIt⟩
    (repeat (first | refine Tr.seq ?_ | refine Tr.skip ?_ | refine Tr.label ?_ | refine Tr.block ?_ | refine Tr.scope ?_ | refine gs1 ?_ | refine gs2 ?_ | refine gs3 ?_ | refine Tr.exit ?_ | refine Tr.goto ?_ | refine Tr.ret ?_ | refine n1 ?_ | refine n2 ?_ | refine n3 ?_ | refine n4 ?_ | refine n5 ?_ | refine n6 ?_ | refine n7 ?_ | refine n8 ?_ | refine n9 (by decide) ?_))
    (first | refine r1 ?_ | refine r2 ?_ | refine r3 ?_); intro K hK; simp only [go_sem, hP, hn]; (repeat (refine ⟨by first | trivial | omega | (simp <;> omega) | (simp +contextual; done) | (clear hK; grind), ?_⟩)); refine hK _ ?_; clear K hK
    (repeat (first | refine Tr.seq ?_ | refine Tr.skip ?_ | refine Tr.label ?_ | refine Tr.block ?_ | refine Tr.scope ?_ | refine gs1 ?_ | refine gs2 ?_ | refine gs3 ?_ | refine Tr.exit ?_ | refine Tr.goto ?_ | refine Tr.ret ?_ | refine n1 ?_ | refine n2 ?_ | refine n3 ?_ | refine n4 ?_ | refine n5 ?_ | refine n6 ?_ | refine n7 ?_ | refine n8 ?_ | refine n9 (by decide) ?_))
    refine Tr.cond rfl (fun hb => ?_) (fun hb => ?_)
    · have hj : j < n.inn.length := by simpa using hb
      have hjo := hN.ij _ (rd_mem j0 hj)
      have hrj := rw_rg o (rd n.inn j) hjo.1 (by omega)
      clear hb
      (repeat (first | refine Tr.seq ?_ | refine Tr.skip ?_ | refine Tr.label ?_ | refine Tr.block ?_ | refine Tr.scope ?_ | refine gs1 ?_ | refine gs2 ?_ | refine gs3 ?_ | refine Tr.exit ?_ | refine Tr.goto ?_ | refine Tr.ret ?_ | refine n1 ?_ | refine n2 ?_ | refine n3 ?_ | refine n4 ?_ | refine n5 ?_ | refine n6 ?_ | refine n7 ?_ | refine n8 ?_ | refine n9 (by decide) ?_))
      (first | refine r1 ?_ | refine r2 ?_ | refine r3 ?_); intro K hK; simp only [go_sem, hP, hn]; (repeat (refine ⟨by first | trivial | omega | (simp <;> omega) | (simp +contextual; done) | (clear hK; grind), ?_⟩)); refine hK _ ?_; clear K hK
      (repeat (first | refine Tr.seq ?_ | refine Tr.skip ?_ | refine Tr.label ?_ | refine Tr.block ?_ | refine Tr.scope ?_ | refine gs1 ?_ | refine gs2 ?_ | refine gs3 ?_ | refine Tr.exit ?_ | refine Tr.goto ?_ | refine Tr.ret ?_ | refine n1 ?_ | refine n2 ?_ | refine n3 ?_ | refine n4 ?_ | refine n5 ?_ | refine n6 ?_ | refine n7 ?_ | refine n8 ?_ | refine n9 (by decide) ?_))
      (first | refine r1 ?_ | refine r2 ?_ | refine r3 ?_); intro K hK; simp only [go_sem, hP, hn]
      rw [hrj]
      simp only [go_sem, hP, hn]
      (repeat (refine ⟨by first | trivial | omega | (simp <;> omega) | (simp +contextual; done) | (clear hK; grind), ?_⟩))
      refine hK _ ?_; clear K hK
      (repeat (first | refine Tr.seq ?_ | refine Tr.skip ?_ | refine Tr.label ?_ | refine Tr.block ?_ | refine Tr.scope ?_ | refine gs1 ?_ | refine gs2 ?_ | refine gs3 ?_ | refine Tr.exit ?_ | refine Tr.goto ?_ | refine Tr.ret ?_ | refine n1 ?_ | refine n2 ?_ | refine n3 ?_ | refine n4 ?_ | refine n5 ?_ | refine n6 ?_ | refine n7 ?_ | refine n8 ?_ | refine n9 (by decide) ?_))
      (first | refine r1 ?_ | refine r2 ?_ | refine r3 ?_); intro K hK; simp only [go_sem, hP, hn]; (repeat (refine ⟨by first | trivial | omega | (simp <;> omega) | (simp +contextual; done) | (clear hK; grind), ?_⟩)); refine hK _ ?_; clear K hK
      (repeat (first | refine Tr.seq ?_ | refine Tr.skip ?_ | refine Tr.label ?_ | refine Tr.block ?_ | refine Tr.scope ?_ | refine gs1 ?_ | refine gs2 ?_ | refine gs3 ?_ | refine Tr.exit ?_ | refine Tr.goto ?_ | refine Tr.ret ?_ | refine n1 ?_ | refine n2 ?_ | refine n3 ?_ | refine n4 ?_ | refine n5 ?_ | refine n6 ?_ | refine n7 ?_ | refine n8 ?_ | refine n9 (by decide) ?_))
      rw [w64 (x := j + 1) (by omega) (by omega)]
      refine ⟨p - 1, _, by omega, ?_, j + 1, I.set j.toNat (rg o (rd n.inn j)), rfl, by omega, by omega, by simpa using hI, ?_⟩
      · exact (Le.mv (by simp only [go_sem, hP, hn]; first | done | (simp; done) | (simp [intC]; done) | (repeat (first | rfl | constructor))) (by simp only [go_sem, hP, hn]; first | done | (simp; done) | (simp [intC]; done) | (repeat (first | rfl | constructor))))
      · have hk1 : j.toNat < I.length := by omega
        have hk2 : j.toNat < n.inn.length := by omega
        rw [show (j + 1).toNat = j.toNat + 1 by omega, List.take_succ_eq_append_getElem (by simpa using hk1), List.take_succ_eq_append_getElem (by simpa using hk2), List.take_set_of_le (Nat.le_refl _), hIt]
        simp [rd, List.getD, hk2]
    · have hj : j = n.inn.length := by have := of_decide_eq_false hb; omega
      clear hb
      have hII : I = n.inn.map (rg o) := by
        rw [hj, Int.toNat_natCast, List.take_of_length_le (by omega), List.take_of_length_le (by simp)] at hIt
        exact hIt
      subst hII
      clear hI hIt j0 jp hj
      refine Tr.le (Le.keep [1, 5, 6, 8, 9, 10, 31, 32, 33]) ?_; simp only [List.map_cons, List.map_nil, lk, Nat.reduceEqDiff, reduceIte]
      refine Tr.le (Le.freeze 46) ?_
      simp only [go_sem, hP, hn]
      (repeat (first | refine Tr.seq ?_ | refine Tr.skip ?_ | refine Tr.label ?_ | refine Tr.block ?_ | refine Tr.scope ?_ | refine gs1 ?_ | refine gs2 ?_ | refine gs3 ?_ | refine Tr.exit ?_ | refine Tr.goto ?_ | refine Tr.ret ?_ | refine n1 ?_ | refine n2 ?_ | refine n3 ?_ | refine n4 ?_ | refine n5 ?_ | refine n6 ?_ | refine n7 ?_ | refine n8 ?_ | refine n9 (by decide) ?_))
      (first | refine d1 (.p true 0 (.p true 1 (.p true 2 (.p true 3 (.p true 4 (.p true 5 (.p true 6 (.p true 7 (.p true 8 (.p true 9 (.p true 10 (.alt 11 (.p true 12 (.alt 13 .nil .nil)) .nil)))))))))))) [22] (by rw [hP]; kernel_rfl) (by kernel_rfl) (by simp only [go_sem, hP, hn]; try simp) (fun _ _ h => h) fun K hK => ?_ | refine d2 (.p true 0 (.p true 1 (.p true 2 (.p true 3 (.p true 4 (.p true 5 (.p true 6 (.p true 7 (.p true 8 (.p true 9 (.p true 10 (.alt 11 (.p true 12 (.alt 13 .nil .nil)) .nil)))))))))))) [22] (by rw [hP]; kernel_rfl) (by kernel_rfl) (by simp only [go_sem, hP, hn]; try simp) (fun _ _ h => h) fun K hK => ?_ | refine d4 (.p true 0 (.p true 1 (.p true 2 (.p true 3 (.p true 4 (.p true 5 (.p true 6 (.p true 7 (.p true 8 (.p true 9 (.p true 10 (.alt 11 (.p true 12 (.alt 13 .nil .nil)) .nil)))))))))))) [22] (by rw [hP]; kernel_rfl) (by kernel_rfl) (by simp only [go_sem, hP, hn]; try simp) (fun _ _ h => h) fun K hK => ?_); simp only [go_sem, hP, hn]
      (repeat (refine ⟨by first | trivial | omega | (simp <;> omega) | (simp +contextual; done) | (clear hK; grind), ?_⟩))
      refine CallP_cs (by rw [hP, hT]; exact hnc) rfl rfl rfl trivial (by simp only [go_sem, hP, hn]; try trivial) (by simp only [go_sem, hP, hn]; try rfl) (by rw [hn]; decide) ?_; simp only [go_sem, hP, hn]; (repeat (refine ⟨by first | trivial | omega | (simp <;> omega) | (simp +contextual; done) | (clear hK; grind), ?_⟩))
      refine hK _ ?_; clear K hK
      refine Tr.le (Le.keep [1, 5, 6, 8, 31, 32, 33]) ?_; simp only [List.map_cons, List.map_nil, lk, Nat.reduceEqDiff, reduceIte]
      have hrx : ((o.set i.toNat x).map Rg.ds).getD i.toNat [.i .i64 0, .i .i64 0, .i .i64 0, .i .i64 0] = [.i .i64 x.lo, .i .i64 x.hi, .i .i64 x.al, .i .i64 x.ah] := by
        have hk : i.toNat < o.length := by omega
        simp [List.getD, hk, Rg.ds]
      (repeat (first | refine Tr.seq ?_ | refine Tr.skip ?_ | refine Tr.label ?_ | refine Tr.block ?_ | refine Tr.scope ?_ | refine gs1 ?_ | refine gs2 ?_ | refine gs3 ?_ | refine Tr.exit ?_ | refine Tr.goto ?_ | refine Tr.ret ?_ | refine n1 ?_ | refine n2 ?_ | refine n3 ?_ | refine n4 ?_ | refine n5 ?_ | refine n6 ?_ | refine n7 ?_ | refine n8 ?_ | refine n9 (by decide) ?_))
      (first | refine r1 ?_ | refine r2 ?_ | refine r3 ?_); intro K hK; simp only [go_sem, hP, hn]
      rw [hrx]
      simp only [go_sem, hP, hn]
      (repeat (refine ⟨by first | trivial | omega | (simp <;> omega) | (simp +contextual; done) | (clear hK; grind), ?_⟩))
      refine hK _ ?_; clear K hK
      refine Tr.le (Le.keep [1, 5, 6, 31, 32, 33, 89]) ?_; simp only [List.map_cons, List.map_nil, lk, Nat.reduceEqDiff, reduceIte]
      (repeat (first | refine Tr.seq ?_ | refine Tr.skip ?_ | refine Tr.label ?_ | refine Tr.block ?_ | refine Tr.scope ?_ | refine gs1 ?_ | refine gs2 ?_ | refine gs3 ?_ | refine Tr.exit ?_ | refine Tr.goto ?_ | refine Tr.ret ?_ | refine n1 ?_ | refine n2 ?_ | refine n3 ?_ | refine n4 ?_ | refine n5 ?_ | refine n6 ?_ | refine n7 ?_ | refine n8 ?_ | refine n9 (by decide) ?_))
      refine Tr.cond rfl (fun hc => ?_) (fun hc => ?_)
      · have hov : overR x = true := hc
        rw [if_pos hov] at hst
        subst hst
        (repeat (first | refine Tr.seq ?_ | refine Tr.skip ?_ | refine Tr.label ?_ | refine Tr.block ?_ | refine Tr.scope ?_ | refine gs1 ?_ | refine gs2 ?_ | refine gs3 ?_ | refine Tr.exit ?_ | refine Tr.goto ?_ | refine Tr.ret ?_ | refine n1 ?_ | refine n2 ?_ | refine n3 ?_ | refine n4 ?_ | refine n5 ?_ | refine n6 ?_ | refine n7 ?_ | refine n8 ?_ | refine n9 (by decide) ?_))
        (first | refine r1 ?_ | refine r2 ?_ | refine r3 ?_); intro K hK; simp only [go_sem, hP, hn]; (repeat (refine ⟨by first | trivial | omega | (simp <;> omega) | (simp +contextual; done) | (clear hK; grind), ?_⟩)); refine hK _ ?_; clear K hK
        refine Tr.le (Le.nilrow 2 e0R rfl) ?_
        (repeat (first | ((first | refine r1 ?_ | refine r2 ?_ | refine r3 ?_); intro K hK; simp only [go_sem, hP, hn]; (repeat (refine ⟨by first | trivial | omega | (simp <;> omega) | (simp +contextual; done) | (clear hK; grind), ?_⟩)); refine hK _ ?_; clear K hK) | refine Tr.seq ?_ | refine Tr.skip ?_ | refine Tr.label ?_ | refine Tr.block ?_ | refine Tr.scope ?_ | refine gs1 ?_ | refine gs2 ?_ | refine gs3 ?_ | refine Tr.exit ?_ | refine Tr.goto ?_ | refine Tr.ret ?_ | refine n1 ?_ | refine n2 ?_ | refine n3 ?_ | refine n4 ?_ | refine n5 ?_ | refine n6 ?_ | refine n7 ?_ | refine n8 ?_ | refine n9 (by decide) ?_))
        simp only [RetG, go_sem]; (repeat (with_reducible refine And.intro ?_ ?_; (· first | trivial | omega | (simp <;> omega) | (simp +contextual; done) | (clear hK; grind))))
      · have hov : ¬ overR x = true := by
          have : overR x = false := hc
          rw [this]; decide
        rw [if_neg hov] at hst
        (repeat (first | refine Tr.seq ?_ | refine Tr.skip ?_ | refine Tr.label ?_ | refine Tr.block ?_ | refine Tr.scope ?_ | refine gs1 ?_ | refine gs2 ?_ | refine gs3 ?_ | refine Tr.exit ?_ | refine Tr.goto ?_ | refine Tr.ret ?_ | refine n1 ?_ | refine n2 ?_ | refine n3 ?_ | refine n4 ?_ | refine n5 ?_ | refine n6 ?_ | refine n7 ?_ | refine n8 ?_ | refine n9 (by decide) ?_))
        (first | refine r1 ?_ | refine r2 ?_ | refine r3 ?_); intro K hK; simp only [go_sem, hP, hn]; (repeat (refine ⟨by first | trivial | omega | (simp <;> omega) | (simp +contextual; done) | (clear hK; grind), ?_⟩)); refine hK _ ?_; clear K hK
        (repeat (first | refine Tr.seq ?_ | refine Tr.skip ?_ | refine Tr.label ?_ | refine Tr.block ?_ | refine Tr.scope ?_ | refine gs1 ?_ | refine gs2 ?_ | refine gs3 ?_ | refine Tr.exit ?_ | refine Tr.goto ?_ | refine Tr.ret ?_ | refine n1 ?_ | refine n2 ?_ | refine n3 ?_ | refine n4 ?_ | refine n5 ?_ | refine n6 ?_ | refine n7 ?_ | refine n8 ?_ | refine n9 (by decide) ?_))
        rw [w64 (x := k + 1) (by omega) (by omega)]
        refine ⟨q - 1, _, by omega, ?_, k + 1, o.set i.toNat x, rfl, by omega, by omega, by simpa using hol2, fun r hr => ?_, hst⟩
        · exact (Le.mv (by simp only [go_sem, hP, hn]; first | done | (simp; done) | (simp [intC]; done) | (repeat (first | rfl | constructor))) (by simp only [go_sem, hP, hn]; first | done | (simp; done) | (simp [intC]; done) | (repeat (first | rfl | constructor))))
        · rcases List.mem_or_eq_of_mem_set hr with h | rfl
          · exact ho32 r h
          · exact hx32
  · rw [drop_end (by simpa using hb)] at hst
    simp only [rgL] at hst
    subst hst
    refine Tr.le (Le.keep [1, 5, 6]) ?_; simp only [List.map_cons, List.map_nil, lk, Nat.reduceEqDiff, reduceIte]
    refine Tr.le (Le.freeze 22) ?_
    simp only [go_sem, hP, hn]
    (repeat (first | ((first | refine r1 ?_ | refine r2 ?_ | refine r3 ?_); intro K hK; simp only [go_sem, hP, hn]; (repeat (refine ⟨by first | trivial | omega | (simp <;> omega) | (simp +contextual; done) | (clear hK; grind), ?_⟩)); refine hK _ ?_; clear K hK) | refine Tr.seq ?_ | refine Tr.skip ?_ | refine Tr.label ?_ | refine Tr.block ?_ | refine Tr.scope ?_ | refine gs1 ?_ | refine gs2 ?_ | refine gs3 ?_ | refine Tr.exit ?_ | refine Tr.goto ?_ | refine Tr.ret ?_ | refine n1 ?_ | refine n2 ?_ | refine n3 ?_ | refine n4 ?_ | refine n5 ?_ | refine n6 ?_ | refine n7 ?_ | refine n8 ?_ | refine n9 (by decide) ?_))
    simp only [RetG, go_sem]; (repeat (with_reducible refine And.intro ?_ ?_; (· first | trivial | omega | (simp <;> omega) | (simp +contextual; done) | (clear hK; grind))))
theorem Fits20_c {T : World → Prop} (Tk : KT T) (wd lo hi out : Int) (ns : List Nd) (hns : ns.length ≤ 65536) (hin : ∀ n ∈ ns, n.inn.length ≤ 4096 ∧ n.ws.length ≤ 65536 ∧ n.bs.length ≤ 65536) (hL : (lookG wd lo hi out ns).1 = 0 → LG lo hi ns (lookG wd lo hi out ns).2.1 (lookG wd lo hi out ns).2.2.1) :
    Cg Go.Proofs.Tryd.prog T 52 [] [.agg (gcs wd lo hi out (.d (rowN ns)))] (fun r H => H = [] ∧ r = .d (.b ((rangesV wd lo hi out ns).1 == 0))) := by
  refine Cg_of [] Tk.m Go.Proofs.Tryd.func52 rfl rfl Go.Proofs.Tryd.ntmps52 (by simp) rfl (rs := [.tmp 2]) rfl fun E hP hn hT hpn => ?_
  (repeat (first | refine Tr.seq ?_ | refine Tr.skip ?_ | refine Tr.label ?_ | refine Tr.block ?_ | refine Tr.scope ?_ | refine gs1 ?_ | refine gs2 ?_ | refine gs3 ?_ | refine Tr.exit ?_ | refine Tr.goto ?_ | refine Tr.ret ?_ | refine n1 ?_ | refine n2 ?_ | refine n3 ?_ | refine n4 ?_ | refine n5 ?_ | refine n6 ?_ | refine n7 ?_ | refine n8 ?_ | refine n9 (by decide) ?_))
  (first | refine r1 ?_ | refine r2 ?_ | refine r3 ?_); intro K hK; simp only [go_sem, hP, hn]; (repeat (refine ⟨by first | trivial | omega | (simp <;> omega) | (simp +contextual; done) | (clear hK; grind), ?_⟩)); refine hK _ ?_; clear K hK
  (repeat (first | refine Tr.seq ?_ | refine Tr.skip ?_ | refine Tr.label ?_ | refine Tr.block ?_ | refine Tr.scope ?_ | refine gs1 ?_ | refine gs2 ?_ | refine gs3 ?_ | refine Tr.exit ?_ | refine Tr.goto ?_ | refine Tr.ret ?_ | refine n1 ?_ | refine n2 ?_ | refine n3 ?_ | refine n4 ?_ | refine n5 ?_ | refine n6 ?_ | refine n7 ?_ | refine n8 ?_ | refine n9 (by decide) ?_))
  (first | refine r1 ?_ | refine r2 ?_ | refine r3 ?_); intro K hK; simp only [go_sem, hP, hn]
  (repeat (refine ⟨by first | trivial | omega | (simp <;> omega) | (simp +contextual; done) | (clear hK; grind), ?_⟩))
  refine CallN_cs (Hi := [] ) (by rw [hP, hT]; exact  Ranges_c Tk wd lo hi out ns hns hin hL) rfl rfl rfl trivial (by simp only [go_sem, hP, hn]; try trivial) (by simp only [go_sem, hP, hn]; try rfl) (by simp only [inH, go_sem, hP, hn]; try simp) (by rw [hn]; decide) ?_; simp only [go_sem, hP, hn]; (repeat (refine ⟨by first | trivial | omega | (simp <;> omega) | (simp +contextual; done) | (clear hK; grind), ?_⟩))
  refine hK _ ?_; clear K hK
  (repeat (first | ((first | refine r1 ?_ | refine r2 ?_ | refine r3 ?_); intro K hK; simp only [go_sem, hP, hn]; (repeat (refine ⟨by first | trivial | omega | (simp <;> omega) | (simp +contextual; done) | (clear hK; grind), ?_⟩)); refine hK _ ?_; clear K hK) | refine Tr.seq ?_ | refine Tr.skip ?_ | refine Tr.label ?_ | refine Tr.block ?_ | refine Tr.scope ?_ | refine gs1 ?_ | refine gs2 ?_ | refine gs3 ?_ | refine Tr.exit ?_ | refine Tr.goto ?_ | refine Tr.ret ?_ | refine n1 ?_ | refine n2 ?_ | refine n3 ?_ | refine n4 ?_ | refine n5 ?_ | refine n6 ?_ | refine n7 ?_ | refine n8 ?_ | refine n9 (by decide) ?_))
  simp only [RetG, go_sem]; (repeat (with_reducible refine And.intro ?_ ?_; (· first | trivial | omega | (simp <;> omega) | (simp +contextual; done) | (clear hK; grind))))
end
theorem next_num (x n : Int) (hn : 0 < n) (h1 : n ≤ 1000000) : 0 ≤ Int.tmod (wrap64 (Int.tmod x n + n)) n ∧ Int.tmod (wrap64 (Int.tmod x n + n)) n < n := by
  have a1 : -n < Int.tmod x n := by have := Int.lt_tmod_of_pos x hn; omega
  have a2 : Int.tmod x n < n := Int.tmod_lt_of_pos x hn
  rw [w64 (by omega) (by omega)]
  exact ⟨Int.tmod_nonneg _ (by omega), Int.tmod_lt_of_pos _ hn⟩

theorem Windows_r {T : World → Prop} (Tm : TP T) (k : Int) : Ct Go.Proofs.Tryd.prog T 28 [.d (.i .i64 k)] true (fun r => r = .d (.b (rWin k))) := by
  refine Ct_of Tm Go.Proofs.Tryd.func28 rfl rfl Go.Proofs.Tryd.ntmps28 (by simp) (rs := [.tmp 2]) rfl fun E hP hn hT => ?_
  (repeat (first | ((first | refine r1 ?_ | refine r2 ?_ | refine r3 ?_); intro K hK; simp only [go_sem, hP, hn]; (repeat (refine ⟨by first | trivial | omega | (simp <;> omega) | (simp +contextual; done) | (clear hK; grind), ?_⟩)); refine hK _ ?_; clear K hK) | refine Tr.seq ?_ | refine Tr.skip ?_ | refine Tr.label ?_ | refine Tr.block ?_ | refine Tr.scope ?_ | refine gs1 ?_ | refine gs2 ?_ | refine gs3 ?_ | refine Tr.exit ?_ | refine Tr.goto ?_ | refine Tr.ret ?_ | refine n1 ?_ | refine n2 ?_ | refine n3 ?_ | refine n4 ?_ | refine n5 ?_ | refine n6 ?_ | refine n7 ?_ | refine n8 ?_ | refine n9 (by decide) ?_))
  simp only [RetQ, go_sem]
  rfl
theorem four_r {T : World → Prop} (Tm : TP T) (k : Int) : Ct Go.Proofs.Tryd.prog T 110 [.d (.i .i64 k)] true (fun r => r = .d (.b (rFour k))) := by
  refine Ct_of Tm Go.Proofs.Tryd.func110 rfl rfl Go.Proofs.Tryd.ntmps110 (by simp) (rs := [.tmp 2]) rfl fun E hP hn hT => ?_
  (repeat (first | ((first | refine r1 ?_ | refine r2 ?_ | refine r3 ?_); intro K hK; simp only [go_sem, hP, hn]; (repeat (refine ⟨by first | trivial | omega | (simp <;> omega) | (simp +contextual; done) | (clear hK; grind), ?_⟩)); refine hK _ ?_; clear K hK) | refine Tr.seq ?_ | refine Tr.skip ?_ | refine Tr.label ?_ | refine Tr.block ?_ | refine Tr.scope ?_ | refine gs1 ?_ | refine gs2 ?_ | refine gs3 ?_ | refine Tr.exit ?_ | refine Tr.goto ?_ | refine Tr.ret ?_ | refine n1 ?_ | refine n2 ?_ | refine n3 ?_ | refine n4 ?_ | refine n5 ?_ | refine n6 ?_ | refine n7 ?_ | refine n8 ?_ | refine n9 (by decide) ?_))
  simp only [RetQ, go_sem]
  rfl
theorem weighs_r {T : World → Prop} (Tm : TP T) (k : Int) : Ct Go.Proofs.Tryd.prog T 83 [.d (.i .i64 k)] true (fun r => r = .d (.b (rWeighs k))) := by
  refine Ct_of Tm Go.Proofs.Tryd.func83 rfl rfl Go.Proofs.Tryd.ntmps83 (by simp) (rs := [.tmp 2]) rfl fun E hP hn hT => ?_
  (repeat (first | ((first | refine r1 ?_ | refine r2 ?_ | refine r3 ?_); intro K hK; simp only [go_sem, hP, hn]; (repeat (refine ⟨by first | trivial | omega | (simp <;> omega) | (simp +contextual; done) | (clear hK; grind), ?_⟩)); refine hK _ ?_; clear K hK) | refine Tr.seq ?_ | refine Tr.skip ?_ | refine Tr.label ?_ | refine Tr.block ?_ | refine Tr.scope ?_ | refine gs1 ?_ | refine gs2 ?_ | refine gs3 ?_ | refine Tr.exit ?_ | refine Tr.goto ?_ | refine Tr.ret ?_ | refine n1 ?_ | refine n2 ?_ | refine n3 ?_ | refine n4 ?_ | refine n5 ?_ | refine n6 ?_ | refine n7 ?_ | refine n8 ?_ | refine n9 (by decide) ?_))
  simp only [RetQ, go_sem]
  rfl
theorem Many_r {T : World → Prop} (Tm : TP T) (k : Int) : Ct Go.Proofs.Tryd.prog T 72 [.d (.i .i64 k)] true (fun r => r = .d (.b (rMany k))) := by
  refine Ct_of Tm Go.Proofs.Tryd.func72 rfl rfl Go.Proofs.Tryd.ntmps72 (by simp) (rs := [.tmp 2]) rfl fun E hP hn hT => ?_
  (repeat (first | ((first | refine r1 ?_ | refine r2 ?_ | refine r3 ?_); intro K hK; simp only [go_sem, hP, hn]; (repeat (refine ⟨by first | trivial | omega | (simp <;> omega) | (simp +contextual; done) | (clear hK; grind), ?_⟩)); refine hK _ ?_; clear K hK) | refine Tr.seq ?_ | refine Tr.skip ?_ | refine Tr.label ?_ | refine Tr.block ?_ | refine Tr.scope ?_ | refine gs1 ?_ | refine gs2 ?_ | refine gs3 ?_ | refine Tr.exit ?_ | refine Tr.goto ?_ | refine Tr.ret ?_ | refine n1 ?_ | refine n2 ?_ | refine n3 ?_ | refine n4 ?_ | refine n5 ?_ | refine n6 ?_ | refine n7 ?_ | refine n8 ?_ | refine n9 (by decide) ?_))
  simp only [RetQ, go_sem]
  rfl
theorem in_r {T : World → Prop} (Tm : TP T) (x lo hi : Int) : Ct Go.Proofs.Tryd.prog T 82 [.d (.i .i64 x), .d (.i .i64 lo), .d (.i .i64 hi)] true (fun r => r = .d (.b (inB x lo hi))) := by
  refine Ct_of Tm Go.Proofs.Tryd.func82 rfl rfl Go.Proofs.Tryd.ntmps82 (by simp) (rs := [.tmp 6]) rfl fun E hP hn hT => ?_
  (repeat (first | ((first | refine r1 ?_ | refine r2 ?_ | refine r3 ?_); intro K hK; simp only [go_sem, hP, hn]; (repeat (refine ⟨by first | trivial | omega | (simp <;> omega) | (simp +contextual; done) | (clear hK; grind), ?_⟩)); refine hK _ ?_; clear K hK) | refine Tr.seq ?_ | refine Tr.skip ?_ | refine Tr.label ?_ | refine Tr.block ?_ | refine Tr.scope ?_ | refine gs1 ?_ | refine gs2 ?_ | refine gs3 ?_ | refine Tr.exit ?_ | refine Tr.goto ?_ | refine Tr.ret ?_ | refine n1 ?_ | refine n2 ?_ | refine n3 ?_ | refine n4 ?_ | refine n5 ?_ | refine n6 ?_ | refine n7 ?_ | refine n8 ?_ | refine n9 (by decide) ?_))
  simp only [RetQ, go_sem]
  rfl
theorem all_r {T : World → Prop} (Tm : TP T) (l : List Int) (lo hi : Int) (hl : l.length ≤ 65536) : Ct Go.Proofs.Tryd.prog T 81 [.d (.row [.i .i64 0] (l.map intC)), .d (.i .i64 lo), .d (.i .i64 hi)] true (fun r => r = .d (.b (l.all (inB · lo hi)))) := by
  refine Ct_of Tm Go.Proofs.Tryd.func81 rfl rfl Go.Proofs.Tryd.ntmps81 (by simp) (rs := [.tmp 6]) rfl fun E hP hn hT => ?_
  (repeat (first | ((first | refine r1 ?_ | refine r2 ?_ | refine r3 ?_); intro K hK; simp only [go_sem, hP, hn]; (repeat (refine ⟨by first | trivial | omega | (simp <;> omega) | (simp +contextual; done) | (clear hK; grind), ?_⟩)); refine hK _ ?_; clear K hK) | refine Tr.seq ?_ | refine Tr.skip ?_ | refine Tr.label ?_ | refine Tr.block ?_ | refine Tr.scope ?_ | refine gs1 ?_ | refine gs2 ?_ | refine gs3 ?_ | refine Tr.exit ?_ | refine Tr.goto ?_ | refine Tr.ret ?_ | refine n1 ?_ | refine n2 ?_ | refine n3 ?_ | refine n4 ?_ | refine n5 ?_ | refine n6 ?_ | refine n7 ?_ | refine n8 ?_ | refine n9 (by decide) ?_))
  refine Tr.loop (fun n s => ∃ j : Int, s = ⟨[(0, .d (.row [.i .i64 0] (l.map intC))), (1, .d (.i .i64 lo)), (2, .d (.i .i64 hi)), (7, .d (.i .i64 j))], []⟩ ∧ 0 ≤ j ∧ j + n = l.length ∧ l.all (inB · lo hi) = (l.drop j.toNat).all (inB · lo hi)) l.length ⟨_, (Le.mv (by simp only [go_sem, hP, hn]; first | done | (simp; done) | (simp [intC]; done) | (repeat (first | rfl | constructor))) (by simp only [go_sem, hP, hn]; first | done | (simp; done) | (simp [intC]; done) | (repeat (first | rfl | constructor)))), 0, rfl, by omega, by omega, by simp⟩ ?_
  rintro n s ⟨j, rfl, h0, h1, h2⟩
  (repeat (first | ((first | refine r1 ?_ | refine r2 ?_ | refine r3 ?_); intro K hK; simp only [go_sem, hP, hn]; (repeat (refine ⟨by first | trivial | omega | (simp <;> omega) | (simp +contextual; done) | (clear hK; grind), ?_⟩)); refine hK _ ?_; clear K hK) | refine Tr.seq ?_ | refine Tr.skip ?_ | refine Tr.label ?_ | refine Tr.block ?_ | refine Tr.scope ?_ | refine gs1 ?_ | refine gs2 ?_ | refine gs3 ?_ | refine Tr.exit ?_ | refine Tr.goto ?_ | refine Tr.ret ?_ | refine n1 ?_ | refine n2 ?_ | refine n3 ?_ | refine n4 ?_ | refine n5 ?_ | refine n6 ?_ | refine n7 ?_ | refine n8 ?_ | refine n9 (by decide) ?_))
  refine Tr.cond rfl (fun hb => ?_) (fun hb => ?_)
  · have hj : j < l.length := by simpa using hb
    (repeat (first | ((first | refine r1 ?_ | refine r2 ?_ | refine r3 ?_); intro K hK; simp only [go_sem, hP, hn]; (repeat (refine ⟨by first | trivial | omega | (simp <;> omega) | (simp +contextual; done) | (clear hK; grind), ?_⟩)); refine hK _ ?_; clear K hK) | refine Tr.seq ?_ | refine Tr.skip ?_ | refine Tr.label ?_ | refine Tr.block ?_ | refine Tr.scope ?_ | refine gs1 ?_ | refine gs2 ?_ | refine gs3 ?_ | refine Tr.exit ?_ | refine Tr.goto ?_ | refine Tr.ret ?_ | refine n1 ?_ | refine n2 ?_ | refine n3 ?_ | refine n4 ?_ | refine n5 ?_ | refine n6 ?_ | refine n7 ?_ | refine n8 ?_ | refine n9 (by decide) ?_))
    refine Tr.cond rfl (fun hc => ?_) (fun hc => ?_)
    · (repeat (first | ((first | refine r1 ?_ | refine r2 ?_ | refine r3 ?_); intro K hK; simp only [go_sem, hP, hn]; (repeat (refine ⟨by first | trivial | omega | (simp <;> omega) | (simp +contextual; done) | (clear hK; grind), ?_⟩)); refine hK _ ?_; clear K hK) | refine Tr.seq ?_ | refine Tr.skip ?_ | refine Tr.label ?_ | refine Tr.block ?_ | refine Tr.scope ?_ | refine gs1 ?_ | refine gs2 ?_ | refine gs3 ?_ | refine Tr.exit ?_ | refine Tr.goto ?_ | refine Tr.ret ?_ | refine n1 ?_ | refine n2 ?_ | refine n3 ?_ | refine n4 ?_ | refine n5 ?_ | refine n6 ?_ | refine n7 ?_ | refine n8 ?_ | refine n9 (by decide) ?_))
      simp only [RetQ, go_sem]
      have e : inB (rd l j) lo hi = false := by
        unfold inB
        simp only [Bool.or_eq_true, decide_eq_true_eq] at hc
        rw [Bool.and_eq_false_iff, decide_eq_false_iff_not, decide_eq_false_iff_not]
        omega
      rw [h2, drop_rd h0 hj, List.all_cons, e, Bool.false_and]
    · (repeat (first | ((first | refine r1 ?_ | refine r2 ?_ | refine r3 ?_); intro K hK; simp only [go_sem, hP, hn]; (repeat (refine ⟨by first | trivial | omega | (simp <;> omega) | (simp +contextual; done) | (clear hK; grind), ?_⟩)); refine hK _ ?_; clear K hK) | refine Tr.seq ?_ | refine Tr.skip ?_ | refine Tr.label ?_ | refine Tr.block ?_ | refine Tr.scope ?_ | refine gs1 ?_ | refine gs2 ?_ | refine gs3 ?_ | refine Tr.exit ?_ | refine Tr.goto ?_ | refine Tr.ret ?_ | refine n1 ?_ | refine n2 ?_ | refine n3 ?_ | refine n4 ?_ | refine n5 ?_ | refine n6 ?_ | refine n7 ?_ | refine n8 ?_ | refine n9 (by decide) ?_))
      rw [w64 (by omega) (by omega)]
      refine ⟨n - 1, _, by omega, ?_, j + 1, rfl, by omega, by omega, ?_⟩
      · exact (Le.mv (by simp only [go_sem, hP, hn]; first | done | (simp; done) | (simp [intC]; done) | (repeat (first | rfl | constructor))) (by simp only [go_sem, hP, hn]; first | done | (simp; done) | (simp [intC]; done) | (repeat (first | rfl | constructor))))
      have e : inB (rd l j) lo hi = true := by
        unfold inB
        simp only [Bool.or_eq_false_iff, decide_eq_false_iff_not] at hc
        rw [Bool.and_eq_true, decide_eq_true_eq, decide_eq_true_eq]
        omega
      rw [h2, drop_rd h0 hj, List.all_cons, e, Bool.true_and]
  · (repeat (first | ((first | refine r1 ?_ | refine r2 ?_ | refine r3 ?_); intro K hK; simp only [go_sem, hP, hn]; (repeat (refine ⟨by first | trivial | omega | (simp <;> omega) | (simp +contextual; done) | (clear hK; grind), ?_⟩)); refine hK _ ?_; clear K hK) | refine Tr.seq ?_ | refine Tr.skip ?_ | refine Tr.label ?_ | refine Tr.block ?_ | refine Tr.scope ?_ | refine gs1 ?_ | refine gs2 ?_ | refine gs3 ?_ | refine Tr.exit ?_ | refine Tr.goto ?_ | refine Tr.ret ?_ | refine n1 ?_ | refine n2 ?_ | refine n3 ?_ | refine n4 ?_ | refine n5 ?_ | refine n6 ?_ | refine n7 ?_ | refine n8 ?_ | refine n9 (by decide) ?_))
    simp only [RetQ, go_sem]
    rw [h2, drop_end (by simpa using hb)]
    rfl
theorem Span_r {T : World → Prop} (Tm : TP T) (n : Nd) : Ct Go.Proofs.Tryd.prog T 101 [.agg n.cs] true (fun r => r = .d (.i .i64 n.rSpan)) := by
  refine Ct_of Tm Go.Proofs.Tryd.func101 rfl rfl Go.Proofs.Tryd.ntmps101 (by simp) (rs := [.tmp 2]) rfl fun E hP hn hT => ?_
  (repeat (first | ((first | refine r1 ?_ | refine r2 ?_ | refine r3 ?_); intro K hK; simp only [go_sem, hP, hn]; (repeat (refine ⟨by first | trivial | omega | (simp <;> omega) | (simp +contextual; done) | (clear hK; grind), ?_⟩)); refine hK _ ?_; clear K hK) | refine Tr.seq ?_ | refine Tr.skip ?_ | refine Tr.label ?_ | refine Tr.block ?_ | refine Tr.scope ?_ | refine gs1 ?_ | refine gs2 ?_ | refine gs3 ?_ | refine Tr.exit ?_ | refine Tr.goto ?_ | refine Tr.ret ?_ | refine n1 ?_ | refine n2 ?_ | refine n3 ?_ | refine n4 ?_ | refine n5 ?_ | refine n6 ?_ | refine n7 ?_ | refine n8 ?_ | refine n9 (by decide) ?_))
  refine Tr.cond rfl (fun h1 => ?_) (fun h1 => ?_)
  · (repeat (first | ((first | refine r1 ?_ | refine r2 ?_ | refine r3 ?_); intro K hK; simp only [go_sem, hP, hn]; (repeat (refine ⟨by first | trivial | omega | (simp <;> omega) | (simp +contextual; done) | (clear hK; grind), ?_⟩)); refine hK _ ?_; clear K hK) | refine Tr.seq ?_ | refine Tr.skip ?_ | refine Tr.label ?_ | refine Tr.block ?_ | refine Tr.scope ?_ | refine gs1 ?_ | refine gs2 ?_ | refine gs3 ?_ | refine Tr.exit ?_ | refine Tr.goto ?_ | refine Tr.ret ?_ | refine n1 ?_ | refine n2 ?_ | refine n3 ?_ | refine n4 ?_ | refine n5 ?_ | refine n6 ?_ | refine n7 ?_ | refine n8 ?_ | refine n9 (by decide) ?_))
    simp only [RetQ, go_sem]
    unfold Nd.rSpan; rw [h1]; rfl
  (repeat (first | ((first | refine r1 ?_ | refine r2 ?_ | refine r3 ?_); intro K hK; simp only [go_sem, hP, hn]; (repeat (refine ⟨by first | trivial | omega | (simp <;> omega) | (simp +contextual; done) | (clear hK; grind), ?_⟩)); refine hK _ ?_; clear K hK) | refine Tr.seq ?_ | refine Tr.skip ?_ | refine Tr.label ?_ | refine Tr.block ?_ | refine Tr.scope ?_ | refine gs1 ?_ | refine gs2 ?_ | refine gs3 ?_ | refine Tr.exit ?_ | refine Tr.goto ?_ | refine Tr.ret ?_ | refine n1 ?_ | refine n2 ?_ | refine n3 ?_ | refine n4 ?_ | refine n5 ?_ | refine n6 ?_ | refine n7 ?_ | refine n8 ?_ | refine n9 (by decide) ?_))
  (first | refine r1 ?_ | refine r2 ?_ | refine r3 ?_); intro K hK; simp only [go_sem, hP, hn]; (repeat (refine ⟨by first | trivial | omega | (simp <;> omega) | (simp +contextual; done) | (clear hK; grind), ?_⟩)); refine c1 (by rw [hP, hT]; exact Windows_r Tm n.k) rfl rfl rfl trivial (by simp only [go_sem, hP, hn]; try trivial) (by simp only [go_sem, hP, hn]; try rfl) (by rw [hn]; decide) (by rfl) ?_; simp only [go_sem, hP, hn]; (repeat (refine ⟨by first | trivial | omega | (simp <;> omega) | (simp +contextual; done) | (clear hK; grind), ?_⟩)); refine hK _ ?_; clear K hK
  (repeat (first | ((first | refine r1 ?_ | refine r2 ?_ | refine r3 ?_); intro K hK; simp only [go_sem, hP, hn]; (repeat (refine ⟨by first | trivial | omega | (simp <;> omega) | (simp +contextual; done) | (clear hK; grind), ?_⟩)); refine hK _ ?_; clear K hK) | refine Tr.seq ?_ | refine Tr.skip ?_ | refine Tr.label ?_ | refine Tr.block ?_ | refine Tr.scope ?_ | refine gs1 ?_ | refine gs2 ?_ | refine gs3 ?_ | refine Tr.exit ?_ | refine Tr.goto ?_ | refine Tr.ret ?_ | refine n1 ?_ | refine n2 ?_ | refine n3 ?_ | refine n4 ?_ | refine n5 ?_ | refine n6 ?_ | refine n7 ?_ | refine n8 ?_ | refine n9 (by decide) ?_))
  refine Tr.cond rfl (fun h2 => ?_) (fun h2 => ?_)
  · (repeat (first | ((first | refine r1 ?_ | refine r2 ?_ | refine r3 ?_); intro K hK; simp only [go_sem, hP, hn]; (repeat (refine ⟨by first | trivial | omega | (simp <;> omega) | (simp +contextual; done) | (clear hK; grind), ?_⟩)); refine hK _ ?_; clear K hK) | refine Tr.seq ?_ | refine Tr.skip ?_ | refine Tr.label ?_ | refine Tr.block ?_ | refine Tr.scope ?_ | refine gs1 ?_ | refine gs2 ?_ | refine gs3 ?_ | refine Tr.exit ?_ | refine Tr.goto ?_ | refine Tr.ret ?_ | refine n1 ?_ | refine n2 ?_ | refine n3 ?_ | refine n4 ?_ | refine n5 ?_ | refine n6 ?_ | refine n7 ?_ | refine n8 ?_ | refine n9 (by decide) ?_))
    simp only [RetQ, go_sem]
    unfold Nd.rSpan; rw [h1, h2]; rfl
  · (repeat (first | ((first | refine r1 ?_ | refine r2 ?_ | refine r3 ?_); intro K hK; simp only [go_sem, hP, hn]; (repeat (refine ⟨by first | trivial | omega | (simp <;> omega) | (simp +contextual; done) | (clear hK; grind), ?_⟩)); refine hK _ ?_; clear K hK) | refine Tr.seq ?_ | refine Tr.skip ?_ | refine Tr.label ?_ | refine Tr.block ?_ | refine Tr.scope ?_ | refine gs1 ?_ | refine gs2 ?_ | refine gs3 ?_ | refine Tr.exit ?_ | refine Tr.goto ?_ | refine Tr.ret ?_ | refine n1 ?_ | refine n2 ?_ | refine n3 ?_ | refine n4 ?_ | refine n5 ?_ | refine n6 ?_ | refine n7 ?_ | refine n8 ?_ | refine n9 (by decide) ?_))
    simp only [RetQ, go_sem]
    unfold Nd.rSpan; rw [h1, h2]; rfl
theorem weights_r {T : World → Prop} (Tm : TP T) (n : Nd) (v : Int) : Ct Go.Proofs.Tryd.prog T 111 [.agg n.cs, .d (.i .i64 v)] true (fun r => r = .d (.i .i64 (n.rWeights v))) := by
  refine Ct_of Tm Go.Proofs.Tryd.func111 rfl rfl Go.Proofs.Tryd.ntmps111 (by simp) (rs := [.tmp 4]) rfl fun E hP hn hT => ?_
  (repeat (first | ((first | refine r1 ?_ | refine r2 ?_ | refine r3 ?_); intro K hK; simp only [go_sem, hP, hn]; (repeat (refine ⟨by first | trivial | omega | (simp <;> omega) | (simp +contextual; done) | (clear hK; grind), ?_⟩)); refine hK _ ?_; clear K hK) | refine Tr.seq ?_ | refine Tr.skip ?_ | refine Tr.label ?_ | refine Tr.block ?_ | refine Tr.scope ?_ | refine gs1 ?_ | refine gs2 ?_ | refine gs3 ?_ | refine Tr.exit ?_ | refine Tr.goto ?_ | refine Tr.ret ?_ | refine n1 ?_ | refine n2 ?_ | refine n3 ?_ | refine n4 ?_ | refine n5 ?_ | refine n6 ?_ | refine n7 ?_ | refine n8 ?_ | refine n9 (by decide) ?_))
  refine Tr.cond rfl (fun h1 => ?_) (fun h1 => ?_)
  · (repeat (first | ((first | refine r1 ?_ | refine r2 ?_ | refine r3 ?_); intro K hK; simp only [go_sem, hP, hn]; (repeat (refine ⟨by first | trivial | omega | (simp <;> omega) | (simp +contextual; done) | (clear hK; grind), ?_⟩)); refine hK _ ?_; clear K hK) | refine Tr.seq ?_ | refine Tr.skip ?_ | refine Tr.label ?_ | refine Tr.block ?_ | refine Tr.scope ?_ | refine gs1 ?_ | refine gs2 ?_ | refine gs3 ?_ | refine Tr.exit ?_ | refine Tr.goto ?_ | refine Tr.ret ?_ | refine n1 ?_ | refine n2 ?_ | refine n3 ?_ | refine n4 ?_ | refine n5 ?_ | refine n6 ?_ | refine n7 ?_ | refine n8 ?_ | refine n9 (by decide) ?_))
    simp only [RetQ, go_sem]
    unfold Nd.rWeights; rw [h1]; rfl
  (repeat (first | ((first | refine r1 ?_ | refine r2 ?_ | refine r3 ?_); intro K hK; simp only [go_sem, hP, hn]; (repeat (refine ⟨by first | trivial | omega | (simp <;> omega) | (simp +contextual; done) | (clear hK; grind), ?_⟩)); refine hK _ ?_; clear K hK) | refine Tr.seq ?_ | refine Tr.skip ?_ | refine Tr.label ?_ | refine Tr.block ?_ | refine Tr.scope ?_ | refine gs1 ?_ | refine gs2 ?_ | refine gs3 ?_ | refine Tr.exit ?_ | refine Tr.goto ?_ | refine Tr.ret ?_ | refine n1 ?_ | refine n2 ?_ | refine n3 ?_ | refine n4 ?_ | refine n5 ?_ | refine n6 ?_ | refine n7 ?_ | refine n8 ?_ | refine n9 (by decide) ?_))
  refine Tr.cond rfl (fun h2 => ?_) (fun h2 => ?_)
  · (repeat (first | ((first | refine r1 ?_ | refine r2 ?_ | refine r3 ?_); intro K hK; simp only [go_sem, hP, hn]; (repeat (refine ⟨by first | trivial | omega | (simp <;> omega) | (simp +contextual; done) | (clear hK; grind), ?_⟩)); refine hK _ ?_; clear K hK) | refine Tr.seq ?_ | refine Tr.skip ?_ | refine Tr.label ?_ | refine Tr.block ?_ | refine Tr.scope ?_ | refine gs1 ?_ | refine gs2 ?_ | refine gs3 ?_ | refine Tr.exit ?_ | refine Tr.goto ?_ | refine Tr.ret ?_ | refine n1 ?_ | refine n2 ?_ | refine n3 ?_ | refine n4 ?_ | refine n5 ?_ | refine n6 ?_ | refine n7 ?_ | refine n8 ?_ | refine n9 (by decide) ?_))
    simp only [RetQ, go_sem]
    unfold Nd.rWeights; rw [h1, h2]; rfl
  · (repeat (first | ((first | refine r1 ?_ | refine r2 ?_ | refine r3 ?_); intro K hK; simp only [go_sem, hP, hn]; (repeat (refine ⟨by first | trivial | omega | (simp <;> omega) | (simp +contextual; done) | (clear hK; grind), ?_⟩)); refine hK _ ?_; clear K hK) | refine Tr.seq ?_ | refine Tr.skip ?_ | refine Tr.label ?_ | refine Tr.block ?_ | refine Tr.scope ?_ | refine gs1 ?_ | refine gs2 ?_ | refine gs3 ?_ | refine Tr.exit ?_ | refine Tr.goto ?_ | refine Tr.ret ?_ | refine n1 ?_ | refine n2 ?_ | refine n3 ?_ | refine n4 ?_ | refine n5 ?_ | refine n6 ?_ | refine n7 ?_ | refine n8 ?_ | refine n9 (by decide) ?_))
    simp only [RetQ, go_sem]
    unfold Nd.rWeights; rw [h1, h2]; rfl
theorem else0_r {T : World → Prop} (Tm : TP T) (n : Nd) : Ct Go.Proofs.Tryd.prog T 84 [.agg n.cs] true (fun r => r = .d (.b n.else0)) := by
  refine Ct_of Tm Go.Proofs.Tryd.func84 rfl rfl Go.Proofs.Tryd.ntmps84 (by simp) (rs := [.tmp 2]) rfl fun E hP hn hT => ?_
  (repeat (first | ((first | refine r1 ?_ | refine r2 ?_ | refine r3 ?_); intro K hK; simp only [go_sem, hP, hn]; (repeat (refine ⟨by first | trivial | omega | (simp <;> omega) | (simp +contextual; done) | (clear hK; grind), ?_⟩)); refine hK _ ?_; clear K hK) | refine Tr.seq ?_ | refine Tr.skip ?_ | refine Tr.label ?_ | refine Tr.block ?_ | refine Tr.scope ?_ | refine gs1 ?_ | refine gs2 ?_ | refine gs3 ?_ | refine Tr.exit ?_ | refine Tr.goto ?_ | refine Tr.ret ?_ | refine n1 ?_ | refine n2 ?_ | refine n3 ?_ | refine n4 ?_ | refine n5 ?_ | refine n6 ?_ | refine n7 ?_ | refine n8 ?_ | refine n9 (by decide) ?_))
  (first | refine r1 ?_ | refine r2 ?_ | refine r3 ?_); intro K hK; simp only [go_sem, hP, hn]; (repeat (refine ⟨by first | trivial | omega | (simp <;> omega) | (simp +contextual; done) | (clear hK; grind), ?_⟩)); refine c1 (by rw [hP, hT]; exact four_r Tm n.k) rfl rfl rfl trivial (by simp only [go_sem, hP, hn]; try trivial) (by simp only [go_sem, hP, hn]; try rfl) (by rw [hn]; decide) (by rfl) ?_; simp only [go_sem, hP, hn]; (repeat (refine ⟨by first | trivial | omega | (simp <;> omega) | (simp +contextual; done) | (clear hK; grind), ?_⟩)); refine hK _ ?_; clear K hK
  (repeat (first | ((first | refine r1 ?_ | refine r2 ?_ | refine r3 ?_); intro K hK; simp only [go_sem, hP, hn]; (repeat (refine ⟨by first | trivial | omega | (simp <;> omega) | (simp +contextual; done) | (clear hK; grind), ?_⟩)); refine hK _ ?_; clear K hK) | refine Tr.seq ?_ | refine Tr.skip ?_ | refine Tr.label ?_ | refine Tr.block ?_ | refine Tr.scope ?_ | refine gs1 ?_ | refine gs2 ?_ | refine gs3 ?_ | refine Tr.exit ?_ | refine Tr.goto ?_ | refine Tr.ret ?_ | refine n1 ?_ | refine n2 ?_ | refine n3 ?_ | refine n4 ?_ | refine n5 ?_ | refine n6 ?_ | refine n7 ?_ | refine n8 ?_ | refine n9 (by decide) ?_))
  (first | refine r1 ?_ | refine r2 ?_ | refine r3 ?_); intro K hK; simp only [go_sem, hP, hn]; (repeat (refine ⟨by first | trivial | omega | (simp <;> omega) | (simp +contextual; done) | (clear hK; grind), ?_⟩)); refine c1 (by rw [hP, hT]; exact weighs_r Tm n.k) rfl rfl rfl trivial (by simp only [go_sem, hP, hn]; try trivial) (by simp only [go_sem, hP, hn]; try rfl) (by rw [hn]; decide) (by rfl) ?_; simp only [go_sem, hP, hn]; (repeat (refine ⟨by first | trivial | omega | (simp <;> omega) | (simp +contextual; done) | (clear hK; grind), ?_⟩)); refine hK _ ?_; clear K hK
  (repeat (first | ((first | refine r1 ?_ | refine r2 ?_ | refine r3 ?_); intro K hK; simp only [go_sem, hP, hn]; (repeat (refine ⟨by first | trivial | omega | (simp <;> omega) | (simp +contextual; done) | (clear hK; grind), ?_⟩)); refine hK _ ?_; clear K hK) | refine Tr.seq ?_ | refine Tr.skip ?_ | refine Tr.label ?_ | refine Tr.block ?_ | refine Tr.scope ?_ | refine gs1 ?_ | refine gs2 ?_ | refine gs3 ?_ | refine Tr.exit ?_ | refine Tr.goto ?_ | refine Tr.ret ?_ | refine n1 ?_ | refine n2 ?_ | refine n3 ?_ | refine n4 ?_ | refine n5 ?_ | refine n6 ?_ | refine n7 ?_ | refine n8 ?_ | refine n9 (by decide) ?_))
  refine Tr.cond rfl (fun h6 => ?_) (fun h6 => ?_)
  · (repeat (first | ((first | refine r1 ?_ | refine r2 ?_ | refine r3 ?_); intro K hK; simp only [go_sem, hP, hn]; (repeat (refine ⟨by first | trivial | omega | (simp <;> omega) | (simp +contextual; done) | (clear hK; grind), ?_⟩)); refine hK _ ?_; clear K hK) | refine Tr.seq ?_ | refine Tr.skip ?_ | refine Tr.label ?_ | refine Tr.block ?_ | refine Tr.scope ?_ | refine gs1 ?_ | refine gs2 ?_ | refine gs3 ?_ | refine Tr.exit ?_ | refine Tr.goto ?_ | refine Tr.ret ?_ | refine n1 ?_ | refine n2 ?_ | refine n3 ?_ | refine n4 ?_ | refine n5 ?_ | refine n6 ?_ | refine n7 ?_ | refine n8 ?_ | refine n9 (by decide) ?_))
    simp only [RetQ, go_sem]
    have e : n.e6 = true := h6
    unfold Nd.else0; rw [e]; rfl
  replace h6 : n.e6 = false := h6
  (repeat (first | ((first | refine r1 ?_ | refine r2 ?_ | refine r3 ?_); intro K hK; simp only [go_sem, hP, hn]; (repeat (refine ⟨by first | trivial | omega | (simp <;> omega) | (simp +contextual; done) | (clear hK; grind), ?_⟩)); refine hK _ ?_; clear K hK) | refine Tr.seq ?_ | refine Tr.skip ?_ | refine Tr.label ?_ | refine Tr.block ?_ | refine Tr.scope ?_ | refine gs1 ?_ | refine gs2 ?_ | refine gs3 ?_ | refine Tr.exit ?_ | refine Tr.goto ?_ | refine Tr.ret ?_ | refine n1 ?_ | refine n2 ?_ | refine n3 ?_ | refine n4 ?_ | refine n5 ?_ | refine n6 ?_ | refine n7 ?_ | refine n8 ?_ | refine n9 (by decide) ?_))
  refine Tr.cond rfl (fun h8 => ?_) (fun h8 => ?_)
  · (repeat (first | ((first | refine r1 ?_ | refine r2 ?_ | refine r3 ?_); intro K hK; simp only [go_sem, hP, hn]; (repeat (refine ⟨by first | trivial | omega | (simp <;> omega) | (simp +contextual; done) | (clear hK; grind), ?_⟩)); refine hK _ ?_; clear K hK) | refine Tr.seq ?_ | refine Tr.skip ?_ | refine Tr.label ?_ | refine Tr.block ?_ | refine Tr.scope ?_ | refine gs1 ?_ | refine gs2 ?_ | refine gs3 ?_ | refine Tr.exit ?_ | refine Tr.goto ?_ | refine Tr.ret ?_ | refine n1 ?_ | refine n2 ?_ | refine n3 ?_ | refine n4 ?_ | refine n5 ?_ | refine n6 ?_ | refine n7 ?_ | refine n8 ?_ | refine n9 (by decide) ?_))
    simp only [RetQ, go_sem]
    have e : n.e8 = true := h8
    unfold Nd.else0; rw [h6, e]; rfl
  replace h8 : n.e8 = false := h8
  (repeat (first | ((first | refine r1 ?_ | refine r2 ?_ | refine r3 ?_); intro K hK; simp only [go_sem, hP, hn]; (repeat (refine ⟨by first | trivial | omega | (simp <;> omega) | (simp +contextual; done) | (clear hK; grind), ?_⟩)); refine hK _ ?_; clear K hK) | refine Tr.seq ?_ | refine Tr.skip ?_ | refine Tr.label ?_ | refine Tr.block ?_ | refine Tr.scope ?_ | refine gs1 ?_ | refine gs2 ?_ | refine gs3 ?_ | refine Tr.exit ?_ | refine Tr.goto ?_ | refine Tr.ret ?_ | refine n1 ?_ | refine n2 ?_ | refine n3 ?_ | refine n4 ?_ | refine n5 ?_ | refine n6 ?_ | refine n7 ?_ | refine n8 ?_ | refine n9 (by decide) ?_))
  refine Tr.cond rfl (fun h10 => ?_) (fun h10 => ?_)
  · (repeat (first | ((first | refine r1 ?_ | refine r2 ?_ | refine r3 ?_); intro K hK; simp only [go_sem, hP, hn]; (repeat (refine ⟨by first | trivial | omega | (simp <;> omega) | (simp +contextual; done) | (clear hK; grind), ?_⟩)); refine hK _ ?_; clear K hK) | refine Tr.seq ?_ | refine Tr.skip ?_ | refine Tr.label ?_ | refine Tr.block ?_ | refine Tr.scope ?_ | refine gs1 ?_ | refine gs2 ?_ | refine gs3 ?_ | refine Tr.exit ?_ | refine Tr.goto ?_ | refine Tr.ret ?_ | refine n1 ?_ | refine n2 ?_ | refine n3 ?_ | refine n4 ?_ | refine n5 ?_ | refine n6 ?_ | refine n7 ?_ | refine n8 ?_ | refine n9 (by decide) ?_))
    simp only [RetQ, go_sem]
    have e : n.e10 = true := by unfold Nd.e10; simpa only [Int.natCast_pos] using h10
    unfold Nd.else0; rw [h6, h8, e]; rfl
  replace h10 : n.e10 = false := by unfold Nd.e10; simpa only [Int.natCast_pos] using h10
  (repeat (first | ((first | refine r1 ?_ | refine r2 ?_ | refine r3 ?_); intro K hK; simp only [go_sem, hP, hn]; (repeat (refine ⟨by first | trivial | omega | (simp <;> omega) | (simp +contextual; done) | (clear hK; grind), ?_⟩)); refine hK _ ?_; clear K hK) | refine Tr.seq ?_ | refine Tr.skip ?_ | refine Tr.label ?_ | refine Tr.block ?_ | refine Tr.scope ?_ | refine gs1 ?_ | refine gs2 ?_ | refine gs3 ?_ | refine Tr.exit ?_ | refine Tr.goto ?_ | refine Tr.ret ?_ | refine n1 ?_ | refine n2 ?_ | refine n3 ?_ | refine n4 ?_ | refine n5 ?_ | refine n6 ?_ | refine n7 ?_ | refine n8 ?_ | refine n9 (by decide) ?_))
  simp only [RetQ, go_sem]
  unfold Nd.else0; rw [h6, h8, h10]; rfl
theorem sized_r {T : World → Prop} (Tm : TP T) (n : Nd) (v : Int) (hw : n.ws.length ≤ 65536) (hs : n.bs.length ≤ 65536) : Ct Go.Proofs.Tryd.prog T 85 [.agg n.cs, .d (.i .i64 v)] true (fun r => r = .d (.b (n.sized v))) := by
  refine Ct_of Tm Go.Proofs.Tryd.func85 rfl rfl Go.Proofs.Tryd.ntmps85 (by simp) (rs := [.tmp 4]) rfl fun E hP hn hT => ?_
  (repeat (first | ((first | refine r1 ?_ | refine r2 ?_ | refine r3 ?_); intro K hK; simp only [go_sem, hP, hn]; (repeat (refine ⟨by first | trivial | omega | (simp <;> omega) | (simp +contextual; done) | (clear hK; grind), ?_⟩)); refine hK _ ?_; clear K hK) | refine Tr.seq ?_ | refine Tr.skip ?_ | refine Tr.label ?_ | refine Tr.block ?_ | refine Tr.scope ?_ | refine gs1 ?_ | refine gs2 ?_ | refine gs3 ?_ | refine Tr.exit ?_ | refine Tr.goto ?_ | refine Tr.ret ?_ | refine n1 ?_ | refine n2 ?_ | refine n3 ?_ | refine n4 ?_ | refine n5 ?_ | refine n6 ?_ | refine n7 ?_ | refine n8 ?_ | refine n9 (by decide) ?_))
  (first | refine r1 ?_ | refine r2 ?_ | refine r3 ?_); intro K hK; simp only [go_sem, hP, hn]; (repeat (refine ⟨by first | trivial | omega | (simp <;> omega) | (simp +contextual; done) | (clear hK; grind), ?_⟩)); refine c1 (by rw [hP, hT]; exact four_r Tm n.k) rfl rfl rfl trivial (by simp only [go_sem, hP, hn]; try trivial) (by simp only [go_sem, hP, hn]; try rfl) (by rw [hn]; decide) (by rfl) ?_; simp only [go_sem, hP, hn]; (repeat (refine ⟨by first | trivial | omega | (simp <;> omega) | (simp +contextual; done) | (clear hK; grind), ?_⟩)); refine hK _ ?_; clear K hK
  (repeat (first | ((first | refine r1 ?_ | refine r2 ?_ | refine r3 ?_); intro K hK; simp only [go_sem, hP, hn]; (repeat (refine ⟨by first | trivial | omega | (simp <;> omega) | (simp +contextual; done) | (clear hK; grind), ?_⟩)); refine hK _ ?_; clear K hK) | refine Tr.seq ?_ | refine Tr.skip ?_ | refine Tr.label ?_ | refine Tr.block ?_ | refine Tr.scope ?_ | refine gs1 ?_ | refine gs2 ?_ | refine gs3 ?_ | refine Tr.exit ?_ | refine Tr.goto ?_ | refine Tr.ret ?_ | refine n1 ?_ | refine n2 ?_ | refine n3 ?_ | refine n4 ?_ | refine n5 ?_ | refine n6 ?_ | refine n7 ?_ | refine n8 ?_ | refine n9 (by decide) ?_))
  (first | refine r1 ?_ | refine r2 ?_ | refine r3 ?_); intro K hK; simp only [go_sem, hP, hn]; (repeat (refine ⟨by first | trivial | omega | (simp <;> omega) | (simp +contextual; done) | (clear hK; grind), ?_⟩)); refine c1 (by rw [hP, hT]; exact weighs_r Tm n.k) rfl rfl rfl trivial (by simp only [go_sem, hP, hn]; try trivial) (by simp only [go_sem, hP, hn]; try rfl) (by rw [hn]; decide) (by rfl) ?_; simp only [go_sem, hP, hn]; (repeat (refine ⟨by first | trivial | omega | (simp <;> omega) | (simp +contextual; done) | (clear hK; grind), ?_⟩)); refine hK _ ?_; clear K hK
  (repeat (first | ((first | refine r1 ?_ | refine r2 ?_ | refine r3 ?_); intro K hK; simp only [go_sem, hP, hn]; (repeat (refine ⟨by first | trivial | omega | (simp <;> omega) | (simp +contextual; done) | (clear hK; grind), ?_⟩)); refine hK _ ?_; clear K hK) | refine Tr.seq ?_ | refine Tr.skip ?_ | refine Tr.label ?_ | refine Tr.block ?_ | refine Tr.scope ?_ | refine gs1 ?_ | refine gs2 ?_ | refine gs3 ?_ | refine Tr.exit ?_ | refine Tr.goto ?_ | refine Tr.ret ?_ | refine n1 ?_ | refine n2 ?_ | refine n3 ?_ | refine n4 ?_ | refine n5 ?_ | refine n6 ?_ | refine n7 ?_ | refine n8 ?_ | refine n9 (by decide) ?_))
  (first | refine r1 ?_ | refine r2 ?_ | refine r3 ?_); intro K hK; simp only [go_sem, hP, hn]; (repeat (refine ⟨by first | trivial | omega | (simp <;> omega) | (simp +contextual; done) | (clear hK; grind), ?_⟩)); refine c1 (by rw [hP, hT]; exact in_r Tm n.size 1 8) rfl rfl rfl trivial (by simp only [go_sem, hP, hn]; try trivial) (by simp only [go_sem, hP, hn]; try rfl) (by rw [hn]; decide) (by rfl) ?_; simp only [go_sem, hP, hn]; (repeat (refine ⟨by first | trivial | omega | (simp <;> omega) | (simp +contextual; done) | (clear hK; grind), ?_⟩)); refine hK _ ?_; clear K hK
  (repeat (first | ((first | refine r1 ?_ | refine r2 ?_ | refine r3 ?_); intro K hK; simp only [go_sem, hP, hn]; (repeat (refine ⟨by first | trivial | omega | (simp <;> omega) | (simp +contextual; done) | (clear hK; grind), ?_⟩)); refine hK _ ?_; clear K hK) | refine Tr.seq ?_ | refine Tr.skip ?_ | refine Tr.label ?_ | refine Tr.block ?_ | refine Tr.scope ?_ | refine gs1 ?_ | refine gs2 ?_ | refine gs3 ?_ | refine Tr.exit ?_ | refine Tr.goto ?_ | refine Tr.ret ?_ | refine n1 ?_ | refine n2 ?_ | refine n3 ?_ | refine n4 ?_ | refine n5 ?_ | refine n6 ?_ | refine n7 ?_ | refine n8 ?_ | refine n9 (by decide) ?_))
  refine Tr.cond rfl (fun h4 => ?_) (fun h4 => ?_)
  · (repeat (first | ((first | refine r1 ?_ | refine r2 ?_ | refine r3 ?_); intro K hK; simp only [go_sem, hP, hn]; (repeat (refine ⟨by first | trivial | omega | (simp <;> omega) | (simp +contextual; done) | (clear hK; grind), ?_⟩)); refine hK _ ?_; clear K hK) | refine Tr.seq ?_ | refine Tr.skip ?_ | refine Tr.label ?_ | refine Tr.block ?_ | refine Tr.scope ?_ | refine gs1 ?_ | refine gs2 ?_ | refine gs3 ?_ | refine Tr.exit ?_ | refine Tr.goto ?_ | refine Tr.ret ?_ | refine n1 ?_ | refine n2 ?_ | refine n3 ?_ | refine n4 ?_ | refine n5 ?_ | refine n6 ?_ | refine n7 ?_ | refine n8 ?_ | refine n9 (by decide) ?_))
    simp only [RetQ, go_sem]
    have e : n.s4 = true := h4
    unfold Nd.sized; rw [e]; rfl
  replace h4 : n.s4 = false := h4
  (repeat (first | ((first | refine r1 ?_ | refine r2 ?_ | refine r3 ?_); intro K hK; simp only [go_sem, hP, hn]; (repeat (refine ⟨by first | trivial | omega | (simp <;> omega) | (simp +contextual; done) | (clear hK; grind), ?_⟩)); refine hK _ ?_; clear K hK) | refine Tr.seq ?_ | refine Tr.skip ?_ | refine Tr.label ?_ | refine Tr.block ?_ | refine Tr.scope ?_ | refine gs1 ?_ | refine gs2 ?_ | refine gs3 ?_ | refine Tr.exit ?_ | refine Tr.goto ?_ | refine Tr.ret ?_ | refine n1 ?_ | refine n2 ?_ | refine n3 ?_ | refine n4 ?_ | refine n5 ?_ | refine n6 ?_ | refine n7 ?_ | refine n8 ?_ | refine n9 (by decide) ?_))
  (first | refine r1 ?_ | refine r2 ?_ | refine r3 ?_); intro K hK; simp only [go_sem, hP, hn]; (repeat (refine ⟨by first | trivial | omega | (simp <;> omega) | (simp +contextual; done) | (clear hK; grind), ?_⟩)); refine c1 (by rw [hP, hT]; exact in_r Tm n.step 1 4) rfl rfl rfl trivial (by simp only [go_sem, hP, hn]; try trivial) (by simp only [go_sem, hP, hn]; try rfl) (by rw [hn]; decide) (by rfl) ?_; simp only [go_sem, hP, hn]; (repeat (refine ⟨by first | trivial | omega | (simp <;> omega) | (simp +contextual; done) | (clear hK; grind), ?_⟩)); refine hK _ ?_; clear K hK
  (repeat (first | ((first | refine r1 ?_ | refine r2 ?_ | refine r3 ?_); intro K hK; simp only [go_sem, hP, hn]; (repeat (refine ⟨by first | trivial | omega | (simp <;> omega) | (simp +contextual; done) | (clear hK; grind), ?_⟩)); refine hK _ ?_; clear K hK) | refine Tr.seq ?_ | refine Tr.skip ?_ | refine Tr.label ?_ | refine Tr.block ?_ | refine Tr.scope ?_ | refine gs1 ?_ | refine gs2 ?_ | refine gs3 ?_ | refine Tr.exit ?_ | refine Tr.goto ?_ | refine Tr.ret ?_ | refine n1 ?_ | refine n2 ?_ | refine n3 ?_ | refine n4 ?_ | refine n5 ?_ | refine n6 ?_ | refine n7 ?_ | refine n8 ?_ | refine n9 (by decide) ?_))
  (first | refine r1 ?_ | refine r2 ?_ | refine r3 ?_); intro K hK; simp only [go_sem, hP, hn]; (repeat (refine ⟨by first | trivial | omega | (simp <;> omega) | (simp +contextual; done) | (clear hK; grind), ?_⟩)); refine c1 (by rw [hP, hT]; exact in_r Tm n.gap 1 4) rfl rfl rfl trivial (by simp only [go_sem, hP, hn]; try trivial) (by simp only [go_sem, hP, hn]; try rfl) (by rw [hn]; decide) (by rfl) ?_; simp only [go_sem, hP, hn]; (repeat (refine ⟨by first | trivial | omega | (simp <;> omega) | (simp +contextual; done) | (clear hK; grind), ?_⟩)); refine hK _ ?_; clear K hK
  (repeat (first | ((first | refine r1 ?_ | refine r2 ?_ | refine r3 ?_); intro K hK; simp only [go_sem, hP, hn]; (repeat (refine ⟨by first | trivial | omega | (simp <;> omega) | (simp +contextual; done) | (clear hK; grind), ?_⟩)); refine hK _ ?_; clear K hK) | refine Tr.seq ?_ | refine Tr.skip ?_ | refine Tr.label ?_ | refine Tr.block ?_ | refine Tr.scope ?_ | refine gs1 ?_ | refine gs2 ?_ | refine gs3 ?_ | refine Tr.exit ?_ | refine Tr.goto ?_ | refine Tr.ret ?_ | refine n1 ?_ | refine n2 ?_ | refine n3 ?_ | refine n4 ?_ | refine n5 ?_ | refine n6 ?_ | refine n7 ?_ | refine n8 ?_ | refine n9 (by decide) ?_))
  refine Tr.cond rfl (fun h8 => ?_) (fun h8 => ?_)
  · (repeat (first | ((first | refine r1 ?_ | refine r2 ?_ | refine r3 ?_); intro K hK; simp only [go_sem, hP, hn]; (repeat (refine ⟨by first | trivial | omega | (simp <;> omega) | (simp +contextual; done) | (clear hK; grind), ?_⟩)); refine hK _ ?_; clear K hK) | refine Tr.seq ?_ | refine Tr.skip ?_ | refine Tr.label ?_ | refine Tr.block ?_ | refine Tr.scope ?_ | refine gs1 ?_ | refine gs2 ?_ | refine gs3 ?_ | refine Tr.exit ?_ | refine Tr.goto ?_ | refine Tr.ret ?_ | refine n1 ?_ | refine n2 ?_ | refine n3 ?_ | refine n4 ?_ | refine n5 ?_ | refine n6 ?_ | refine n7 ?_ | refine n8 ?_ | refine n9 (by decide) ?_))
    simp only [RetQ, go_sem]
    have e : n.s8 = true := h8
    unfold Nd.sized; rw [h4, e]; rfl
  replace h8 : n.s8 = false := h8
  (repeat (first | ((first | refine r1 ?_ | refine r2 ?_ | refine r3 ?_); intro K hK; simp only [go_sem, hP, hn]; (repeat (refine ⟨by first | trivial | omega | (simp <;> omega) | (simp +contextual; done) | (clear hK; grind), ?_⟩)); refine hK _ ?_; clear K hK) | refine Tr.seq ?_ | refine Tr.skip ?_ | refine Tr.label ?_ | refine Tr.block ?_ | refine Tr.scope ?_ | refine gs1 ?_ | refine gs2 ?_ | refine gs3 ?_ | refine Tr.exit ?_ | refine Tr.goto ?_ | refine Tr.ret ?_ | refine n1 ?_ | refine n2 ?_ | refine n3 ?_ | refine n4 ?_ | refine n5 ?_ | refine n6 ?_ | refine n7 ?_ | refine n8 ?_ | refine n9 (by decide) ?_))
  (first | refine d1 (.p true 0 (.p true 1 (.p true 2 (.p true 3 (.p true 4 (.p true 5 (.p true 6 (.p true 7 (.p true 8 (.alt 9 (.p false 10 (.p false 11 (.p false 12 (.p true 13 (.p true 14 (.p true 15 (.p false 16 (.p false 17 (.p true 18 (.p true 19 (.p true 20 (.alt 21 (.p false 22 (.p false 23 (.p false 24 .nil))) .nil)))))))))))) .nil)))))))))) [] (by rw [hP]; kernel_rfl) (by kernel_rfl) (by simp only [go_sem, hP, hn]; try simp) (fun _ _ h => h) fun K hK => ?_ | refine d2 (.p true 0 (.p true 1 (.p true 2 (.p true 3 (.p true 4 (.p true 5 (.p true 6 (.p true 7 (.p true 8 (.alt 9 (.p false 10 (.p false 11 (.p false 12 (.p true 13 (.p true 14 (.p true 15 (.p false 16 (.p false 17 (.p true 18 (.p true 19 (.p true 20 (.alt 21 (.p false 22 (.p false 23 (.p false 24 .nil))) .nil)))))))))))) .nil)))))))))) [] (by rw [hP]; kernel_rfl) (by kernel_rfl) (by simp only [go_sem, hP, hn]; try simp) (fun _ _ h => h) fun K hK => ?_ | refine d4 (.p true 0 (.p true 1 (.p true 2 (.p true 3 (.p true 4 (.p true 5 (.p true 6 (.p true 7 (.p true 8 (.alt 9 (.p false 10 (.p false 11 (.p false 12 (.p true 13 (.p true 14 (.p true 15 (.p false 16 (.p false 17 (.p true 18 (.p true 19 (.p true 20 (.alt 21 (.p false 22 (.p false 23 (.p false 24 .nil))) .nil)))))))))))) .nil)))))))))) [] (by rw [hP]; kernel_rfl) (by kernel_rfl) (by simp only [go_sem, hP, hn]; try simp) (fun _ _ h => h) fun K hK => ?_); simp only [go_sem, hP, hn]; (repeat (refine ⟨by first | trivial | omega | (simp <;> omega) | (simp +contextual; done) | (clear hK; grind), ?_⟩)); refine p2 (fun hg => by rw [hP, hT]; exact Span_r Tm n) rfl rfl rfl (fun hg => trivial) (fun hg => by clear hK; revert hg; simp only [go_sem, hP, hn]; first | trivial | omega | (simp; done) | (simp +contextual; done) | grind) (fun hg => by simp only [go_sem, hP, hn]; try rfl) (by rw [hn]; decide) (by rfl) ?_; simp only [go_sem, hP, hn]; (repeat (refine ⟨by first | trivial | omega | (simp <;> omega) | (simp +contextual; done) | (clear hK; grind), ?_⟩)); refine p2 (fun hg => by rw [hP, hT]; exact Span_r Tm n) rfl rfl rfl (fun hg => trivial) (fun hg => by clear hK; revert hg; simp only [go_sem, hP, hn]; first | trivial | omega | (simp; done) | (simp +contextual; done) | grind) (fun hg => by simp only [go_sem, hP, hn]; try rfl) (by rw [hn]; decide) (by rfl) ?_; simp only [go_sem, hP, hn]; (repeat (refine ⟨by first | trivial | omega | (simp <;> omega) | (simp +contextual; done) | (clear hK; grind), ?_⟩)); refine hK _ ?_; clear K hK
  refine Tr.cond rfl (fun h10 => ?_) (fun h10 => ?_)
  · (repeat (first | ((first | refine r1 ?_ | refine r2 ?_ | refine r3 ?_); intro K hK; simp only [go_sem, hP, hn]; (repeat (refine ⟨by first | trivial | omega | (simp <;> omega) | (simp +contextual; done) | (clear hK; grind), ?_⟩)); refine hK _ ?_; clear K hK) | refine Tr.seq ?_ | refine Tr.skip ?_ | refine Tr.label ?_ | refine Tr.block ?_ | refine Tr.scope ?_ | refine gs1 ?_ | refine gs2 ?_ | refine gs3 ?_ | refine Tr.exit ?_ | refine Tr.goto ?_ | refine Tr.ret ?_ | refine n1 ?_ | refine n2 ?_ | refine n3 ?_ | refine n4 ?_ | refine n5 ?_ | refine n6 ?_ | refine n7 ?_ | refine n8 ?_ | refine n9 (by decide) ?_))
    simp only [RetQ, go_sem]
    have e : n.s10 = true := h10
    unfold Nd.sized; rw [h4, h8, e]; rfl
  replace h10 : n.s10 = false := h10
  (repeat (first | ((first | refine r1 ?_ | refine r2 ?_ | refine r3 ?_); intro K hK; simp only [go_sem, hP, hn]; (repeat (refine ⟨by first | trivial | omega | (simp <;> omega) | (simp +contextual; done) | (clear hK; grind), ?_⟩)); refine hK _ ?_; clear K hK) | refine Tr.seq ?_ | refine Tr.skip ?_ | refine Tr.label ?_ | refine Tr.block ?_ | refine Tr.scope ?_ | refine gs1 ?_ | refine gs2 ?_ | refine gs3 ?_ | refine Tr.exit ?_ | refine Tr.goto ?_ | refine Tr.ret ?_ | refine n1 ?_ | refine n2 ?_ | refine n3 ?_ | refine n4 ?_ | refine n5 ?_ | refine n6 ?_ | refine n7 ?_ | refine n8 ?_ | refine n9 (by decide) ?_))
  (first | refine r1 ?_ | refine r2 ?_ | refine r3 ?_); intro K hK; simp only [go_sem, hP, hn]; (repeat (refine ⟨by first | trivial | omega | (simp <;> omega) | (simp +contextual; done) | (clear hK; grind), ?_⟩)); refine c1 (by rw [hP, hT]; exact in_r Tm n.wid 1 16) rfl rfl rfl trivial (by simp only [go_sem, hP, hn]; try trivial) (by simp only [go_sem, hP, hn]; try rfl) (by rw [hn]; decide) (by rfl) ?_; simp only [go_sem, hP, hn]; (repeat (refine ⟨by first | trivial | omega | (simp <;> omega) | (simp +contextual; done) | (clear hK; grind), ?_⟩)); refine hK _ ?_; clear K hK
  (repeat (first | ((first | refine r1 ?_ | refine r2 ?_ | refine r3 ?_); intro K hK; simp only [go_sem, hP, hn]; (repeat (refine ⟨by first | trivial | omega | (simp <;> omega) | (simp +contextual; done) | (clear hK; grind), ?_⟩)); refine hK _ ?_; clear K hK) | refine Tr.seq ?_ | refine Tr.skip ?_ | refine Tr.label ?_ | refine Tr.block ?_ | refine Tr.scope ?_ | refine gs1 ?_ | refine gs2 ?_ | refine gs3 ?_ | refine Tr.exit ?_ | refine Tr.goto ?_ | refine Tr.ret ?_ | refine n1 ?_ | refine n2 ?_ | refine n3 ?_ | refine n4 ?_ | refine n5 ?_ | refine n6 ?_ | refine n7 ?_ | refine n8 ?_ | refine n9 (by decide) ?_))
  refine Tr.cond rfl (fun h13 => ?_) (fun h13 => ?_)
  · (repeat (first | ((first | refine r1 ?_ | refine r2 ?_ | refine r3 ?_); intro K hK; simp only [go_sem, hP, hn]; (repeat (refine ⟨by first | trivial | omega | (simp <;> omega) | (simp +contextual; done) | (clear hK; grind), ?_⟩)); refine hK _ ?_; clear K hK) | refine Tr.seq ?_ | refine Tr.skip ?_ | refine Tr.label ?_ | refine Tr.block ?_ | refine Tr.scope ?_ | refine gs1 ?_ | refine gs2 ?_ | refine gs3 ?_ | refine Tr.exit ?_ | refine Tr.goto ?_ | refine Tr.ret ?_ | refine n1 ?_ | refine n2 ?_ | refine n3 ?_ | refine n4 ?_ | refine n5 ?_ | refine n6 ?_ | refine n7 ?_ | refine n8 ?_ | refine n9 (by decide) ?_))
    simp only [RetQ, go_sem]
    have e : n.s13 = true := h13
    unfold Nd.sized; rw [h4, h8, h10, e]; rfl
  replace h13 : n.s13 = false := h13
  (repeat (first | ((first | refine r1 ?_ | refine r2 ?_ | refine r3 ?_); intro K hK; simp only [go_sem, hP, hn]; (repeat (refine ⟨by first | trivial | omega | (simp <;> omega) | (simp +contextual; done) | (clear hK; grind), ?_⟩)); refine hK _ ?_; clear K hK) | refine Tr.seq ?_ | refine Tr.skip ?_ | refine Tr.label ?_ | refine Tr.block ?_ | refine Tr.scope ?_ | refine gs1 ?_ | refine gs2 ?_ | refine gs3 ?_ | refine Tr.exit ?_ | refine Tr.goto ?_ | refine Tr.ret ?_ | refine n1 ?_ | refine n2 ?_ | refine n3 ?_ | refine n4 ?_ | refine n5 ?_ | refine n6 ?_ | refine n7 ?_ | refine n8 ?_ | refine n9 (by decide) ?_))
  refine Tr.le (Le.keep [1, 2, 92]) ?_; simp only [List.map_cons, List.map_nil, lk, Nat.reduceEqDiff, reduceIte]
  refine Tr.cond rfl (fun hw0 => ?_) (fun hw0 => ?_)
  · (repeat (first | ((first | refine r1 ?_ | refine r2 ?_ | refine r3 ?_); intro K hK; simp only [go_sem, hP, hn]; (repeat (refine ⟨by first | trivial | omega | (simp <;> omega) | (simp +contextual; done) | (clear hK; grind), ?_⟩)); refine hK _ ?_; clear K hK) | refine Tr.seq ?_ | refine Tr.skip ?_ | refine Tr.label ?_ | refine Tr.block ?_ | refine Tr.scope ?_ | refine gs1 ?_ | refine gs2 ?_ | refine gs3 ?_ | refine Tr.exit ?_ | refine Tr.goto ?_ | refine Tr.ret ?_ | refine n1 ?_ | refine n2 ?_ | refine n3 ?_ | refine n4 ?_ | refine n5 ?_ | refine n6 ?_ | refine n7 ?_ | refine n8 ?_ | refine n9 (by decide) ?_))
    refine Tr.cond rfl (fun h2 => ?_) (fun h2 => ?_)
    · (repeat (first | ((first | refine r1 ?_ | refine r2 ?_ | refine r3 ?_); intro K hK; simp only [go_sem, hP, hn]; (repeat (refine ⟨by first | trivial | omega | (simp <;> omega) | (simp +contextual; done) | (clear hK; grind), ?_⟩)); refine hK _ ?_; clear K hK) | refine Tr.seq ?_ | refine Tr.skip ?_ | refine Tr.label ?_ | refine Tr.block ?_ | refine Tr.scope ?_ | refine gs1 ?_ | refine gs2 ?_ | refine gs3 ?_ | refine Tr.exit ?_ | refine Tr.goto ?_ | refine Tr.ret ?_ | refine n1 ?_ | refine n2 ?_ | refine n3 ?_ | refine n4 ?_ | refine n5 ?_ | refine n6 ?_ | refine n7 ?_ | refine n8 ?_ | refine n9 (by decide) ?_))
      refine Tr.le (Le.keep [1, 2, 11]) ?_; simp only [List.map_cons, List.map_nil, lk, Nat.reduceEqDiff, reduceIte]
      (first | refine r1 ?_ | refine r2 ?_ | refine r3 ?_); intro K hK; simp only [go_sem, hP, hn]; (repeat (refine ⟨by first | trivial | omega | (simp <;> omega) | (simp +contextual; done) | (clear hK; grind), ?_⟩)); refine c1 (by rw [hP, hT]; exact all_r Tm n.ws (-128) 127 hw) rfl rfl rfl trivial (by simp only [go_sem, hP, hn]; try trivial) (by simp only [go_sem, hP, hn]; try rfl) (by rw [hn]; decide) (by rfl) ?_; simp only [go_sem, hP, hn]; (repeat (refine ⟨by first | trivial | omega | (simp <;> omega) | (simp +contextual; done) | (clear hK; grind), ?_⟩)); refine hK _ ?_; clear K hK
      (repeat (first | ((first | refine r1 ?_ | refine r2 ?_ | refine r3 ?_); intro K hK; simp only [go_sem, hP, hn]; (repeat (refine ⟨by first | trivial | omega | (simp <;> omega) | (simp +contextual; done) | (clear hK; grind), ?_⟩)); refine hK _ ?_; clear K hK) | refine Tr.seq ?_ | refine Tr.skip ?_ | refine Tr.label ?_ | refine Tr.block ?_ | refine Tr.scope ?_ | refine gs1 ?_ | refine gs2 ?_ | refine gs3 ?_ | refine Tr.exit ?_ | refine Tr.goto ?_ | refine Tr.ret ?_ | refine n1 ?_ | refine n2 ?_ | refine n3 ?_ | refine n4 ?_ | refine n5 ?_ | refine n6 ?_ | refine n7 ?_ | refine n8 ?_ | refine n9 (by decide) ?_))
      (first | refine r1 ?_ | refine r2 ?_ | refine r3 ?_); intro K hK; simp only [go_sem, hP, hn]; (repeat (refine ⟨by first | trivial | omega | (simp <;> omega) | (simp +contextual; done) | (clear hK; grind), ?_⟩)); refine c1 (by rw [hP, hT]; exact all_r Tm n.bs (-16777216) 16777216 hs) rfl rfl rfl trivial (by simp only [go_sem, hP, hn]; try trivial) (by simp only [go_sem, hP, hn]; try rfl) (by rw [hn]; decide) (by rfl) ?_; simp only [go_sem, hP, hn]; (repeat (refine ⟨by first | trivial | omega | (simp <;> omega) | (simp +contextual; done) | (clear hK; grind), ?_⟩)); refine hK _ ?_; clear K hK
      (repeat (first | ((first | refine r1 ?_ | refine r2 ?_ | refine r3 ?_); intro K hK; simp only [go_sem, hP, hn]; (repeat (refine ⟨by first | trivial | omega | (simp <;> omega) | (simp +contextual; done) | (clear hK; grind), ?_⟩)); refine hK _ ?_; clear K hK) | refine Tr.seq ?_ | refine Tr.skip ?_ | refine Tr.label ?_ | refine Tr.block ?_ | refine Tr.scope ?_ | refine gs1 ?_ | refine gs2 ?_ | refine gs3 ?_ | refine Tr.exit ?_ | refine Tr.goto ?_ | refine Tr.ret ?_ | refine n1 ?_ | refine n2 ?_ | refine n3 ?_ | refine n4 ?_ | refine n5 ?_ | refine n6 ?_ | refine n7 ?_ | refine n8 ?_ | refine n9 (by decide) ?_))
      (first | refine d1 (.p true 0 (.p true 1 (.p true 2 (.p true 3 (.p true 4 (.alt 5 (.p false 6 (.p false 7 (.p true 8 (.p true 9 (.p true 10 (.p true 11 (.p true 12 (.p false 13 (.p false 14 (.p true 15 (.p true 16 (.p false 17 (.p false 18 (.p true 19 (.p true 20 (.p false 21 .nil)))))))))))))))) .nil)))))) [] (by rw [hP]; kernel_rfl) (by kernel_rfl) (by simp only [go_sem, hP, hn]; try simp) (fun _ _ h => h) fun K hK => ?_ | refine d2 (.p true 0 (.p true 1 (.p true 2 (.p true 3 (.p true 4 (.alt 5 (.p false 6 (.p false 7 (.p true 8 (.p true 9 (.p true 10 (.p true 11 (.p true 12 (.p false 13 (.p false 14 (.p true 15 (.p true 16 (.p false 17 (.p false 18 (.p true 19 (.p true 20 (.p false 21 .nil)))))))))))))))) .nil)))))) [] (by rw [hP]; kernel_rfl) (by kernel_rfl) (by simp only [go_sem, hP, hn]; try simp) (fun _ _ h => h) fun K hK => ?_ | refine d4 (.p true 0 (.p true 1 (.p true 2 (.p true 3 (.p true 4 (.alt 5 (.p false 6 (.p false 7 (.p true 8 (.p true 9 (.p true 10 (.p true 11 (.p true 12 (.p false 13 (.p false 14 (.p true 15 (.p true 16 (.p false 17 (.p false 18 (.p true 19 (.p true 20 (.p false 21 .nil)))))))))))))))) .nil)))))) [] (by rw [hP]; kernel_rfl) (by kernel_rfl) (by simp only [go_sem, hP, hn]; try simp) (fun _ _ h => h) fun K hK => ?_); simp only [go_sem, hP, hn]; (repeat (refine ⟨by first | trivial | omega | (simp <;> omega) | (simp +contextual; done) | (clear hK; grind), ?_⟩)); refine p1 (by rw [hP, hT]; exact weights_r Tm n v) rfl rfl rfl trivial (by simp only [go_sem, hP, hn]; try trivial) (by simp only [go_sem, hP, hn]; try rfl) (by rw [hn]; decide) (by rfl) ?_; simp only [go_sem, hP, hn]; (repeat (refine ⟨by first | trivial | omega | (simp <;> omega) | (simp +contextual; done) | (clear hK; grind), ?_⟩)); refine hK _ ?_; clear K hK
      refine Tr.cond rfl (fun h21 => ?_) (fun h21 => ?_)
      · (repeat (first | ((first | refine r1 ?_ | refine r2 ?_ | refine r3 ?_); intro K hK; simp only [go_sem, hP, hn]; (repeat (refine ⟨by first | trivial | omega | (simp <;> omega) | (simp +contextual; done) | (clear hK; grind), ?_⟩)); refine hK _ ?_; clear K hK) | refine Tr.seq ?_ | refine Tr.skip ?_ | refine Tr.label ?_ | refine Tr.block ?_ | refine Tr.scope ?_ | refine gs1 ?_ | refine gs2 ?_ | refine gs3 ?_ | refine Tr.exit ?_ | refine Tr.goto ?_ | refine Tr.ret ?_ | refine n1 ?_ | refine n2 ?_ | refine n3 ?_ | refine n4 ?_ | refine n5 ?_ | refine n6 ?_ | refine n7 ?_ | refine n8 ?_ | refine n9 (by decide) ?_))
        simp only [RetQ, go_sem]
        have e : n.s21 v (v) = true := h21
        unfold Nd.sized; simp only [h4, h8, h10, h13, hw0, h2, e, if_true, Bool.false_eq_true, if_false]
      · (repeat (first | ((first | refine r1 ?_ | refine r2 ?_ | refine r3 ?_); intro K hK; simp only [go_sem, hP, hn]; (repeat (refine ⟨by first | trivial | omega | (simp <;> omega) | (simp +contextual; done) | (clear hK; grind), ?_⟩)); refine hK _ ?_; clear K hK) | refine Tr.seq ?_ | refine Tr.skip ?_ | refine Tr.label ?_ | refine Tr.block ?_ | refine Tr.scope ?_ | refine gs1 ?_ | refine gs2 ?_ | refine gs3 ?_ | refine Tr.exit ?_ | refine Tr.goto ?_ | refine Tr.ret ?_ | refine n1 ?_ | refine n2 ?_ | refine n3 ?_ | refine n4 ?_ | refine n5 ?_ | refine n6 ?_ | refine n7 ?_ | refine n8 ?_ | refine n9 (by decide) ?_))
        refine Tr.le (Le.keep [2]) ?_; simp only [List.map_cons, List.map_nil, lk, Nat.reduceEqDiff, reduceIte]
        (first | refine r1 ?_ | refine r2 ?_ | refine r3 ?_); intro K hK; simp only [go_sem, hP, hn]; (repeat (refine ⟨by first | trivial | omega | (simp <;> omega) | (simp +contextual; done) | (clear hK; grind), ?_⟩)); refine c1 (by rw [hP, hT]; exact in_r Tm n.mult 0 32767) rfl rfl rfl trivial (by simp only [go_sem, hP, hn]; try trivial) (by simp only [go_sem, hP, hn]; try rfl) (by rw [hn]; decide) (by rfl) ?_; simp only [go_sem, hP, hn]; (repeat (refine ⟨by first | trivial | omega | (simp <;> omega) | (simp +contextual; done) | (clear hK; grind), ?_⟩)); refine hK _ ?_; clear K hK
        (repeat (first | ((first | refine r1 ?_ | refine r2 ?_ | refine r3 ?_); intro K hK; simp only [go_sem, hP, hn]; (repeat (refine ⟨by first | trivial | omega | (simp <;> omega) | (simp +contextual; done) | (clear hK; grind), ?_⟩)); refine hK _ ?_; clear K hK) | refine Tr.seq ?_ | refine Tr.skip ?_ | refine Tr.label ?_ | refine Tr.block ?_ | refine Tr.scope ?_ | refine gs1 ?_ | refine gs2 ?_ | refine gs3 ?_ | refine Tr.exit ?_ | refine Tr.goto ?_ | refine Tr.ret ?_ | refine n1 ?_ | refine n2 ?_ | refine n3 ?_ | refine n4 ?_ | refine n5 ?_ | refine n6 ?_ | refine n7 ?_ | refine n8 ?_ | refine n9 (by decide) ?_))
        (first | refine r1 ?_ | refine r2 ?_ | refine r3 ?_); intro K hK; simp only [go_sem, hP, hn]; (repeat (refine ⟨by first | trivial | omega | (simp <;> omega) | (simp +contextual; done) | (clear hK; grind), ?_⟩)); refine c1 (by rw [hP, hT]; exact in_r Tm n.shift 0 30) rfl rfl rfl trivial (by simp only [go_sem, hP, hn]; try trivial) (by simp only [go_sem, hP, hn]; try rfl) (by rw [hn]; decide) (by rfl) ?_; simp only [go_sem, hP, hn]; (repeat (refine ⟨by first | trivial | omega | (simp <;> omega) | (simp +contextual; done) | (clear hK; grind), ?_⟩)); refine hK _ ?_; clear K hK
        (repeat (first | ((first | refine r1 ?_ | refine r2 ?_ | refine r3 ?_); intro K hK; simp only [go_sem, hP, hn]; (repeat (refine ⟨by first | trivial | omega | (simp <;> omega) | (simp +contextual; done) | (clear hK; grind), ?_⟩)); refine hK _ ?_; clear K hK) | refine Tr.seq ?_ | refine Tr.skip ?_ | refine Tr.label ?_ | refine Tr.block ?_ | refine Tr.scope ?_ | refine gs1 ?_ | refine gs2 ?_ | refine gs3 ?_ | refine Tr.exit ?_ | refine Tr.goto ?_ | refine Tr.ret ?_ | refine n1 ?_ | refine n2 ?_ | refine n3 ?_ | refine n4 ?_ | refine n5 ?_ | refine n6 ?_ | refine n7 ?_ | refine n8 ?_ | refine n9 (by decide) ?_))
        (first | refine r1 ?_ | refine r2 ?_ | refine r3 ?_); intro K hK; simp only [go_sem, hP, hn]; (repeat (refine ⟨by first | trivial | omega | (simp <;> omega) | (simp +contextual; done) | (clear hK; grind), ?_⟩)); refine c1 (by rw [hP, hT]; exact in_r Tm n.low (-2147483648) 2147483647) rfl rfl rfl trivial (by simp only [go_sem, hP, hn]; try trivial) (by simp only [go_sem, hP, hn]; try rfl) (by rw [hn]; decide) (by rfl) ?_; simp only [go_sem, hP, hn]; (repeat (refine ⟨by first | trivial | omega | (simp <;> omega) | (simp +contextual; done) | (clear hK; grind), ?_⟩)); refine hK _ ?_; clear K hK
        (repeat (first | ((first | refine r1 ?_ | refine r2 ?_ | refine r3 ?_); intro K hK; simp only [go_sem, hP, hn]; (repeat (refine ⟨by first | trivial | omega | (simp <;> omega) | (simp +contextual; done) | (clear hK; grind), ?_⟩)); refine hK _ ?_; clear K hK) | refine Tr.seq ?_ | refine Tr.skip ?_ | refine Tr.label ?_ | refine Tr.block ?_ | refine Tr.scope ?_ | refine gs1 ?_ | refine gs2 ?_ | refine gs3 ?_ | refine Tr.exit ?_ | refine Tr.goto ?_ | refine Tr.ret ?_ | refine n1 ?_ | refine n2 ?_ | refine n3 ?_ | refine n4 ?_ | refine n5 ?_ | refine n6 ?_ | refine n7 ?_ | refine n8 ?_ | refine n9 (by decide) ?_))
        (first | refine r1 ?_ | refine r2 ?_ | refine r3 ?_); intro K hK; simp only [go_sem, hP, hn]; (repeat (refine ⟨by first | trivial | omega | (simp <;> omega) | (simp +contextual; done) | (clear hK; grind), ?_⟩)); refine c1 (by rw [hP, hT]; exact in_r Tm n.high (-2147483648) 2147483647) rfl rfl rfl trivial (by simp only [go_sem, hP, hn]; try trivial) (by simp only [go_sem, hP, hn]; try rfl) (by rw [hn]; decide) (by rfl) ?_; simp only [go_sem, hP, hn]; (repeat (refine ⟨by first | trivial | omega | (simp <;> omega) | (simp +contextual; done) | (clear hK; grind), ?_⟩)); refine hK _ ?_; clear K hK
        (repeat (first | ((first | refine r1 ?_ | refine r2 ?_ | refine r3 ?_); intro K hK; simp only [go_sem, hP, hn]; (repeat (refine ⟨by first | trivial | omega | (simp <;> omega) | (simp +contextual; done) | (clear hK; grind), ?_⟩)); refine hK _ ?_; clear K hK) | refine Tr.seq ?_ | refine Tr.skip ?_ | refine Tr.label ?_ | refine Tr.block ?_ | refine Tr.scope ?_ | refine gs1 ?_ | refine gs2 ?_ | refine gs3 ?_ | refine Tr.exit ?_ | refine Tr.goto ?_ | refine Tr.ret ?_ | refine n1 ?_ | refine n2 ?_ | refine n3 ?_ | refine n4 ?_ | refine n5 ?_ | refine n6 ?_ | refine n7 ?_ | refine n8 ?_ | refine n9 (by decide) ?_))
        simp only [RetQ, go_sem]
        have e : n.s27 = (inB n.mult 0 32767 && inB n.shift 0 30 && inB n.low (-2147483648) 2147483647 && inB n.high (-2147483648) 2147483647 && decide (n.low ≤ n.high)) := rfl
        have e1 : n.s21 v (v) = false := h21
        unfold Nd.sized; simp only [h4, h8, h10, h13, hw0, h2, e1, e, if_true, Bool.false_eq_true, if_false]
    · (repeat (first | ((first | refine r1 ?_ | refine r2 ?_ | refine r3 ?_); intro K hK; simp only [go_sem, hP, hn]; (repeat (refine ⟨by first | trivial | omega | (simp <;> omega) | (simp +contextual; done) | (clear hK; grind), ?_⟩)); refine hK _ ?_; clear K hK) | refine Tr.seq ?_ | refine Tr.skip ?_ | refine Tr.label ?_ | refine Tr.block ?_ | refine Tr.scope ?_ | refine gs1 ?_ | refine gs2 ?_ | refine gs3 ?_ | refine Tr.exit ?_ | refine Tr.goto ?_ | refine Tr.ret ?_ | refine n1 ?_ | refine n2 ?_ | refine n3 ?_ | refine n4 ?_ | refine n5 ?_ | refine n6 ?_ | refine n7 ?_ | refine n8 ?_ | refine n9 (by decide) ?_))
      refine Tr.le (Le.keep [1, 2, 11]) ?_; simp only [List.map_cons, List.map_nil, lk, Nat.reduceEqDiff, reduceIte]
      (first | refine r1 ?_ | refine r2 ?_ | refine r3 ?_); intro K hK; simp only [go_sem, hP, hn]; (repeat (refine ⟨by first | trivial | omega | (simp <;> omega) | (simp +contextual; done) | (clear hK; grind), ?_⟩)); refine c1 (by rw [hP, hT]; exact all_r Tm n.ws (-128) 127 hw) rfl rfl rfl trivial (by simp only [go_sem, hP, hn]; try trivial) (by simp only [go_sem, hP, hn]; try rfl) (by rw [hn]; decide) (by rfl) ?_; simp only [go_sem, hP, hn]; (repeat (refine ⟨by first | trivial | omega | (simp <;> omega) | (simp +contextual; done) | (clear hK; grind), ?_⟩)); refine hK _ ?_; clear K hK
      (repeat (first | ((first | refine r1 ?_ | refine r2 ?_ | refine r3 ?_); intro K hK; simp only [go_sem, hP, hn]; (repeat (refine ⟨by first | trivial | omega | (simp <;> omega) | (simp +contextual; done) | (clear hK; grind), ?_⟩)); refine hK _ ?_; clear K hK) | refine Tr.seq ?_ | refine Tr.skip ?_ | refine Tr.label ?_ | refine Tr.block ?_ | refine Tr.scope ?_ | refine gs1 ?_ | refine gs2 ?_ | refine gs3 ?_ | refine Tr.exit ?_ | refine Tr.goto ?_ | refine Tr.ret ?_ | refine n1 ?_ | refine n2 ?_ | refine n3 ?_ | refine n4 ?_ | refine n5 ?_ | refine n6 ?_ | refine n7 ?_ | refine n8 ?_ | refine n9 (by decide) ?_))
      (first | refine r1 ?_ | refine r2 ?_ | refine r3 ?_); intro K hK; simp only [go_sem, hP, hn]; (repeat (refine ⟨by first | trivial | omega | (simp <;> omega) | (simp +contextual; done) | (clear hK; grind), ?_⟩)); refine c1 (by rw [hP, hT]; exact all_r Tm n.bs (-16777216) 16777216 hs) rfl rfl rfl trivial (by simp only [go_sem, hP, hn]; try trivial) (by simp only [go_sem, hP, hn]; try rfl) (by rw [hn]; decide) (by rfl) ?_; simp only [go_sem, hP, hn]; (repeat (refine ⟨by first | trivial | omega | (simp <;> omega) | (simp +contextual; done) | (clear hK; grind), ?_⟩)); refine hK _ ?_; clear K hK
      (repeat (first | ((first | refine r1 ?_ | refine r2 ?_ | refine r3 ?_); intro K hK; simp only [go_sem, hP, hn]; (repeat (refine ⟨by first | trivial | omega | (simp <;> omega) | (simp +contextual; done) | (clear hK; grind), ?_⟩)); refine hK _ ?_; clear K hK) | refine Tr.seq ?_ | refine Tr.skip ?_ | refine Tr.label ?_ | refine Tr.block ?_ | refine Tr.scope ?_ | refine gs1 ?_ | refine gs2 ?_ | refine gs3 ?_ | refine Tr.exit ?_ | refine Tr.goto ?_ | refine Tr.ret ?_ | refine n1 ?_ | refine n2 ?_ | refine n3 ?_ | refine n4 ?_ | refine n5 ?_ | refine n6 ?_ | refine n7 ?_ | refine n8 ?_ | refine n9 (by decide) ?_))
      (first | refine d1 (.p true 0 (.p true 1 (.p true 2 (.p true 3 (.p true 4 (.alt 5 (.p false 6 (.p false 7 (.p true 8 (.p true 9 (.p true 10 (.p true 11 (.p true 12 (.p false 13 (.p false 14 (.p true 15 (.p true 16 (.p false 17 (.p false 18 (.p true 19 (.p true 20 (.p false 21 .nil)))))))))))))))) .nil)))))) [] (by rw [hP]; kernel_rfl) (by kernel_rfl) (by simp only [go_sem, hP, hn]; try simp) (fun _ _ h => h) fun K hK => ?_ | refine d2 (.p true 0 (.p true 1 (.p true 2 (.p true 3 (.p true 4 (.alt 5 (.p false 6 (.p false 7 (.p true 8 (.p true 9 (.p true 10 (.p true 11 (.p true 12 (.p false 13 (.p false 14 (.p true 15 (.p true 16 (.p false 17 (.p false 18 (.p true 19 (.p true 20 (.p false 21 .nil)))))))))))))))) .nil)))))) [] (by rw [hP]; kernel_rfl) (by kernel_rfl) (by simp only [go_sem, hP, hn]; try simp) (fun _ _ h => h) fun K hK => ?_ | refine d4 (.p true 0 (.p true 1 (.p true 2 (.p true 3 (.p true 4 (.alt 5 (.p false 6 (.p false 7 (.p true 8 (.p true 9 (.p true 10 (.p true 11 (.p true 12 (.p false 13 (.p false 14 (.p true 15 (.p true 16 (.p false 17 (.p false 18 (.p true 19 (.p true 20 (.p false 21 .nil)))))))))))))))) .nil)))))) [] (by rw [hP]; kernel_rfl) (by kernel_rfl) (by simp only [go_sem, hP, hn]; try simp) (fun _ _ h => h) fun K hK => ?_); simp only [go_sem, hP, hn]; (repeat (refine ⟨by first | trivial | omega | (simp <;> omega) | (simp +contextual; done) | (clear hK; grind), ?_⟩)); refine p1 (by rw [hP, hT]; exact weights_r Tm n v) rfl rfl rfl trivial (by simp only [go_sem, hP, hn]; try trivial) (by simp only [go_sem, hP, hn]; try rfl) (by rw [hn]; decide) (by rfl) ?_; simp only [go_sem, hP, hn]; (repeat (refine ⟨by first | trivial | omega | (simp <;> omega) | (simp +contextual; done) | (clear hK; grind), ?_⟩)); refine hK _ ?_; clear K hK
      refine Tr.cond rfl (fun h21 => ?_) (fun h21 => ?_)
      · (repeat (first | ((first | refine r1 ?_ | refine r2 ?_ | refine r3 ?_); intro K hK; simp only [go_sem, hP, hn]; (repeat (refine ⟨by first | trivial | omega | (simp <;> omega) | (simp +contextual; done) | (clear hK; grind), ?_⟩)); refine hK _ ?_; clear K hK) | refine Tr.seq ?_ | refine Tr.skip ?_ | refine Tr.label ?_ | refine Tr.block ?_ | refine Tr.scope ?_ | refine gs1 ?_ | refine gs2 ?_ | refine gs3 ?_ | refine Tr.exit ?_ | refine Tr.goto ?_ | refine Tr.ret ?_ | refine n1 ?_ | refine n2 ?_ | refine n3 ?_ | refine n4 ?_ | refine n5 ?_ | refine n6 ?_ | refine n7 ?_ | refine n8 ?_ | refine n9 (by decide) ?_))
        simp only [RetQ, go_sem]
        have e : n.s21 v (n.wid) = true := h21
        unfold Nd.sized; simp only [h4, h8, h10, h13, hw0, h2, e, if_true, Bool.false_eq_true, if_false]
      · (repeat (first | ((first | refine r1 ?_ | refine r2 ?_ | refine r3 ?_); intro K hK; simp only [go_sem, hP, hn]; (repeat (refine ⟨by first | trivial | omega | (simp <;> omega) | (simp +contextual; done) | (clear hK; grind), ?_⟩)); refine hK _ ?_; clear K hK) | refine Tr.seq ?_ | refine Tr.skip ?_ | refine Tr.label ?_ | refine Tr.block ?_ | refine Tr.scope ?_ | refine gs1 ?_ | refine gs2 ?_ | refine gs3 ?_ | refine Tr.exit ?_ | refine Tr.goto ?_ | refine Tr.ret ?_ | refine n1 ?_ | refine n2 ?_ | refine n3 ?_ | refine n4 ?_ | refine n5 ?_ | refine n6 ?_ | refine n7 ?_ | refine n8 ?_ | refine n9 (by decide) ?_))
        refine Tr.le (Le.keep [2]) ?_; simp only [List.map_cons, List.map_nil, lk, Nat.reduceEqDiff, reduceIte]
        (first | refine r1 ?_ | refine r2 ?_ | refine r3 ?_); intro K hK; simp only [go_sem, hP, hn]; (repeat (refine ⟨by first | trivial | omega | (simp <;> omega) | (simp +contextual; done) | (clear hK; grind), ?_⟩)); refine c1 (by rw [hP, hT]; exact in_r Tm n.mult 0 32767) rfl rfl rfl trivial (by simp only [go_sem, hP, hn]; try trivial) (by simp only [go_sem, hP, hn]; try rfl) (by rw [hn]; decide) (by rfl) ?_; simp only [go_sem, hP, hn]; (repeat (refine ⟨by first | trivial | omega | (simp <;> omega) | (simp +contextual; done) | (clear hK; grind), ?_⟩)); refine hK _ ?_; clear K hK
        (repeat (first | ((first | refine r1 ?_ | refine r2 ?_ | refine r3 ?_); intro K hK; simp only [go_sem, hP, hn]; (repeat (refine ⟨by first | trivial | omega | (simp <;> omega) | (simp +contextual; done) | (clear hK; grind), ?_⟩)); refine hK _ ?_; clear K hK) | refine Tr.seq ?_ | refine Tr.skip ?_ | refine Tr.label ?_ | refine Tr.block ?_ | refine Tr.scope ?_ | refine gs1 ?_ | refine gs2 ?_ | refine gs3 ?_ | refine Tr.exit ?_ | refine Tr.goto ?_ | refine Tr.ret ?_ | refine n1 ?_ | refine n2 ?_ | refine n3 ?_ | refine n4 ?_ | refine n5 ?_ | refine n6 ?_ | refine n7 ?_ | refine n8 ?_ | refine n9 (by decide) ?_))
        (first | refine r1 ?_ | refine r2 ?_ | refine r3 ?_); intro K hK; simp only [go_sem, hP, hn]; (repeat (refine ⟨by first | trivial | omega | (simp <;> omega) | (simp +contextual; done) | (clear hK; grind), ?_⟩)); refine c1 (by rw [hP, hT]; exact in_r Tm n.shift 0 30) rfl rfl rfl trivial (by simp only [go_sem, hP, hn]; try trivial) (by simp only [go_sem, hP, hn]; try rfl) (by rw [hn]; decide) (by rfl) ?_; simp only [go_sem, hP, hn]; (repeat (refine ⟨by first | trivial | omega | (simp <;> omega) | (simp +contextual; done) | (clear hK; grind), ?_⟩)); refine hK _ ?_; clear K hK
        (repeat (first | ((first | refine r1 ?_ | refine r2 ?_ | refine r3 ?_); intro K hK; simp only [go_sem, hP, hn]; (repeat (refine ⟨by first | trivial | omega | (simp <;> omega) | (simp +contextual; done) | (clear hK; grind), ?_⟩)); refine hK _ ?_; clear K hK) | refine Tr.seq ?_ | refine Tr.skip ?_ | refine Tr.label ?_ | refine Tr.block ?_ | refine Tr.scope ?_ | refine gs1 ?_ | refine gs2 ?_ | refine gs3 ?_ | refine Tr.exit ?_ | refine Tr.goto ?_ | refine Tr.ret ?_ | refine n1 ?_ | refine n2 ?_ | refine n3 ?_ | refine n4 ?_ | refine n5 ?_ | refine n6 ?_ | refine n7 ?_ | refine n8 ?_ | refine n9 (by decide) ?_))
        (first | refine r1 ?_ | refine r2 ?_ | refine r3 ?_); intro K hK; simp only [go_sem, hP, hn]; (repeat (refine ⟨by first | trivial | omega | (simp <;> omega) | (simp +contextual; done) | (clear hK; grind), ?_⟩)); refine c1 (by rw [hP, hT]; exact in_r Tm n.low (-2147483648) 2147483647) rfl rfl rfl trivial (by simp only [go_sem, hP, hn]; try trivial) (by simp only [go_sem, hP, hn]; try rfl) (by rw [hn]; decide) (by rfl) ?_; simp only [go_sem, hP, hn]; (repeat (refine ⟨by first | trivial | omega | (simp <;> omega) | (simp +contextual; done) | (clear hK; grind), ?_⟩)); refine hK _ ?_; clear K hK
        (repeat (first | ((first | refine r1 ?_ | refine r2 ?_ | refine r3 ?_); intro K hK; simp only [go_sem, hP, hn]; (repeat (refine ⟨by first | trivial | omega | (simp <;> omega) | (simp +contextual; done) | (clear hK; grind), ?_⟩)); refine hK _ ?_; clear K hK) | refine Tr.seq ?_ | refine Tr.skip ?_ | refine Tr.label ?_ | refine Tr.block ?_ | refine Tr.scope ?_ | refine gs1 ?_ | refine gs2 ?_ | refine gs3 ?_ | refine Tr.exit ?_ | refine Tr.goto ?_ | refine Tr.ret ?_ | refine n1 ?_ | refine n2 ?_ | refine n3 ?_ | refine n4 ?_ | refine n5 ?_ | refine n6 ?_ | refine n7 ?_ | refine n8 ?_ | refine n9 (by decide) ?_))
        (first | refine r1 ?_ | refine r2 ?_ | refine r3 ?_); intro K hK; simp only [go_sem, hP, hn]; (repeat (refine ⟨by first | trivial | omega | (simp <;> omega) | (simp +contextual; done) | (clear hK; grind), ?_⟩)); refine c1 (by rw [hP, hT]; exact in_r Tm n.high (-2147483648) 2147483647) rfl rfl rfl trivial (by simp only [go_sem, hP, hn]; try trivial) (by simp only [go_sem, hP, hn]; try rfl) (by rw [hn]; decide) (by rfl) ?_; simp only [go_sem, hP, hn]; (repeat (refine ⟨by first | trivial | omega | (simp <;> omega) | (simp +contextual; done) | (clear hK; grind), ?_⟩)); refine hK _ ?_; clear K hK
        (repeat (first | ((first | refine r1 ?_ | refine r2 ?_ | refine r3 ?_); intro K hK; simp only [go_sem, hP, hn]; (repeat (refine ⟨by first | trivial | omega | (simp <;> omega) | (simp +contextual; done) | (clear hK; grind), ?_⟩)); refine hK _ ?_; clear K hK) | refine Tr.seq ?_ | refine Tr.skip ?_ | refine Tr.label ?_ | refine Tr.block ?_ | refine Tr.scope ?_ | refine gs1 ?_ | refine gs2 ?_ | refine gs3 ?_ | refine Tr.exit ?_ | refine Tr.goto ?_ | refine Tr.ret ?_ | refine n1 ?_ | refine n2 ?_ | refine n3 ?_ | refine n4 ?_ | refine n5 ?_ | refine n6 ?_ | refine n7 ?_ | refine n8 ?_ | refine n9 (by decide) ?_))
        simp only [RetQ, go_sem]
        have e : n.s27 = (inB n.mult 0 32767 && inB n.shift 0 30 && inB n.low (-2147483648) 2147483647 && inB n.high (-2147483648) 2147483647 && decide (n.low ≤ n.high)) := rfl
        have e1 : n.s21 v (n.wid) = false := h21
        unfold Nd.sized; simp only [h4, h8, h10, h13, hw0, h2, e1, e, if_true, Bool.false_eq_true, if_false]
  · (repeat (first | ((first | refine r1 ?_ | refine r2 ?_ | refine r3 ?_); intro K hK; simp only [go_sem, hP, hn]; (repeat (refine ⟨by first | trivial | omega | (simp <;> omega) | (simp +contextual; done) | (clear hK; grind), ?_⟩)); refine hK _ ?_; clear K hK) | refine Tr.seq ?_ | refine Tr.skip ?_ | refine Tr.label ?_ | refine Tr.block ?_ | refine Tr.scope ?_ | refine gs1 ?_ | refine gs2 ?_ | refine gs3 ?_ | refine Tr.exit ?_ | refine Tr.goto ?_ | refine Tr.ret ?_ | refine n1 ?_ | refine n2 ?_ | refine n3 ?_ | refine n4 ?_ | refine n5 ?_ | refine n6 ?_ | refine n7 ?_ | refine n8 ?_ | refine n9 (by decide) ?_))
    refine Tr.le (Le.keep [2]) ?_; simp only [List.map_cons, List.map_nil, lk, Nat.reduceEqDiff, reduceIte]
    (first | refine r1 ?_ | refine r2 ?_ | refine r3 ?_); intro K hK; simp only [go_sem, hP, hn]; (repeat (refine ⟨by first | trivial | omega | (simp <;> omega) | (simp +contextual; done) | (clear hK; grind), ?_⟩)); refine c1 (by rw [hP, hT]; exact in_r Tm n.mult 0 32767) rfl rfl rfl trivial (by simp only [go_sem, hP, hn]; try trivial) (by simp only [go_sem, hP, hn]; try rfl) (by rw [hn]; decide) (by rfl) ?_; simp only [go_sem, hP, hn]; (repeat (refine ⟨by first | trivial | omega | (simp <;> omega) | (simp +contextual; done) | (clear hK; grind), ?_⟩)); refine hK _ ?_; clear K hK
    (repeat (first | ((first | refine r1 ?_ | refine r2 ?_ | refine r3 ?_); intro K hK; simp only [go_sem, hP, hn]; (repeat (refine ⟨by first | trivial | omega | (simp <;> omega) | (simp +contextual; done) | (clear hK; grind), ?_⟩)); refine hK _ ?_; clear K hK) | refine Tr.seq ?_ | refine Tr.skip ?_ | refine Tr.label ?_ | refine Tr.block ?_ | refine Tr.scope ?_ | refine gs1 ?_ | refine gs2 ?_ | refine gs3 ?_ | refine Tr.exit ?_ | refine Tr.goto ?_ | refine Tr.ret ?_ | refine n1 ?_ | refine n2 ?_ | refine n3 ?_ | refine n4 ?_ | refine n5 ?_ | refine n6 ?_ | refine n7 ?_ | refine n8 ?_ | refine n9 (by decide) ?_))
    (first | refine r1 ?_ | refine r2 ?_ | refine r3 ?_); intro K hK; simp only [go_sem, hP, hn]; (repeat (refine ⟨by first | trivial | omega | (simp <;> omega) | (simp +contextual; done) | (clear hK; grind), ?_⟩)); refine c1 (by rw [hP, hT]; exact in_r Tm n.shift 0 30) rfl rfl rfl trivial (by simp only [go_sem, hP, hn]; try trivial) (by simp only [go_sem, hP, hn]; try rfl) (by rw [hn]; decide) (by rfl) ?_; simp only [go_sem, hP, hn]; (repeat (refine ⟨by first | trivial | omega | (simp <;> omega) | (simp +contextual; done) | (clear hK; grind), ?_⟩)); refine hK _ ?_; clear K hK
    (repeat (first | ((first | refine r1 ?_ | refine r2 ?_ | refine r3 ?_); intro K hK; simp only [go_sem, hP, hn]; (repeat (refine ⟨by first | trivial | omega | (simp <;> omega) | (simp +contextual; done) | (clear hK; grind), ?_⟩)); refine hK _ ?_; clear K hK) | refine Tr.seq ?_ | refine Tr.skip ?_ | refine Tr.label ?_ | refine Tr.block ?_ | refine Tr.scope ?_ | refine gs1 ?_ | refine gs2 ?_ | refine gs3 ?_ | refine Tr.exit ?_ | refine Tr.goto ?_ | refine Tr.ret ?_ | refine n1 ?_ | refine n2 ?_ | refine n3 ?_ | refine n4 ?_ | refine n5 ?_ | refine n6 ?_ | refine n7 ?_ | refine n8 ?_ | refine n9 (by decide) ?_))
    (first | refine r1 ?_ | refine r2 ?_ | refine r3 ?_); intro K hK; simp only [go_sem, hP, hn]; (repeat (refine ⟨by first | trivial | omega | (simp <;> omega) | (simp +contextual; done) | (clear hK; grind), ?_⟩)); refine c1 (by rw [hP, hT]; exact in_r Tm n.low (-2147483648) 2147483647) rfl rfl rfl trivial (by simp only [go_sem, hP, hn]; try trivial) (by simp only [go_sem, hP, hn]; try rfl) (by rw [hn]; decide) (by rfl) ?_; simp only [go_sem, hP, hn]; (repeat (refine ⟨by first | trivial | omega | (simp <;> omega) | (simp +contextual; done) | (clear hK; grind), ?_⟩)); refine hK _ ?_; clear K hK
    (repeat (first | ((first | refine r1 ?_ | refine r2 ?_ | refine r3 ?_); intro K hK; simp only [go_sem, hP, hn]; (repeat (refine ⟨by first | trivial | omega | (simp <;> omega) | (simp +contextual; done) | (clear hK; grind), ?_⟩)); refine hK _ ?_; clear K hK) | refine Tr.seq ?_ | refine Tr.skip ?_ | refine Tr.label ?_ | refine Tr.block ?_ | refine Tr.scope ?_ | refine gs1 ?_ | refine gs2 ?_ | refine gs3 ?_ | refine Tr.exit ?_ | refine Tr.goto ?_ | refine Tr.ret ?_ | refine n1 ?_ | refine n2 ?_ | refine n3 ?_ | refine n4 ?_ | refine n5 ?_ | refine n6 ?_ | refine n7 ?_ | refine n8 ?_ | refine n9 (by decide) ?_))
    (first | refine r1 ?_ | refine r2 ?_ | refine r3 ?_); intro K hK; simp only [go_sem, hP, hn]; (repeat (refine ⟨by first | trivial | omega | (simp <;> omega) | (simp +contextual; done) | (clear hK; grind), ?_⟩)); refine c1 (by rw [hP, hT]; exact in_r Tm n.high (-2147483648) 2147483647) rfl rfl rfl trivial (by simp only [go_sem, hP, hn]; try trivial) (by simp only [go_sem, hP, hn]; try rfl) (by rw [hn]; decide) (by rfl) ?_; simp only [go_sem, hP, hn]; (repeat (refine ⟨by first | trivial | omega | (simp <;> omega) | (simp +contextual; done) | (clear hK; grind), ?_⟩)); refine hK _ ?_; clear K hK
    (repeat (first | ((first | refine r1 ?_ | refine r2 ?_ | refine r3 ?_); intro K hK; simp only [go_sem, hP, hn]; (repeat (refine ⟨by first | trivial | omega | (simp <;> omega) | (simp +contextual; done) | (clear hK; grind), ?_⟩)); refine hK _ ?_; clear K hK) | refine Tr.seq ?_ | refine Tr.skip ?_ | refine Tr.label ?_ | refine Tr.block ?_ | refine Tr.scope ?_ | refine gs1 ?_ | refine gs2 ?_ | refine gs3 ?_ | refine Tr.exit ?_ | refine Tr.goto ?_ | refine Tr.ret ?_ | refine n1 ?_ | refine n2 ?_ | refine n3 ?_ | refine n4 ?_ | refine n5 ?_ | refine n6 ?_ | refine n7 ?_ | refine n8 ?_ | refine n9 (by decide) ?_))
    simp only [RetQ, go_sem]
    have e : n.s27 = (inB n.mult 0 32767 && inB n.shift 0 30 && inB n.low (-2147483648) 2147483647 && inB n.high (-2147483648) 2147483647 && decide (n.low ≤ n.high)) := rfl
    unfold Nd.sized; simp only [h4, h8, h10, h13, hw0, e, Bool.false_eq_true, if_false]
theorem Check_r {T : World → Prop} (Tm : TP T) (n : Nd) (l : List Int) (hw : n.ws.length ≤ 65536) (hs : n.bs.length ≤ 65536) (hl : l.length ≤ 65536) (hi : n.inn.length ≤ 65536) : Ct Go.Proofs.Tryd.prog T 50 [.agg n.cs, .d (.row [.i .i64 0] (l.map intC))] true (fun r => r = .d (.i .i64 (n.rchk l))) := by
  refine Ct_of Tm Go.Proofs.Tryd.func50 rfl rfl Go.Proofs.Tryd.ntmps50 (by simp) (rs := [.tmp 4]) rfl fun E hP hn hT => ?_
  (repeat (first | ((first | refine r1 ?_ | refine r2 ?_ | refine r3 ?_); intro K hK; simp only [go_sem, hP, hn]; (repeat (refine ⟨by first | trivial | omega | (simp <;> omega) | (simp +contextual; done) | (clear hK; grind), ?_⟩)); refine hK _ ?_; clear K hK) | refine Tr.seq ?_ | refine Tr.skip ?_ | refine Tr.label ?_ | refine Tr.block ?_ | refine Tr.scope ?_ | refine gs1 ?_ | refine gs2 ?_ | refine gs3 ?_ | refine Tr.exit ?_ | refine Tr.goto ?_ | refine Tr.ret ?_ | refine n1 ?_ | refine n2 ?_ | refine n3 ?_ | refine n4 ?_ | refine n5 ?_ | refine n6 ?_ | refine n7 ?_ | refine n8 ?_ | refine n9 (by decide) ?_))
  (first | refine r1 ?_ | refine r2 ?_ | refine r3 ?_); intro K hK; simp only [go_sem, hP, hn]; (repeat (refine ⟨by first | trivial | omega | (simp <;> omega) | (simp +contextual; done) | (clear hK; grind), ?_⟩)); refine c1 (by rw [hP, hT]; exact all_r Tm l 1 16 hl) rfl rfl rfl trivial (by simp only [go_sem, hP, hn]; try trivial) (by simp only [go_sem, hP, hn]; try rfl) (by rw [hn]; decide) (by rfl) ?_; simp only [go_sem, hP, hn]; (repeat (refine ⟨by first | trivial | omega | (simp <;> omega) | (simp +contextual; done) | (clear hK; grind), ?_⟩)); refine hK _ ?_; clear K hK
  (repeat (first | ((first | refine r1 ?_ | refine r2 ?_ | refine r3 ?_); intro K hK; simp only [go_sem, hP, hn]; (repeat (refine ⟨by first | trivial | omega | (simp <;> omega) | (simp +contextual; done) | (clear hK; grind), ?_⟩)); refine hK _ ?_; clear K hK) | refine Tr.seq ?_ | refine Tr.skip ?_ | refine Tr.label ?_ | refine Tr.block ?_ | refine Tr.scope ?_ | refine gs1 ?_ | refine gs2 ?_ | refine gs3 ?_ | refine Tr.exit ?_ | refine Tr.goto ?_ | refine Tr.ret ?_ | refine n1 ?_ | refine n2 ?_ | refine n3 ?_ | refine n4 ?_ | refine n5 ?_ | refine n6 ?_ | refine n7 ?_ | refine n8 ?_ | refine n9 (by decide) ?_))
  refine Tr.cond rfl (fun h1 => ?_) (fun h1 => ?_)
  · (repeat (first | ((first | refine r1 ?_ | refine r2 ?_ | refine r3 ?_); intro K hK; simp only [go_sem, hP, hn]; (repeat (refine ⟨by first | trivial | omega | (simp <;> omega) | (simp +contextual; done) | (clear hK; grind), ?_⟩)); refine hK _ ?_; clear K hK) | refine Tr.seq ?_ | refine Tr.skip ?_ | refine Tr.label ?_ | refine Tr.block ?_ | refine Tr.scope ?_ | refine gs1 ?_ | refine gs2 ?_ | refine gs3 ?_ | refine Tr.exit ?_ | refine Tr.goto ?_ | refine Tr.ret ?_ | refine n1 ?_ | refine n2 ?_ | refine n3 ?_ | refine n4 ?_ | refine n5 ?_ | refine n6 ?_ | refine n7 ?_ | refine n8 ?_ | refine n9 (by decide) ?_))
    simp only [RetQ, go_sem]
    have e : n.chk1 l = true := h1
    unfold Nd.rchk; rw [e]; rfl
  replace h1 : n.chk1 l = false := h1
  (repeat (first | ((first | refine r1 ?_ | refine r2 ?_ | refine r3 ?_); intro K hK; simp only [go_sem, hP, hn]; (repeat (refine ⟨by first | trivial | omega | (simp <;> omega) | (simp +contextual; done) | (clear hK; grind), ?_⟩)); refine hK _ ?_; clear K hK) | refine Tr.seq ?_ | refine Tr.skip ?_ | refine Tr.label ?_ | refine Tr.block ?_ | refine Tr.scope ?_ | refine gs1 ?_ | refine gs2 ?_ | refine gs3 ?_ | refine Tr.exit ?_ | refine Tr.goto ?_ | refine Tr.ret ?_ | refine n1 ?_ | refine n2 ?_ | refine n3 ?_ | refine n4 ?_ | refine n5 ?_ | refine n6 ?_ | refine n7 ?_ | refine n8 ?_ | refine n9 (by decide) ?_))
  (first | refine r1 ?_ | refine r2 ?_ | refine r3 ?_); intro K hK; simp only [go_sem, hP, hn]; (repeat (refine ⟨by first | trivial | omega | (simp <;> omega) | (simp +contextual; done) | (clear hK; grind), ?_⟩)); refine c1 (by rw [hP, hT]; exact in_r Tm n.k 1 12) rfl rfl rfl trivial (by simp only [go_sem, hP, hn]; try trivial) (by simp only [go_sem, hP, hn]; try rfl) (by rw [hn]; decide) (by rfl) ?_; simp only [go_sem, hP, hn]; (repeat (refine ⟨by first | trivial | omega | (simp <;> omega) | (simp +contextual; done) | (clear hK; grind), ?_⟩)); refine hK _ ?_; clear K hK
  (repeat (first | ((first | refine r1 ?_ | refine r2 ?_ | refine r3 ?_); intro K hK; simp only [go_sem, hP, hn]; (repeat (refine ⟨by first | trivial | omega | (simp <;> omega) | (simp +contextual; done) | (clear hK; grind), ?_⟩)); refine hK _ ?_; clear K hK) | refine Tr.seq ?_ | refine Tr.skip ?_ | refine Tr.label ?_ | refine Tr.block ?_ | refine Tr.scope ?_ | refine gs1 ?_ | refine gs2 ?_ | refine gs3 ?_ | refine Tr.exit ?_ | refine Tr.goto ?_ | refine Tr.ret ?_ | refine n1 ?_ | refine n2 ?_ | refine n3 ?_ | refine n4 ?_ | refine n5 ?_ | refine n6 ?_ | refine n7 ?_ | refine n8 ?_ | refine n9 (by decide) ?_))
  (first | refine r1 ?_ | refine r2 ?_ | refine r3 ?_); intro K hK; simp only [go_sem, hP, hn]; (repeat (refine ⟨by first | trivial | omega | (simp <;> omega) | (simp +contextual; done) | (clear hK; grind), ?_⟩)); refine c1 (by rw [hP, hT]; exact Many_r Tm n.k) rfl rfl rfl trivial (by simp only [go_sem, hP, hn]; try trivial) (by simp only [go_sem, hP, hn]; try rfl) (by rw [hn]; decide) (by rfl) ?_; simp only [go_sem, hP, hn]; (repeat (refine ⟨by first | trivial | omega | (simp <;> omega) | (simp +contextual; done) | (clear hK; grind), ?_⟩)); refine hK _ ?_; clear K hK
  (repeat (first | ((first | refine r1 ?_ | refine r2 ?_ | refine r3 ?_); intro K hK; simp only [go_sem, hP, hn]; (repeat (refine ⟨by first | trivial | omega | (simp <;> omega) | (simp +contextual; done) | (clear hK; grind), ?_⟩)); refine hK _ ?_; clear K hK) | refine Tr.seq ?_ | refine Tr.skip ?_ | refine Tr.label ?_ | refine Tr.block ?_ | refine Tr.scope ?_ | refine gs1 ?_ | refine gs2 ?_ | refine gs3 ?_ | refine Tr.exit ?_ | refine Tr.goto ?_ | refine Tr.ret ?_ | refine n1 ?_ | refine n2 ?_ | refine n3 ?_ | refine n4 ?_ | refine n5 ?_ | refine n6 ?_ | refine n7 ?_ | refine n8 ?_ | refine n9 (by decide) ?_))
  (first | refine r1 ?_ | refine r2 ?_ | refine r3 ?_); intro K hK; simp only [go_sem, hP, hn]; (repeat (refine ⟨by first | trivial | omega | (simp <;> omega) | (simp +contextual; done) | (clear hK; grind), ?_⟩)); refine c1 (by rw [hP, hT]; exact weighs_r Tm n.k) rfl rfl rfl trivial (by simp only [go_sem, hP, hn]; try trivial) (by simp only [go_sem, hP, hn]; try rfl) (by rw [hn]; decide) (by rfl) ?_; simp only [go_sem, hP, hn]; (repeat (refine ⟨by first | trivial | omega | (simp <;> omega) | (simp +contextual; done) | (clear hK; grind), ?_⟩)); refine hK _ ?_; clear K hK
  (repeat (first | ((first | refine r1 ?_ | refine r2 ?_ | refine r3 ?_); intro K hK; simp only [go_sem, hP, hn]; (repeat (refine ⟨by first | trivial | omega | (simp <;> omega) | (simp +contextual; done) | (clear hK; grind), ?_⟩)); refine hK _ ?_; clear K hK) | refine Tr.seq ?_ | refine Tr.skip ?_ | refine Tr.label ?_ | refine Tr.block ?_ | refine Tr.scope ?_ | refine gs1 ?_ | refine gs2 ?_ | refine gs3 ?_ | refine Tr.exit ?_ | refine Tr.goto ?_ | refine Tr.ret ?_ | refine n1 ?_ | refine n2 ?_ | refine n3 ?_ | refine n4 ?_ | refine n5 ?_ | refine n6 ?_ | refine n7 ?_ | refine n8 ?_ | refine n9 (by decide) ?_))
  refine Tr.cond rfl (fun h7 => ?_) (fun h7 => ?_)
  · (repeat (first | ((first | refine r1 ?_ | refine r2 ?_ | refine r3 ?_); intro K hK; simp only [go_sem, hP, hn]; (repeat (refine ⟨by first | trivial | omega | (simp <;> omega) | (simp +contextual; done) | (clear hK; grind), ?_⟩)); refine hK _ ?_; clear K hK) | refine Tr.seq ?_ | refine Tr.skip ?_ | refine Tr.label ?_ | refine Tr.block ?_ | refine Tr.scope ?_ | refine gs1 ?_ | refine gs2 ?_ | refine gs3 ?_ | refine Tr.exit ?_ | refine Tr.goto ?_ | refine Tr.ret ?_ | refine n1 ?_ | refine n2 ?_ | refine n3 ?_ | refine n4 ?_ | refine n5 ?_ | refine n6 ?_ | refine n7 ?_ | refine n8 ?_ | refine n9 (by decide) ?_))
    simp only [RetQ, go_sem]
    have e : n.r7 l = true := h7
    unfold Nd.rchk; rw [h1, e]; rfl
  replace h7 : n.r7 l = false := h7
  (repeat (first | ((first | refine r1 ?_ | refine r2 ?_ | refine r3 ?_); intro K hK; simp only [go_sem, hP, hn]; (repeat (refine ⟨by first | trivial | omega | (simp <;> omega) | (simp +contextual; done) | (clear hK; grind), ?_⟩)); refine hK _ ?_; clear K hK) | refine Tr.seq ?_ | refine Tr.skip ?_ | refine Tr.label ?_ | refine Tr.block ?_ | refine Tr.scope ?_ | refine gs1 ?_ | refine gs2 ?_ | refine gs3 ?_ | refine Tr.exit ?_ | refine Tr.goto ?_ | refine Tr.ret ?_ | refine n1 ?_ | refine n2 ?_ | refine n3 ?_ | refine n4 ?_ | refine n5 ?_ | refine n6 ?_ | refine n7 ?_ | refine n8 ?_ | refine n9 (by decide) ?_))
  refine Tr.cond rfl (fun h9 => ?_) (fun h9 => ?_)
  · (repeat (first | ((first | refine r1 ?_ | refine r2 ?_ | refine r3 ?_); intro K hK; simp only [go_sem, hP, hn]; (repeat (refine ⟨by first | trivial | omega | (simp <;> omega) | (simp +contextual; done) | (clear hK; grind), ?_⟩)); refine hK _ ?_; clear K hK) | refine Tr.seq ?_ | refine Tr.skip ?_ | refine Tr.label ?_ | refine Tr.block ?_ | refine Tr.scope ?_ | refine gs1 ?_ | refine gs2 ?_ | refine gs3 ?_ | refine Tr.exit ?_ | refine Tr.goto ?_ | refine Tr.ret ?_ | refine n1 ?_ | refine n2 ?_ | refine n3 ?_ | refine n4 ?_ | refine n5 ?_ | refine n6 ?_ | refine n7 ?_ | refine n8 ?_ | refine n9 (by decide) ?_))
    simp only [RetQ, go_sem]
    have e : n.r9 = true := h9
    unfold Nd.rchk; rw [h1, h7, e]; rfl
  replace h9 : n.r9 = false := h9
  (repeat (first | ((first | refine r1 ?_ | refine r2 ?_ | refine r3 ?_); intro K hK; simp only [go_sem, hP, hn]; (repeat (refine ⟨by first | trivial | omega | (simp <;> omega) | (simp +contextual; done) | (clear hK; grind), ?_⟩)); refine hK _ ?_; clear K hK) | refine Tr.seq ?_ | refine Tr.skip ?_ | refine Tr.label ?_ | refine Tr.block ?_ | refine Tr.scope ?_ | refine gs1 ?_ | refine gs2 ?_ | refine gs3 ?_ | refine Tr.exit ?_ | refine Tr.goto ?_ | refine Tr.ret ?_ | refine n1 ?_ | refine n2 ?_ | refine n3 ?_ | refine n4 ?_ | refine n5 ?_ | refine n6 ?_ | refine n7 ?_ | refine n8 ?_ | refine n9 (by decide) ?_))
  refine Tr.le (Le.keep [1, 2]) ?_; simp only [List.map_cons, List.map_nil, lk, Nat.reduceEqDiff, reduceIte]
  (first | refine r1 ?_ | refine r2 ?_ | refine r3 ?_); intro K hK; simp only [go_sem, hP, hn]; (repeat (refine ⟨by first | trivial | omega | (simp <;> omega) | (simp +contextual; done) | (clear hK; grind), ?_⟩)); refine c1 (by rw [hP, hT]; exact else0_r Tm n) rfl rfl rfl trivial (by simp only [go_sem, hP, hn]; try trivial) (by simp only [go_sem, hP, hn]; try rfl) (by rw [hn]; decide) (by rfl) ?_; simp only [go_sem, hP, hn]; (repeat (refine ⟨by first | trivial | omega | (simp <;> omega) | (simp +contextual; done) | (clear hK; grind), ?_⟩)); refine hK _ ?_; clear K hK
  (repeat (first | ((first | refine r1 ?_ | refine r2 ?_ | refine r3 ?_); intro K hK; simp only [go_sem, hP, hn]; (repeat (refine ⟨by first | trivial | omega | (simp <;> omega) | (simp +contextual; done) | (clear hK; grind), ?_⟩)); refine hK _ ?_; clear K hK) | refine Tr.seq ?_ | refine Tr.skip ?_ | refine Tr.label ?_ | refine Tr.block ?_ | refine Tr.scope ?_ | refine gs1 ?_ | refine gs2 ?_ | refine gs3 ?_ | refine Tr.exit ?_ | refine Tr.goto ?_ | refine Tr.ret ?_ | refine n1 ?_ | refine n2 ?_ | refine n3 ?_ | refine n4 ?_ | refine n5 ?_ | refine n6 ?_ | refine n7 ?_ | refine n8 ?_ | refine n9 (by decide) ?_))
  refine Tr.cond rfl (fun he => ?_) (fun he => ?_)
  · (repeat (first | ((first | refine r1 ?_ | refine r2 ?_ | refine r3 ?_); intro K hK; simp only [go_sem, hP, hn]; (repeat (refine ⟨by first | trivial | omega | (simp <;> omega) | (simp +contextual; done) | (clear hK; grind), ?_⟩)); refine hK _ ?_; clear K hK) | refine Tr.seq ?_ | refine Tr.skip ?_ | refine Tr.label ?_ | refine Tr.block ?_ | refine Tr.scope ?_ | refine gs1 ?_ | refine gs2 ?_ | refine gs3 ?_ | refine Tr.exit ?_ | refine Tr.goto ?_ | refine Tr.ret ?_ | refine n1 ?_ | refine n2 ?_ | refine n3 ?_ | refine n4 ?_ | refine n5 ?_ | refine n6 ?_ | refine n7 ?_ | refine n8 ?_ | refine n9 (by decide) ?_))
    simp only [RetQ, go_sem]
    unfold Nd.rchk; rw [h1, h7, h9, he]; rfl
  have hne : 0 < l.length := List.length_pos_iff.2 fun e => by subst e; rw [Nd.r7_nil] at h7; cases h7
  (repeat (first | ((first | refine r1 ?_ | refine r2 ?_ | refine r3 ?_); intro K hK; simp only [go_sem, hP, hn]; (repeat (refine ⟨by first | trivial | omega | (simp <;> omega) | (simp +contextual; done) | (clear hK; grind), ?_⟩)); refine hK _ ?_; clear K hK) | refine Tr.seq ?_ | refine Tr.skip ?_ | refine Tr.label ?_ | refine Tr.block ?_ | refine Tr.scope ?_ | refine gs1 ?_ | refine gs2 ?_ | refine gs3 ?_ | refine Tr.exit ?_ | refine Tr.goto ?_ | refine Tr.ret ?_ | refine n1 ?_ | refine n2 ?_ | refine n3 ?_ | refine n4 ?_ | refine n5 ?_ | refine n6 ?_ | refine n7 ?_ | refine n8 ?_ | refine n9 (by decide) ?_))
  (first | refine d1 (.p true 0 (.p true 1 (.p true 2 (.p true 3 (.alt 4 (.p false 5 .nil) .nil))))) [] (by rw [hP]; kernel_rfl) (by kernel_rfl) (by simp only [go_sem, hP, hn]; try simp) (fun _ _ h => h) fun K hK => ?_ | refine d2 (.p true 0 (.p true 1 (.p true 2 (.p true 3 (.alt 4 (.p false 5 .nil) .nil))))) [] (by rw [hP]; kernel_rfl) (by kernel_rfl) (by simp only [go_sem, hP, hn]; try simp) (fun _ _ h => h) fun K hK => ?_ | refine d4 (.p true 0 (.p true 1 (.p true 2 (.p true 3 (.alt 4 (.p false 5 .nil) .nil))))) [] (by rw [hP]; kernel_rfl) (by kernel_rfl) (by simp only [go_sem, hP, hn]; try simp) (fun _ _ h => h) fun K hK => ?_); simp only [go_sem, hP, hn]; (repeat (refine ⟨by first | trivial | omega | (simp <;> omega) | (simp +contextual; done) | (clear hK; grind), ?_⟩)); refine p1 (by rw [hP, hT]; exact sized_r Tm n (rd l 0) hw hs) rfl rfl rfl trivial (by simp only [go_sem, hP, hn]; try trivial) (by simp only [go_sem, hP, hn]; try rfl) (by rw [hn]; decide) (by rfl) ?_; simp only [go_sem, hP, hn]; (repeat (refine ⟨by first | trivial | omega | (simp <;> omega) | (simp +contextual; done) | (clear hK; grind), ?_⟩)); refine hK _ ?_; clear K hK
  (repeat (first | ((first | refine r1 ?_ | refine r2 ?_ | refine r3 ?_); intro K hK; simp only [go_sem, hP, hn]; (repeat (refine ⟨by first | trivial | omega | (simp <;> omega) | (simp +contextual; done) | (clear hK; grind), ?_⟩)); refine hK _ ?_; clear K hK) | refine Tr.seq ?_ | refine Tr.skip ?_ | refine Tr.label ?_ | refine Tr.block ?_ | refine Tr.scope ?_ | refine gs1 ?_ | refine gs2 ?_ | refine gs3 ?_ | refine Tr.exit ?_ | refine Tr.goto ?_ | refine Tr.ret ?_ | refine n1 ?_ | refine n2 ?_ | refine n3 ?_ | refine n4 ?_ | refine n5 ?_ | refine n6 ?_ | refine n7 ?_ | refine n8 ?_ | refine n9 (by decide) ?_))
  refine Tr.cond rfl (fun hz => ?_) (fun hz => ?_)
  · (repeat (first | ((first | refine r1 ?_ | refine r2 ?_ | refine r3 ?_); intro K hK; simp only [go_sem, hP, hn]; (repeat (refine ⟨by first | trivial | omega | (simp <;> omega) | (simp +contextual; done) | (clear hK; grind), ?_⟩)); refine hK _ ?_; clear K hK) | refine Tr.seq ?_ | refine Tr.skip ?_ | refine Tr.label ?_ | refine Tr.block ?_ | refine Tr.scope ?_ | refine gs1 ?_ | refine gs2 ?_ | refine gs3 ?_ | refine Tr.exit ?_ | refine Tr.goto ?_ | refine Tr.ret ?_ | refine n1 ?_ | refine n2 ?_ | refine n3 ?_ | refine n4 ?_ | refine n5 ?_ | refine n6 ?_ | refine n7 ?_ | refine n8 ?_ | refine n9 (by decide) ?_))
    simp only [RetQ, go_sem]
    unfold Nd.rchk; rw [h1, h7, h9, he, hz]; rfl
  (repeat (first | ((first | refine r1 ?_ | refine r2 ?_ | refine r3 ?_); intro K hK; simp only [go_sem, hP, hn]; (repeat (refine ⟨by first | trivial | omega | (simp <;> omega) | (simp +contextual; done) | (clear hK; grind), ?_⟩)); refine hK _ ?_; clear K hK) | refine Tr.seq ?_ | refine Tr.skip ?_ | refine Tr.label ?_ | refine Tr.block ?_ | refine Tr.scope ?_ | refine gs1 ?_ | refine gs2 ?_ | refine gs3 ?_ | refine Tr.exit ?_ | refine Tr.goto ?_ | refine Tr.ret ?_ | refine n1 ?_ | refine n2 ?_ | refine n3 ?_ | refine n4 ?_ | refine n5 ?_ | refine n6 ?_ | refine n7 ?_ | refine n8 ?_ | refine n9 (by decide) ?_))
  have e0 : n.rchk l = n.chkL (rd l 0) 0 l := by unfold Nd.rchk; rw [h1, h7, h9, he, hz]; rfl
  refine Tr.loop (fun m s => ∃ j s0 : Int, s = ⟨[(12, .d (.i .i64 j)), (1, .d (.row [.i .i64 0] (l.map intC))), (11, .d (.i .i64 s0)), (2, .ptr 2 0)], [(2, .box 27 n.cs)]⟩ ∧ 0 ≤ j ∧ j + m = l.length ∧ n.rchk l = n.chkL (rd l 0) s0 (l.drop j.toNat)) l.length ⟨_, (Le.mv (by simp only [go_sem, hP, hn]; first | done | (simp; done) | (simp [intC]; done) | (repeat (first | rfl | constructor))) (by simp only [go_sem, hP, hn]; first | done | (simp; done) | (simp [intC]; done) | (repeat (first | rfl | constructor)))), 0, 0, rfl, by omega, by omega, by simpa using e0⟩ ?_
  rintro m s ⟨j, s0, rfl, h0, hm, hc⟩
  (repeat (first | ((first | refine r1 ?_ | refine r2 ?_ | refine r3 ?_); intro K hK; simp only [go_sem, hP, hn]; (repeat (refine ⟨by first | trivial | omega | (simp <;> omega) | (simp +contextual; done) | (clear hK; grind), ?_⟩)); refine hK _ ?_; clear K hK) | refine Tr.seq ?_ | refine Tr.skip ?_ | refine Tr.label ?_ | refine Tr.block ?_ | refine Tr.scope ?_ | refine gs1 ?_ | refine gs2 ?_ | refine gs3 ?_ | refine Tr.exit ?_ | refine Tr.goto ?_ | refine Tr.ret ?_ | refine n1 ?_ | refine n2 ?_ | refine n3 ?_ | refine n4 ?_ | refine n5 ?_ | refine n6 ?_ | refine n7 ?_ | refine n8 ?_ | refine n9 (by decide) ?_))
  refine Tr.cond rfl (fun hb => ?_) (fun hb => ?_)
  · have hj : j < l.length := by simpa using hb
    rw [drop_rd h0 hj] at hc
    (repeat (first | ((first | refine r1 ?_ | refine r2 ?_ | refine r3 ?_); intro K hK; simp only [go_sem, hP, hn]; (repeat (refine ⟨by first | trivial | omega | (simp <;> omega) | (simp +contextual; done) | (clear hK; grind), ?_⟩)); refine hK _ ?_; clear K hK) | refine Tr.seq ?_ | refine Tr.skip ?_ | refine Tr.label ?_ | refine Tr.block ?_ | refine Tr.scope ?_ | refine gs1 ?_ | refine gs2 ?_ | refine gs3 ?_ | refine Tr.exit ?_ | refine Tr.goto ?_ | refine Tr.ret ?_ | refine n1 ?_ | refine n2 ?_ | refine n3 ?_ | refine n4 ?_ | refine n5 ?_ | refine n6 ?_ | refine n7 ?_ | refine n8 ?_ | refine n9 (by decide) ?_))
    (first | refine d1 (.p true 0 (.p true 1 (.p true 2 (.p true 3 (.p true 4 (.p true 5 (.p true 6 (.p true 7 (.p true 8 (.p true 9 (.p true 10 (.p true 11 (.p true 12 .nil))))))))))))) [] (by rw [hP]; kernel_rfl) (by kernel_rfl) (by simp only [go_sem, hP, hn]; try simp) (fun _ _ h => h) fun K hK => ?_ | refine d2 (.p true 0 (.p true 1 (.p true 2 (.p true 3 (.p true 4 (.p true 5 (.p true 6 (.p true 7 (.p true 8 (.p true 9 (.p true 10 (.p true 11 (.p true 12 .nil))))))))))))) [] (by rw [hP]; kernel_rfl) (by kernel_rfl) (by simp only [go_sem, hP, hn]; try simp) (fun _ _ h => h) fun K hK => ?_ | refine d4 (.p true 0 (.p true 1 (.p true 2 (.p true 3 (.p true 4 (.p true 5 (.p true 6 (.p true 7 (.p true 8 (.p true 9 (.p true 10 (.p true 11 (.p true 12 .nil))))))))))))) [] (by rw [hP]; kernel_rfl) (by kernel_rfl) (by simp only [go_sem, hP, hn]; try simp) (fun _ _ h => h) fun K hK => ?_); simp only [go_sem, hP, hn]; (repeat (refine ⟨by first | trivial | omega | (simp <;> omega) | (simp +contextual; done) | (clear hK; grind), ?_⟩)); refine hK _ ?_; clear K hK
    refine Tr.cond rfl (fun hd => ?_) (fun hd => ?_)
    · (repeat (first | ((first | refine r1 ?_ | refine r2 ?_ | refine r3 ?_); intro K hK; simp only [go_sem, hP, hn]; (repeat (refine ⟨by first | trivial | omega | (simp <;> omega) | (simp +contextual; done) | (clear hK; grind), ?_⟩)); refine hK _ ?_; clear K hK) | refine Tr.seq ?_ | refine Tr.skip ?_ | refine Tr.label ?_ | refine Tr.block ?_ | refine Tr.scope ?_ | refine gs1 ?_ | refine gs2 ?_ | refine gs3 ?_ | refine Tr.exit ?_ | refine Tr.goto ?_ | refine Tr.ret ?_ | refine n1 ?_ | refine n2 ?_ | refine n3 ?_ | refine n4 ?_ | refine n5 ?_ | refine n6 ?_ | refine n7 ?_ | refine n8 ?_ | refine n9 (by decide) ?_))
      simp only [RetQ, go_sem]
      rw [hc]; unfold Nd.chkL; rw [if_pos hd]
    · (repeat (first | ((first | refine r1 ?_ | refine r2 ?_ | refine r3 ?_); intro K hK; simp only [go_sem, hP, hn]; (repeat (refine ⟨by first | trivial | omega | (simp <;> omega) | (simp +contextual; done) | (clear hK; grind), ?_⟩)); refine hK _ ?_; clear K hK) | refine Tr.seq ?_ | refine Tr.skip ?_ | refine Tr.label ?_ | refine Tr.block ?_ | refine Tr.scope ?_ | refine gs1 ?_ | refine gs2 ?_ | refine gs3 ?_ | refine Tr.exit ?_ | refine Tr.goto ?_ | refine Tr.ret ?_ | refine n1 ?_ | refine n2 ?_ | refine n3 ?_ | refine n4 ?_ | refine n5 ?_ | refine n6 ?_ | refine n7 ?_ | refine n8 ?_ | refine n9 (by decide) ?_))
      rw [w64 (x := j + 1) (by omega) (by omega)]
      refine ⟨m - 1, _, by omega, ?_, j + 1, wrap64 (s0 + rd l j), rfl, by omega, by omega, ?_⟩
      · exact (Le.mv (by simp only [go_sem, hP, hn]; first | done | (simp; done) | (simp [intC]; done) | (repeat (first | rfl | constructor))) (by simp only [go_sem, hP, hn]; first | done | (simp; done) | (simp [intC]; done) | (repeat (first | rfl | constructor))))
      rw [hc, show (j + 1).toNat = j.toNat + 1 by omega]; conv => lhs; unfold Nd.chkL
      rw [if_neg (by rw [hd]; decide)]
  · rw [drop_end (by simpa using hb)] at hc
    (repeat (first | ((first | refine r1 ?_ | refine r2 ?_ | refine r3 ?_); intro K hK; simp only [go_sem, hP, hn]; (repeat (refine ⟨by first | trivial | omega | (simp <;> omega) | (simp +contextual; done) | (clear hK; grind), ?_⟩)); refine hK _ ?_; clear K hK) | refine Tr.seq ?_ | refine Tr.skip ?_ | refine Tr.label ?_ | refine Tr.block ?_ | refine Tr.scope ?_ | refine gs1 ?_ | refine gs2 ?_ | refine gs3 ?_ | refine Tr.exit ?_ | refine Tr.goto ?_ | refine Tr.ret ?_ | refine n1 ?_ | refine n2 ?_ | refine n3 ?_ | refine n4 ?_ | refine n5 ?_ | refine n6 ?_ | refine n7 ?_ | refine n8 ?_ | refine n9 (by decide) ?_))
    refine Tr.cond rfl (fun hd => ?_) (fun hd => ?_)
    · (repeat (first | ((first | refine r1 ?_ | refine r2 ?_ | refine r3 ?_); intro K hK; simp only [go_sem, hP, hn]; (repeat (refine ⟨by first | trivial | omega | (simp <;> omega) | (simp +contextual; done) | (clear hK; grind), ?_⟩)); refine hK _ ?_; clear K hK) | refine Tr.seq ?_ | refine Tr.skip ?_ | refine Tr.label ?_ | refine Tr.block ?_ | refine Tr.scope ?_ | refine gs1 ?_ | refine gs2 ?_ | refine gs3 ?_ | refine Tr.exit ?_ | refine Tr.goto ?_ | refine Tr.ret ?_ | refine n1 ?_ | refine n2 ?_ | refine n3 ?_ | refine n4 ?_ | refine n5 ?_ | refine n6 ?_ | refine n7 ?_ | refine n8 ?_ | refine n9 (by decide) ?_))
      simp only [RetQ, go_sem]
      rw [hc]; unfold Nd.chkL; rw [if_pos hd]
    · (repeat (first | ((first | refine r1 ?_ | refine r2 ?_ | refine r3 ?_); intro K hK; simp only [go_sem, hP, hn]; (repeat (refine ⟨by first | trivial | omega | (simp <;> omega) | (simp +contextual; done) | (clear hK; grind), ?_⟩)); refine hK _ ?_; clear K hK) | refine Tr.seq ?_ | refine Tr.skip ?_ | refine Tr.label ?_ | refine Tr.block ?_ | refine Tr.scope ?_ | refine gs1 ?_ | refine gs2 ?_ | refine gs3 ?_ | refine Tr.exit ?_ | refine Tr.goto ?_ | refine Tr.ret ?_ | refine n1 ?_ | refine n2 ?_ | refine n3 ?_ | refine n4 ?_ | refine n5 ?_ | refine n6 ?_ | refine n7 ?_ | refine n8 ?_ | refine n9 (by decide) ?_))
      simp only [RetQ, go_sem]
      rw [hc]; unfold Nd.chkL; rw [if_neg (by rw [hd]; decide)]


section
def Z8 : List S := [.d (.i .i64 0), .d .nil, .d (.i .i64 0), .d (.i .i64 0), .d (.i .i64 0), .d (.i .i64 0), .d (.i .i64 0), .d (.i .i64 0), .d .nil, .d .nil, .d (.i .i64 0), .d (.i .i64 0), .d (.i .i64 0), .d (.i .i64 0), .d (.i .i64 0)]
attribute [local go_sem] Z8 intC
end

section
def turnN (N : Int) (n : Nd) : Nd := { n with inn := n.inn.map fun x => if 0 < x then N + 1 - x else x }
attribute [local go_sem] turnN
end
/-- what ref15.Made makes -/
structure GM (wd lo hi out : Int) (ns : List Nd) : Prop where
  wd0 : 1 ≤ wd ∧ wd ≤ 3
  lo0 : -199 ≤ lo ∧ lo ≤ 0
  hi0 : 0 ≤ hi ∧ hi ≤ 199
  n0 : 1 ≤ ns.length ∧ ns.length ≤ 6
  out0 : 1 ≤ out ∧ out ≤ ns.length
  made : ∃ ns0 W R, MadeL wd ns0 W R ∧ (ns = ns0 ∨ ns = (ns0.map (turnN ns0.length)).reverse)
def PMade (r : S) (H : Hp) : Prop := ∃ wd lo hi out ns, r = .agg (gcs wd lo hi out (.own 2000)) ∧ H = [(2000, .row 27 e0N (ns.map Nd.ds))] ∧ GM wd lo hi out ns
section
def nB (j : Int) : Nd := ⟨11, [j], 0, 0, 0, 0, 0, 0, [], [], 0, 0, 0, 0, 0⟩
attribute [local go_sem] nB
end
end Go.Proofs.YtgijboakaodcgaaDoor.Aw
namespace Go.Proofs.YtgijboakaodcgaaDoor.Aw
open Go.RowKit
/-! the plain law of graphs that ref15.Made makes -/
theorem turnN_len (N : Int) (n : Nd) : (turnN N n).inn.length = n.inn.length := by simp [turnN]
theorem MadeL.wsl {wd : Int} {ns : List Nd} {W R : List Int} (h : MadeL wd ns W R) : ∀ n ∈ ns, n.ws.length ≤ 4096 ∧ n.bs.length ≤ 4096 := by
  induction h with
  | base => intro n hn; simp at hn
  | step hM hs ih =>
    intro n hn
    rcases List.mem_append.1 hn with hn | hn
    · exact ih n hn
    · simp at hn; subst hn; exact ⟨hs.wl, hs.bl⟩
theorem GM.inn {wd lo hi out : Int} {ns : List Nd} (h : GM wd lo hi out ns) : ∀ n ∈ ns, (n.inn.length ≤ 2 ∧ ∀ j ∈ n.inn, 0 ≤ j ∧ j ≤ ns.length) ∧ n.ws.length ≤ 4096 ∧ n.bs.length ≤ 4096 := by
  obtain ⟨ns0, W, R, hM, e⟩ := h.made
  rcases e with rfl | rfl
  · exact fun n hn => ⟨hM.inn n hn, hM.wsl n hn⟩
  · intro n hn
    simp only [List.mem_reverse, List.mem_map] at hn
    obtain ⟨n0, h0, rfl⟩ := hn
    have h1 := hM.inn n0 h0
    have h2 := hM.wsl n0 h0
    refine ⟨⟨by rw [turnN_len]; exact h1.1, fun j hj => ?_⟩, h2⟩
    simp only [turnN, List.mem_map] at hj
    obtain ⟨x, hx, rfl⟩ := hj
    have := h1.2 x hx
    simp only [List.length_reverse, List.length_map]
    split <;> omega
theorem nodup_len : ∀ (N : Nat) (l : List Int), l.Nodup → (∀ x ∈ l, 1 ≤ x ∧ x ≤ N) → l.length ≤ N
  | 0, l, _, h => by
    cases l with
    | nil => simp
    | cons x r => have := h x (by simp); omega
  | N + 1, l, hn, h => by
    by_cases hm : ((N : Int) + 1) ∈ l
    · have h1 := nodup_len N (l.erase ((N : Int) + 1)) (hn.erase _) (fun x hx => by
        have h2 := (hn.mem_erase_iff).1 hx
        have := h x h2.2
        omega)
      rw [List.length_erase_of_mem hm] at h1
      omega
    · have := nodup_len N l hn fun x hx => by
        have h2 := h x hx
        have : x ≠ (N : Int) + 1 := fun e => hm (e ▸ hx)
        omega
      omega
theorem all_len : ∀ (N : Nat) (l : List Int), (∀ x : Int, 1 ≤ x → x ≤ N → x ∈ l) → N ≤ l.length
  | 0, _, _ => Nat.zero_le _
  | N + 1, l, h => by
    have hm : ((N : Int) + 1) ∈ l := h _ (by omega) (by omega)
    have h1 := all_len N (l.erase ((N : Int) + 1)) fun x h0 h1 => (List.mem_erase_of_ne (by omega)).2 (h x h0 (by omega))
    rw [List.length_erase_of_mem hm] at h1
    have := List.length_pos_of_mem hm
    omega
theorem ordR_inv {ns : List Nd} (P : List Int → Prop) (step : ∀ (o : List Int) (i : Int), P o → 1 ≤ i → i ≤ ns.length → mayO ns o i = true → (∀ x : Int, 1 ≤ x → x ≤ ns.length → mayO ns o x = true → i ≤ x) → P (o ++ [i])) : ∀ (k : Nat) (o : List Int), P o → P (ordR ns k o)
  | 0, o, h => h
  | k + 1, o, h => by
    unfold ordR
    split
    · exact ordR_inv P step k o h
    · rename_i i hi
      have h1 := nextO_range hi
      exact ordR_inv P step k _ (step o i h (by omega) (by omega) h1.2.2 fun x h2 h3 h4 => by
        have key : ∀ (m : Nat) (l : Int), nextO ns o m l = some i → l ≤ x → i ≤ x := by
          intro m
          induction m with
          | zero => intro l e _; cases e
          | succ m ih =>
            intro l e hl
            unfold nextO at e
            split at e
            · cases e; exact hl
            · rename_i hn
              refine ih (l + 1) e ?_
              rcases Int.lt_or_le l x with h5 | h5
              · omega
              · obtain rfl : l = x := by omega
                exact absurd h4 hn
        exact key _ _ hi h2)
theorem mayO_iff {ns : List Nd} {o : List Int} {i : Int} : mayO ns o i = true ↔ i ∉ o ∧ ∀ j ∈ (nd ns (i - 1)).inn, j = 0 ∨ j ∈ o := by
  unfold mayO
  simp only [Bool.and_eq_true, Bool.not_eq_true', List.all_eq_true, Bool.or_eq_true, beq_iff_eq, List.contains_iff_mem]
  constructor
  · exact fun ⟨h1, h2⟩ => ⟨by simpa using h1, h2⟩
  · exact fun ⟨h1, h2⟩ => ⟨by simpa using h1, h2⟩
theorem order_nodup (ns : List Nd) : (order ns).Nodup := ordR_inv (fun o => o.Nodup) (fun o i h _ _ hm _ => by
  rw [List.nodup_append]
  refine ⟨h, by simp, fun a ha b hb => ?_⟩
  simp at hb; subst hb
  exact fun e => (mayO_iff.1 hm).1 (e ▸ ha)) ns.length [] (by simp)
/-- a ring of nodes -/
def ring (N kk : Int) : Nat → List Nd
  | 0 => []
  | t + 1 => ring N kk t ++ [nB (if (t : Int) = kk - 1 then N + 1 else N + 1 + t + 1)]
/-! graphs that ref15.Made makes are right: their order is whole, and what is told goes along it -/
structure NodeG (N : Int) (n : Nd) (W R : Int → Int) (rk : Int → Nat) (i : Int) : Prop where
  l1 : 1 ≤ n.inn.length
  l2 : n.inn.length ≤ 2
  inn : ∀ j ∈ n.inn, 0 ≤ j ∧ j ≤ N ∧ rk j < rk i
  chk : n.rchk (n.inn.map W) = 0
  wd : W i = n.rwide (n.inn.map W)
  rt : R i = n.rate (n.inn.map R)
  same : ∀ j ∈ n.inn, ∀ j' ∈ n.inn, R j = R j'
  still : ∀ j ∈ n.inn, R j = 0 → rWin n.k = false ∧ n.k ≠ 5
  wl : n.ws.length ≤ 4096
  bl : n.bs.length ≤ 4096
  st0 : 1 ≤ n.rStp
  st1 : n.rStp ≤ 3
  sp0 : 1 ≤ n.rSpan
  sp1 : n.rSpan ≤ 10
  post : n.post = 0
structure GG (wd : Int) (ns : List Nd) (W R : Int → Int) (rk : Int → Nat) : Prop where
  W0 : W 0 = wd
  R0 : R 0 = 1
  k0 : rk 0 = 0
  node : ∀ i : Int, 1 ≤ i → i ≤ ns.length → NodeG ns.length (nd ns (i - 1)) W R rk i ∧ rk i ≤ ns.length
theorem NodeG.congr {N N' : Int} {n : Nd} {W R W' R' : Int → Int} {rk : Int → Nat} {i : Int} (h : NodeG N n W R rk i) (hN : N ≤ N') (hi : W' i = W i ∧ R' i = R i) (hj : ∀ j ∈ n.inn, W' j = W j ∧ R' j = R j) : NodeG N' n W' R' rk i := by
  have e1 : n.inn.map W' = n.inn.map W := List.map_congr_left fun j h => (hj j h).1
  have e2 : n.inn.map R' = n.inn.map R := List.map_congr_left fun j h => (hj j h).2
  exact ⟨h.l1, h.l2, fun j hm => by have := h.inn j hm; omega, by rw [e1]; exact h.chk, by rw [e1, hi.1]; exact h.wd, by rw [e2, hi.2]; exact h.rt,
    fun j hm j' hm' => by rw [(hj j hm).2, (hj j' hm').2]; exact h.same j hm j' hm', fun j hm => by rw [(hj j hm).2]; exact h.still j hm, h.wl, h.bl, h.st0, h.st1, h.sp0, h.sp1, h.post⟩
theorem rd_app {l : List Int} {x j : Int} (h0 : 0 ≤ j) (h1 : j < l.length) : rd (l ++ [x]) j = rd l j := by
  unfold rd
  rw [List.getD_eq_getElem?_getD, List.getD_eq_getElem?_getD, List.getElem?_append_left (by omega)]
theorem rd_last (l : List Int) (x : Int) : rd (l ++ [x]) l.length = x := by
  unfold rd
  simp [List.getD_eq_getElem?_getD]
theorem nd_app {l : List Nd} {x : Nd} {j : Int} (h1 : j.toNat < l.length) : nd (l ++ [x]) j = nd l j := by
  unfold nd
  rw [List.getD_eq_getElem?_getD, List.getD_eq_getElem?_getD, List.getElem?_append_left h1]
theorem nd_last (l : List Nd) (x : Nd) : nd (l ++ [x]) l.length = x := by
  unfold nd
  simp [List.getD_eq_getElem?_getD]
theorem MadeL.gg {wd : Int} {ns : List Nd} {W R : List Int} (h : MadeL wd ns W R) : GG wd ns (rd W) (rd R) Int.toNat := by
  induction h with
  | base => exact ⟨rfl, rfl, rfl, fun i h0 h1 => by simp at h1; omega⟩
  | @step ns W R n w r hM hs ih =>
    have hl := hM.len
    refine ⟨by rw [rd_app (by omega) (by omega)]; exact ih.W0, by rw [rd_app (by omega) (by omega)]; exact ih.R0, rfl, fun i h0 h1 => ?_⟩
    rw [List.length_append, List.length_singleton] at h1 ⊢
    refine ⟨?_, by omega⟩
    rcases Int.lt_or_le (ns.length : Int) i with hlt | hle
    · obtain rfl : i = ns.length + 1 := by omega
      rw [show ((ns.length : Int) + 1 - 1) = ns.length by omega, nd_last]
      have hW : ∀ j ∈ n.inn, rd (W ++ [w]) j = rd W j ∧ rd (R ++ [r]) j = rd R j := fun j hj => by
        have := hs.inn j hj
        exact ⟨rd_app (by omega) (by omega), rd_app (by omega) (by omega)⟩
      have hwi : rd (W ++ [w]) ((ns.length : Int) + 1) = w := by rw [show ((ns.length : Int) + 1) = W.length by omega, rd_last]
      have hri : rd (R ++ [r]) ((ns.length : Int) + 1) = r := by rw [show ((ns.length : Int) + 1) = R.length by omega, rd_last]
      have h0m : rd n.inn 0 ∈ n.inn := rd_mem (by omega) (by have := hs.l1; omega)
      have e1 : n.inn.map (rd (W ++ [w])) = n.inn.map (rd W) := List.map_congr_left fun j h => (hW j h).1
      have e2 : n.inn.map (rd (R ++ [r])) = n.inn.map (rd R) := List.map_congr_left fun j h => (hW j h).2
      exact ⟨hs.l1, hs.l2, fun j hj => by have := hs.inn j hj; omega, by rw [e1]; exact hs.chk, by rw [hwi, e1]; exact hs.wd, by rw [hri, e2]; exact hs.rt,
        fun j hj j' hj' => by rw [(hW j hj).2, (hW j' hj').2, hs.same j hj, hs.same j' hj'], fun j hj => by rw [(hW j hj).2, hs.same j hj]; exact hs.still, hs.wl, hs.bl, hs.st0, hs.st1, hs.sp0, hs.sp1, hs.post⟩
    · rw [nd_app (by omega)]
      have hn := (ih.node i h0 hle).1
      exact hn.congr (by omega) ⟨rd_app (by omega) (by omega), rd_app (by omega) (by omega)⟩ fun j hj => by
        have := hn.inn j hj
        exact ⟨rd_app (by omega) (by omega), rd_app (by omega) (by omega)⟩
section
variable {n : Nd} {X : List Int}
theorem chkL_inn : ∀ (l : List Int) (v s : Int), ({ n with inn := X } : Nd).chkL v s l = n.chkL v s l
  | [], v, s => by unfold Nd.chkL; rfl
  | x :: l, v, s => by
    unfold Nd.chkL
    rw [chkL_inn l]
theorem rchk_inn (h : X.length = n.inn.length) (l : List Int) : ({ n with inn := X } : Nd).rchk l = n.rchk l := by
  unfold Nd.rchk
  rw [show ({ n with inn := X } : Nd).chk1 l = n.chk1 l by unfold Nd.chk1; rw [h], chkL_inn]
  rfl
theorem rwide_inn (h : X.length = n.inn.length) (l : List Int) : ({ n with inn := X } : Nd).rwide l = n.rwide l := by
  unfold Nd.rwide
  rw [rchk_inn h]
theorem rate_inn (l : List Int) : ({ n with inn := X } : Nd).rate l = n.rate l := rfl
end
/-- nodes get other numbers -/
theorem GG.ren {wd : Int} {ns : List Nd} {W R : Int → Int} {rk : Int → Nat} (h : GG wd ns W R rk) (ns' : List Nd) (σ τ : Int → Int) (hl : ns'.length = ns.length) (h0 : τ 0 = 0) (hσ : ∀ j : Int, 0 ≤ j → j ≤ ns.length → 0 ≤ σ j ∧ σ j ≤ ns.length ∧ τ (σ j) = j)
    (hτ : ∀ i : Int, 1 ≤ i → i ≤ ns.length → 1 ≤ τ i ∧ τ i ≤ ns.length) (hn : ∀ i : Int, 1 ≤ i → i ≤ ns.length → nd ns' (i - 1) = { nd ns (τ i - 1) with inn := (nd ns (τ i - 1)).inn.map σ }) : GG wd ns' (fun i => W (τ i)) (fun i => R (τ i)) (fun i => rk (τ i)) := by
  refine ⟨by rw [h0]; exact h.W0, by rw [h0]; exact h.R0, by rw [h0]; exact h.k0, fun i i1 i2 => ?_⟩
  rw [hl] at i2 ⊢
  obtain ⟨hm, hk⟩ := h.node (τ i) (hτ i i1 i2).1 (hτ i i1 i2).2
  refine ⟨?_, hk⟩
  rw [hn i i1 i2]
  generalize nd ns (τ i - 1) = n at hm ⊢
  have hj : ∀ j ∈ n.inn, τ (σ j) = j := fun j hj => by have := hm.inn j hj; exact (hσ j (by omega) (by omega)).2.2
  have e1 : (n.inn.map σ).map (fun i => W (τ i)) = n.inn.map W := by rw [List.map_map]; exact List.map_congr_left fun j h => by simp only [Function.comp, hj j h]
  have e2 : (n.inn.map σ).map (fun i => R (τ i)) = n.inn.map R := by rw [List.map_map]; exact List.map_congr_left fun j h => by simp only [Function.comp, hj j h]
  have hX : (n.inn.map σ).length = n.inn.length := by simp
  refine ⟨by simpa using hm.l1, by simpa using hm.l2, ?_, ?_, ?_, ?_, ?_, ?_, hm.wl, hm.bl, hm.st0, hm.st1, hm.sp0, hm.sp1, hm.post⟩
  · intro j' hj'
    simp only [List.mem_map] at hj'
    obtain ⟨j, hjm, rfl⟩ := hj'
    have h1 := hm.inn j hjm
    have h2 := hσ j (by omega) (by omega)
    exact ⟨h2.1, h2.2.1, by rw [h2.2.2]; exact h1.2.2⟩
  · rw [rchk_inn hX, e1]; exact hm.chk
  · rw [rwide_inn hX, e1]; exact hm.wd
  · rw [rate_inn, e2]; exact hm.rt
  · intro j1 h1 j2 h2
    simp only [List.mem_map] at h1 h2
    obtain ⟨j1, h1, rfl⟩ := h1
    obtain ⟨j2, h2, rfl⟩ := h2
    rw [hj j1 h1, hj j2 h2]
    exact hm.same j1 h1 j2 h2
  · intro j1 h1
    simp only [List.mem_map] at h1
    obtain ⟨j1, h1, rfl⟩ := h1
    rw [hj j1 h1]
    exact hm.still j1 h1
theorem nd_rev {ns : List Nd} {f : Nd → Nd} {i : Int} (h1 : 1 ≤ i) (h2 : i ≤ ns.length) : nd (ns.map f).reverse (i - 1) = f (nd ns (ns.length - i)) := by
  have a1 : (i - 1).toNat < ((ns.map f).reverse).length := by simp; omega
  have a2 : ((ns.length : Int) - i).toNat < ns.length := by omega
  unfold nd
  rw [List.getD_eq_getElem?_getD, List.getElem?_eq_getElem a1, List.getD_eq_getElem?_getD, List.getElem?_eq_getElem a2]
  simp only [Option.getD_some, List.getElem_reverse, List.getElem_map, List.length_map]
  congr 2
  omega
theorem GM.gg {wd lo hi out : Int} {ns : List Nd} (h : GM wd lo hi out ns) : ∃ W R rk, GG wd ns W R rk := by
  obtain ⟨ns0, W, R, hM, e⟩ := h.made
  rcases e with rfl | rfl
  · exact ⟨_, _, _, hM.gg⟩
  · have hlen : (ns0.map (turnN ns0.length)).reverse.length = ns0.length := by simp
    refine ⟨_, _, _, hM.gg.ren _ (fun x => if 0 < x then (ns0.length : Int) + 1 - x else x) (fun x => if 0 < x then (ns0.length : Int) + 1 - x else x) hlen rfl (fun j j0 j1 => ?_) (fun i i1 i2 => ?_) (fun i i1 i2 => ?_)⟩
    · by_cases hj : 0 < j
      · simp only [if_pos hj]
        rw [if_pos (by omega)]
        omega
      · simp only [if_neg hj]
        exact ⟨j0, j1, by first | rfl | trivial⟩
    · simp only [if_pos (show 0 < i by omega)]
      omega
    · rw [nd_rev i1 i2]
      simp only [if_pos (show 0 < i by omega)]
      rw [show (ns0.length : Int) + 1 - i - 1 = ns0.length - i by omega]
      rfl
/-! a right graph's order is whole; widths and rates go along it -/
theorem nextO_none {ns : List Nd} {o : List Int} : ∀ (m : Nat) (l : Int), nextO ns o m l = none → ∀ x, l ≤ x → x < l + m → mayO ns o x = false
  | 0, l, _, x, h1, h2 => by omega
  | m + 1, l, h, x, h1, h2 => by
    unfold nextO at h
    split at h
    · cases h
    · rename_i hm
      rcases Int.lt_or_le l x with h3 | h3
      · exact nextO_none m (l + 1) h x (by omega) (by omega)
      · obtain rfl : l = x := by omega
        simpa using hm
section
variable {wd : Int} {ns : List Nd} {W R : Int → Int} {rk : Int → Nat} (h : GG wd ns W R rk)
include h
theorem GG.next {o : List Int} (ho : o.length < ns.length) : ∃ i, nextO ns o ns.length 1 = some i := by
  cases hn : nextO ns o ns.length 1 with
  | some i => exact ⟨i, rfl⟩
  | none =>
    exfalso
    have hf := nextO_none _ _ hn
    have key : ∀ (r : Nat) (i : Int), rk i ≤ r → 1 ≤ i → i ≤ ns.length → i ∈ o := by
      intro r
      induction r with
      | zero =>
        intro i hr i1 i2
        have hm := (h.node i i1 i2).1
        by_cases hi : i ∈ o
        · exact hi
        · have h1 := hf i i1 (by omega)
          rw [mayO_iff.2 ⟨hi, fun j hj => by have := hm.inn j hj; omega⟩] at h1
          cases h1
      | succ r ih =>
        intro i hr i1 i2
        have hm := (h.node i i1 i2).1
        by_cases hi : i ∈ o
        · exact hi
        · have h1 := hf i i1 (by omega)
          rw [mayO_iff.2 ⟨hi, fun j hj => by
            have h2 := hm.inn j hj
            rcases Int.lt_or_le 0 j with h3 | h3
            · exact .inr (ih j (by omega) (by omega) h2.2.1)
            · exact .inl (by omega)⟩] at h1
          cases h1
    have := all_len ns.length o fun x h1 h2 => key _ x (Nat.le_refl _) h1 h2
    omega
theorem GG.ordR_len : ∀ (k : Nat) (o : List Int), o.length + k = ns.length → (ordR ns k o).length = ns.length
  | 0, o, e => by simpa [ordR] using e
  | k + 1, o, e => by
    obtain ⟨i, hi⟩ := h.next (o := o) (by omega)
    unfold ordR
    rw [hi]
    exact GG.ordR_len k (o ++ [i]) (by simp; omega)
theorem GG.order_len : (order ns).length = ns.length := h.ordR_len ns.length [] (by simp)
end
theorem order_top (ns : List Nd) : ∀ (o1 : List Int) (i : Int) (r : List Int), order ns = o1 ++ i :: r → mayO ns o1 i = true ∧ (∀ x : Int, 1 ≤ x → x ≤ ns.length → mayO ns o1 x = true → i ≤ x) ∧ 1 ≤ i ∧ i ≤ ns.length :=
  ordR_inv (fun o => ∀ (o1 : List Int) (i : Int) (r : List Int), o = o1 ++ i :: r → mayO ns o1 i = true ∧ (∀ x : Int, 1 ≤ x → x ≤ ns.length → mayO ns o1 x = true → i ≤ x) ∧ 1 ≤ i ∧ i ≤ ns.length) (fun o x ho h1 h2 h3 h4 o1 i r e => by
    rcases List.eq_nil_or_concat r with rfl | ⟨L, b, rfl⟩
    · have e2 := List.append_inj' e rfl
      obtain ⟨rfl, e3⟩ := e2
      obtain rfl : x = i := by simpa using e3
      exact ⟨h3, h4, h1, h2⟩
    · rw [show o1 ++ i :: (L.concat b) = (o1 ++ i :: L) ++ [b] by simp] at e
      exact ho o1 i L (List.append_inj' e rfl).1) ns.length [] (fun o1 i r e => by simp at e)
theorem gwin_eq {n : Nd} (hk : inB n.k 1 12 = true) (h0 : rWin n.k = false) : n.gwin = false := by
  have hs : n.span = 1 := by
    rw [span_eqW]
    unfold Nd.rSpan
    have h1 : (n.k == 12) = false := by unfold rWin at h0; simp only [Bool.or_eq_false_iff] at h0; exact h0.2
    rw [if_neg (by rw [h1]; decide), if_pos (by rw [h0]; rfl)]
  unfold Nd.gwin
  rw [hs]
  have h2 := inB_iff.1 hk
  unfold rWin at h0
  simp only [Bool.or_eq_false_iff, beq_eq_false_iff_ne] at h0
  simp only [Bool.or_eq_false_iff, decide_eq_false_iff_not, beq_eq_false_iff_ne]
  omega
theorem grate_eq {n : Nd} {l : List Int} (hk : inB n.k 1 12 = true) (hall : ∀ x ∈ l, x = rd l 0) (hst : rd l 0 = 0 → rWin n.k = false ∧ n.k ≠ 5) : n.grate l = (n.rate l, true) := by
  have ha : l.all (· == rd l 0) = true := List.all_eq_true.2 fun x hx => by simpa using hall x hx
  have hb : l.any (· != rd l 0) = false := by
    rw [List.any_eq_false]
    exact fun x hx => by simpa using hall x hx
  have hz : (rd l 0 == 0 && (n.gwin || n.k == 5)) = false := by
    cases e : (rd l 0 == 0) with
    | false => rfl
    | true =>
      have := hst (by simpa using e)
      rw [gwin_eq hk this.1, show (n.k == 5) = false by simpa using this.2]; rfl
  have hz2 : (rd l 0 == 0 && (rWin n.k || n.k == 5)) = false := by
    cases e : (rd l 0 == 0) with
    | false => rfl
    | true =>
      have := hst (by simpa using e)
      rw [this.1, show (n.k == 5) = false by simpa using this.2]; rfl
  unfold Nd.grate Nd.rate
  rw [hb, hz, ha, hz2, stp_eqW]
  simp only [Bool.or_self, Bool.false_eq_true, if_false, Bool.true_eq_false]
  split <;> rfl
theorem rd_set {l : List Int} {i j v : Int} (hi : 0 ≤ i) (hi2 : i < l.length) (hj : 0 ≤ j) : rd (l.set i.toNat v) j = if j = i then v else rd l j := by
  unfold rd
  rw [List.getD_eq_getElem?_getD, List.getD_eq_getElem?_getD, List.getElem?_set]
  by_cases e : j = i
  · subst e
    rw [if_pos rfl, if_pos rfl, if_pos (by omega)]; rfl
  · rw [if_neg (by omega), if_neg e]
theorem rd_map {l : List Int} {f : Int → Int} (h : 0 < l.length) : rd (l.map f) 0 = f (rd l 0) := by
  cases l with
  | nil => simp at h
  | cons x l => rfl
section
variable {wd : Int} {ns : List Nd} {W R : Int → Int} {rk : Int → Nat} (h : GG wd ns W R rk)
include h
theorem GG.lookL : ∀ (r o W1 R1 : List Int), order ns = o ++ r → W1.length = ns.length + 1 → R1.length = ns.length + 1 → (∀ x, x = 0 ∨ x ∈ o → rd W1 x = W x ∧ rd R1 x = R x) →
    ∃ W2 R2, lookL ns r W1 R1 = (0, W2, R2) ∧ W2.length = ns.length + 1 ∧ R2.length = ns.length + 1 ∧ ∀ x, x = 0 ∨ x ∈ o ++ r → rd W2 x = W x ∧ rd R2 x = R x
  | [], o, W1, R1, ho, hW, hR, hx => ⟨W1, R1, rfl, hW, hR, by simpa using hx⟩
  | i :: r, o, W1, R1, ho, hW, hR, hx => by
    obtain ⟨hm, _, i1, i2⟩ := order_top ns o i r ho
    have hN := (h.node i i1 i2).1
    have hin := (mayO_iff.1 hm).2
    rw [lookL_cons]
    generalize nd ns (i - 1) = n at hN hin ⊢
    have e1 : n.inn.map (rd W1) = n.inn.map W := List.map_congr_left fun j hj => (hx j (hin j hj)).1
    have e2 : n.inn.map (rd R1) = n.inn.map R := List.map_congr_left fun j hj => (hx j (hin j hj)).2
    obtain ⟨_, h7, _⟩ := rchk_unpack hN.chk
    have hk : inB n.k 1 12 = true := by
      unfold Nd.r7 at h7
      simp only [Bool.or_eq_false_iff, Bool.not_eq_false'] at h7
      exact h7.1.1
    have h0m : rd n.inn 0 ∈ n.inn := rd_mem (by omega) (by have := hN.l1; omega)
    have hr0 : rd (n.inn.map R) 0 = R (rd n.inn 0) := rd_map hN.l1
    have hg : n.grate (n.inn.map R) = (R i, true) := by
      rw [grate_eq hk (fun x hx => by
        simp only [List.mem_map] at hx
        obtain ⟨j, hj, rfl⟩ := hx
        rw [hr0]; exact hN.same j hj _ h0m) (by rw [hr0]; exact hN.still _ h0m), ← hN.rt]
    have hw : n.wide (n.inn.map W) = W i := by
      have := both_eq n (n.inn.map W)
      unfold Nd.both at this
      simp only [Bool.and_eq_true, beq_iff_eq] at this
      rw [this.2]; exact hN.wd.symm
    rw [e1, e2, chk_eq, hN.chk, hg, hw]
    simp only [bne_self_eq_false, Bool.false_eq_true, if_false, Bool.not_true]
    have := GG.lookL r (o ++ [i]) (W1.set i.toNat (W i)) (R1.set i.toNat (R i)) (by rw [ho]; simp) (by simpa using hW) (by simpa using hR) (fun x hx' => by
      have hx0 : 0 ≤ x := by
        rcases hx' with rfl | hx'
        · omega
        · have := ordR_range (ns := ns) (k := ns.length) (o := []) (by simp) x (show x ∈ order ns by
            rw [ho]
            rcases List.mem_append.1 hx' with hx' | hx'
            · exact List.mem_append_left _ hx'
            · exact List.mem_append_right _ (by simp at hx'; subst hx'; simp))
          omega
      rw [rd_set (by omega) (by omega) hx0, rd_set (by omega) (by omega) hx0]
      by_cases e : x = i
      · subst e; rw [if_pos rfl, if_pos rfl]; exact ⟨rfl, rfl⟩
      · rw [if_neg e, if_neg e]
        refine hx x ?_
        rcases hx' with hx' | hx'
        · exact .inl hx'
        · rcases List.mem_append.1 hx' with hx' | hx'
          · exact .inr hx'
          · simp at hx'; exact absurd hx' e)
    obtain ⟨W2, R2, e3, e4, e5, e6⟩ := this
    exact ⟨W2, R2, e3, e4, e5, by simpa using e6⟩
theorem GG.mem_order (x : Int) (h1 : 1 ≤ x) (h2 : x ≤ ns.length) : x ∈ order ns := by
  by_cases hx : x ∈ order ns
  · exact hx
  · exfalso
    have hl := h.order_len
    have hnd : (x :: order ns).Nodup := List.nodup_cons.2 ⟨hx, order_nodup ns⟩
    have := nodup_len ns.length (x :: order ns) hnd fun y hy => by
      rcases List.mem_cons.1 hy with rfl | hy
      · exact ⟨h1, h2⟩
      · exact ordR_range (ns := ns) (k := ns.length) (o := []) (by simp) y hy
    simp at this
    omega
/-- what graph.look tells of a right graph -/
theorem GG.lookG {lo hi out : Int} (hm : mayG wd lo hi out ns = 0) : ∃ W2 R2, lookG wd lo hi out ns = (0, order ns, W2, R2) ∧ W2.length = ns.length + 1 ∧ R2.length = ns.length + 1 ∧ ∀ x : Int, 0 ≤ x → x ≤ ns.length → rd W2 x = W x ∧ rd R2 x = R x := by
  obtain ⟨W2, R2, e1, e2, e3, e4⟩ := h.lookL (order ns) [] (wd :: List.replicate ns.length 0) (1 :: List.replicate ns.length 0) rfl (by simp) (by simp) (fun x hx => by
    simp only [List.not_mem_nil, or_false] at hx
    subst hx
    exact ⟨h.W0.symm, h.R0.symm⟩)
  refine ⟨W2, R2, ?_, e2, e3, fun x h1 h2 => e4 x ?_⟩
  · unfold Aw.lookG
    rw [if_neg (by rw [hm]; decide), if_neg (by rw [h.order_len]; simp), e1]
    rfl
  · rcases Int.lt_or_le 0 x with h3 | h3
    · exact .inr (by simpa using h.mem_order x h3 h2)
    · exact .inl (by omega)
end
theorem GM.may {wd lo hi out : Int} {ns : List Nd} (h : GM wd lo hi out ns) : mayG wd lo hi out ns = 0 := by
  have hn := h.n0
  unfold mayG
  rw [if_neg (by simp; omega), if_neg, if_pos]
  · exact List.all_eq_true.2 fun n hm => List.all_eq_true.2 fun j hj => inB_iff.2 ((h.inn n hm).1.2 j hj)
  · have := h.wd0; have := h.lo0; have := h.hi0; have := h.out0
    unfold mayQ
    simp only [Bool.or_eq_true, decide_eq_true_eq]
    omega
set_option maxRecDepth 100000
/-! the plain law of ends: wider ones never make narrower ones -/
structure Wi (x y : Rg) : Prop where
  lo : y.lo ≤ x.lo
  hi : x.hi ≤ y.hi
  le : x.lo ≤ x.hi
  al : y.al ≤ x.al
  ah : x.ah ≤ y.ah
  y32 : in32 y.lo ∧ in32 y.hi
def WL : List Rg → List Rg → Prop
  | [], [] => True
  | x :: a, y :: b => Wi x y ∧ WL a b
  | _, _ => False
theorem WL.len : ∀ {a b : List Rg}, WL a b → a.length = b.length
  | [], [], _ => rfl
  | x :: a, y :: b, h => by simp only [WL] at h; simp [WL.len h.2]
theorem WL.at : ∀ {a b : List Rg}, WL a b → ∀ i : Nat, i < a.length → Wi (a.getD i ⟨0, 0, 0, 0⟩) (b.getD i ⟨0, 0, 0, 0⟩)
  | [], [], _, i, hi => by simp at hi
  | x :: a, y :: b, h, 0, hi => by simp only [WL] at h; exact h.1
  | x :: a, y :: b, h, i + 1, hi => by simp only [WL] at h; simpa using WL.at h.2 i (by simpa using hi)
theorem WL.w {a b : List Rg} (h : WL a b) {j : Int} (h0 : 0 ≤ j) (h1 : j < a.length) : Wi (rg a j) (rg b j) := h.at j.toNat (by omega)
theorem WL.set : ∀ {a b : List Rg}, WL a b → ∀ (i : Nat) {x y : Rg}, Wi x y → WL (a.set i x) (b.set i y)
  | [], [], _, i, x, y, _ => by simp [WL]
  | u :: a, v :: b, h, 0, x, y, hw => by simp only [WL] at h; exact ⟨hw, h.2⟩
  | u :: a, v :: b, h, i + 1, x, y, hw => by simp only [WL] at h; exact ⟨h.1, WL.set h.2 i hw⟩
theorem WL.map {a b : List Rg} : ∀ {l : List Int}, (∀ j ∈ l, Wi (rg a j) (rg b j)) → WL (l.map (rg a)) (l.map (rg b))
  | [], _ => trivial
  | j :: l, h => ⟨h j (List.mem_cons_self ..), WL.map fun x hx => h x (List.mem_cons_of_mem _ hx)⟩
theorem clampV_mono {x y l h : Int} (hxy : x ≤ y) (hl : l ≤ h) : clampV x l h ≤ clampV y l h := by unfold clampV; (repeat' split) <;> omega
theorem divV_mono {x y n : Int} (hxy : x ≤ y) : divV x n ≤ divV y n := by
  unfold divV
  split
  · exact Int.le_refl _
  · exact Int.ediv_le_ediv (by omega) (by omega)
theorem scaleV_mono {x y m s : Int} (hxy : x ≤ y) : scaleV x m s ≤ scaleV y m s := by
  unfold scaleV
  split
  · rename_i h
    refine clampV_mono ?_ (by decide)
    unfold halfV
    split
    · exact divV_mono (Int.mul_le_mul_of_nonneg_right hxy h.1)
    · exact Int.le_refl _
  · exact Int.le_refl _
theorem pst_mono {n : Nd} (hs : n.s27 = true) {x y : Int} (hxy : x ≤ y) : n.pst x ≤ n.pst y := by
  obtain ⟨_, _, _, b, _⟩ := s27' hs
  have h1 := clampV_mono (l := -2147483648) (h := 2147483647) hxy (by decide)
  have h2 := scaleV_mono (m := n.mult) (s := n.shift) h1
  unfold Nd.pst
  split
  · split
    · exact clampV_mono h2 b
    · exact clampV_mono h1 b
  · split
    · exact h2
    · exact h1
theorem all_rd' {ws : List Int} {a b : Int} (h : ws.all (inB · (-a) b) = true) (ha : 0 ≤ a) (hb : 0 ≤ b) (i : Int) : -a ≤ rd ws i ∧ rd ws i ≤ b := by
  unfold rd
  rw [List.getD_eq_getElem?_getD]
  cases hq : ws[i.toNat]? with
  | none => simp; omega
  | some z => exact inB_iff.1 (List.all_eq_true.1 h z (List.mem_of_getElem? hq))
theorem wsC_rd {n : Nd} {each : Nat} {c : Int} (h : n.ws.all (inB · (-128) 127) = true) (i : Int) : -128 ≤ rd (wsC n each c) i ∧ rd (wsC n each c) i ≤ 128 := by
  have : (wsC n each c).all (inB · (-128) 127) = true := List.all_eq_true.2 fun x hx => List.all_eq_true.1 h x (List.mem_of_mem_take (List.mem_of_mem_drop hx))
  have := all_rd' this (by decide) (by decide) i
  omega
structure WN (n : Nd) : Prop where
  s27 : n.s27 = true
  ws : n.ws.all (inB · (-128) 127) = true
  bs : n.bs.all (inB · (-16777216) 16777216) = true
  size : 0 ≤ n.size ∧ n.size ≤ 8
/-! where numbers stand in a right graph's order -/
structure OP (ns : List Nd) (o : List Int) : Prop where
  len : o.length = ns.length
  inj : ∀ p q : Int, 0 ≤ p → p < o.length → 0 ≤ q → q < o.length → rd o p = rd o q → p = q
  rng : ∀ p : Int, 0 ≤ p → p < o.length → 1 ≤ rd o p ∧ rd o p ≤ ns.length
  all : ∀ i : Int, 1 ≤ i → i ≤ ns.length → ∃ p : Int, 0 ≤ p ∧ p < o.length ∧ rd o p = i
  inn : ∀ p : Int, 0 ≤ p → p < o.length → ∀ j ∈ (nd ns (rd o p - 1)).inn, j = 0 ∨ ∃ q : Int, 0 ≤ q ∧ q < p ∧ rd o q = j
  least : ∀ p i : Int, 0 ≤ p → p < o.length → 1 ≤ i → i ≤ ns.length → (∀ q : Int, 0 ≤ q → q < p → rd o q ≠ i) → (∀ j ∈ (nd ns (i - 1)).inn, j = 0 ∨ ∃ q : Int, 0 ≤ q ∧ q < p ∧ rd o q = j) → rd o p ≤ i
theorem rd_get {l : List Int} {p : Int} (h0 : 0 ≤ p) (h1 : p < l.length) : l[p.toNat]? = some (rd l p) := by
  unfold rd
  rw [List.getD_eq_getElem?_getD, List.getElem?_eq_getElem (by omega)]; rfl
theorem mem_take_rd {l : List Int} {p x : Int} (h0 : 0 ≤ p) (h1 : p ≤ l.length) : x ∈ l.take p.toNat ↔ ∃ q : Int, 0 ≤ q ∧ q < p ∧ rd l q = x := by
  constructor
  · intro h
    obtain ⟨k, hk, e⟩ := List.getElem_of_mem h
    rw [List.length_take] at hk
    refine ⟨k, by omega, by omega, ?_⟩
    rw [List.getElem_take] at e
    unfold rd
    rw [Int.toNat_natCast, List.getD_eq_getElem?_getD, List.getElem?_eq_getElem (by omega), Option.getD_some]
    exact e
  · rintro ⟨q, hq0, hq1, rfl⟩
    have := rd_get hq0 (show q < l.length by omega)
    exact List.mem_of_getElem? (i := q.toNat) (by rw [List.getElem?_take, if_pos (by omega)]; exact this)
theorem split_rd {l : List Int} {p : Int} (h0 : 0 ≤ p) (h1 : p < l.length) : l = l.take p.toNat ++ rd l p :: l.drop (p + 1).toNat := by
  rw [← drop_rd h0 h1, List.take_append_drop]
theorem GG.op {wd : Int} {ns : List Nd} {W R : Int → Int} {rk : Int → Nat} (h : GG wd ns W R rk) : OP ns (order ns) := by
  have hl := h.order_len
  have hnd := order_nodup ns
  have htop : ∀ p : Int, 0 ≤ p → p < (order ns).length → _ := fun p h0 h1 => order_top ns _ _ _ (split_rd h0 h1)
  refine ⟨hl, fun p q p0 p1 q0 q1 e => ?_, fun p p0 p1 => ?_, fun i i1 i2 => ?_, fun p p0 p1 j hj => ?_, fun p i p0 p1 i1 i2 hq hj => ?_⟩
  · have e1 := rd_get p0 p1
    have e2 := rd_get q0 q1
    rw [e] at e1
    have := (List.getElem?_inj (by omega) hnd).1 (e1.trans e2.symm)
    omega
  · have := htop p p0 p1
    omega
  · have := h.mem_order i i1 i2
    rw [← List.take_length (l := order ns)] at this
    have h2 := (mem_take_rd (l := order ns) (p := (order ns).length) (by omega) (by omega)).1 (by simpa using this)
    exact h2
  · have := (mayO_iff.1 (htop p p0 p1).1).2 j hj
    rcases this with h1 | h1
    · exact .inl h1
    · exact .inr ((mem_take_rd p0 (by omega)).1 h1)
  · refine (htop p p0 p1).2.1 i i1 i2 (mayO_iff.2 ⟨fun hm => ?_, fun j hm => ?_⟩)
    · obtain ⟨q, q0, q1, e⟩ := (mem_take_rd p0 (by omega)).1 hm
      exact hq q q0 q1 e
    · rcases hj j hm with h1 | h1
      · exact .inl h1
      · exact .inr ((mem_take_rd p0 (by omega)).2 h1)
/-! what is told of a right graph's nodes -/
structure ToldN (n : Nd) (W R : List Int) (i : Int) : Prop where
  l1 : 1 ≤ n.inn.length
  l2 : n.inn.length ≤ 2
  inn : ∀ j ∈ n.inn, 0 ≤ j ∧ j < W.length ∧ j < R.length
  wd : rd W i = n.wide (n.inn.map (rd W))
  w1 : 1 ≤ rd W i ∧ rd W i ≤ 16
  rt : rd R i = if (n.k == 5) = true then 0 else wrap64 (rd R (rd n.inn 0) * n.stp)
  same : ∀ j ∈ n.inn, rd R j = rd R (rd n.inn 0)
  wl : n.ws.length ≤ 4096
  bl : n.bs.length ≤ 4096
theorem GG.told {wd : Int} {ns : List Nd} {W R : Int → Int} {rk : Int → Nat} (h : GG wd ns W R rk) {W2 R2 : List Int} (hW : W2.length = ns.length + 1) (hR : R2.length = ns.length + 1) (hx : ∀ x : Int, 0 ≤ x → x ≤ ns.length → rd W2 x = W x ∧ rd R2 x = R x) (i : Int) (i1 : 1 ≤ i) (i2 : i ≤ ns.length) : ToldN (nd ns (i - 1)) W2 R2 i := by
  have hN := (h.node i i1 i2).1
  generalize nd ns (i - 1) = n at hN ⊢
  have e1 : n.inn.map (rd W2) = n.inn.map W := List.map_congr_left fun j hj => by have := hN.inn j hj; exact (hx j this.1 this.2.1).1
  have h0m : rd n.inn 0 ∈ n.inn := rd_mem (by omega) (by have := hN.l1; omega)
  have hRj : ∀ j ∈ n.inn, rd R2 j = R j := fun j hj => by have := hN.inn j hj; exact (hx j this.1 this.2.1).2
  have hr0 : rd (n.inn.map R) 0 = R (rd n.inn 0) := rd_map hN.l1
  have hb := both_eq n (n.inn.map W)
  unfold Nd.both at hb
  simp only [Bool.and_eq_true, beq_iff_eq] at hb
  refine ⟨hN.l1, hN.l2, fun j hj => by have := hN.inn j hj; omega, by rw [(hx i (by omega) i2).1, e1, hN.wd, hb.2], by rw [(hx i (by omega) i2).1, hN.wd]; exact rwide_pos hN.chk, ?_, fun j hj => by rw [hRj j hj, hRj _ h0m]; exact hN.same j hj _ h0m, hN.wl, hN.bl⟩
  rw [(hx i (by omega) i2).2, hN.rt, hRj _ h0m, stp_eqW]
  have ha : (n.inn.map R).all (· == rd (n.inn.map R) 0) = true := List.all_eq_true.2 fun x hx => by
    simp only [List.mem_map] at hx
    obtain ⟨j, hj, rfl⟩ := hx
    rw [hr0]; simpa using hN.same j hj _ h0m
  have hz2 : (rd (n.inn.map R) 0 == 0 && (rWin n.k || n.k == 5)) = false := by
    rw [hr0]
    cases e : (R (rd n.inn 0) == 0) with
    | false => rfl
    | true =>
      have := hN.still _ h0m (by simpa using e)
      rw [this.1, show (n.k == 5) = false by simpa using this.2]; rfl
  unfold Nd.rate
  rw [ha, hz2, hr0]
  simp only [Bool.true_eq_false, Bool.false_eq_true, if_false]
/-! numbers that are changed round -/
def turnR (N b : Int) (n : Nd) : Nd := { n with inn := n.inn.map fun x => if 0 < x then (x - 1 + b) % N + 1 else x }
def hsL (b : Int) (ns : List Nd) : List Nd := (List.range ns.length).map fun (k : Nat) => turnR ns.length b (nd ns (((k : Int) - b) % ns.length))
theorem hsL_len (b : Int) (ns : List Nd) : (hsL b ns).length = ns.length := by simp [hsL]
theorem hsL_nd {b : Int} {ns : List Nd} {k : Int} (h0 : 0 ≤ k) (h1 : k < ns.length) : nd (hsL b ns) k = turnR ns.length b (nd ns ((k - b) % ns.length)) := by
  have hk : k.toNat < ns.length := by omega
  unfold hsL
  unfold nd
  rw [List.getD_eq_getElem?_getD, List.getElem?_map, List.getElem?_range hk]
  simp only [Option.map_some, Option.getD_some]
  rw [show ((k.toNat : Nat) : Int) = k by omega]
theorem round_back {N b i : Int} (hN : 0 < N) (h0 : 0 ≤ i) (h1 : i < N) : ((i + b) % N - b) % N = i := by
  rw [Int.emod_sub_emod, show i + b - b = i by omega, Int.emod_eq_of_lt h0 h1]
theorem GG.turn {wd : Int} {ns : List Nd} {W R : Int → Int} {rk : Int → Nat} (h : GG wd ns W R rk) (hN : 0 < ns.length) (b : Int) : GG wd (hsL b ns) (fun i => W (if 0 < i then (i - 1 - b) % ns.length + 1 else i)) (fun i => R (if 0 < i then (i - 1 - b) % ns.length + 1 else i)) (fun i => rk (if 0 < i then (i - 1 - b) % ns.length + 1 else i)) := by
  have hN' : (0 : Int) < ns.length := by omega
  refine h.ren _ (fun x => if 0 < x then (x - 1 + b) % ns.length + 1 else x) _ (hsL_len b ns) rfl (fun j j0 j1 => ?_) (fun i i1 i2 => ?_) (fun i i1 i2 => ?_)
  · by_cases hj : 0 < j
    · have h2 := Int.emod_nonneg (j - 1 + b) (show (ns.length : Int) ≠ 0 by omega)
      have h3 := Int.emod_lt_of_pos (j - 1 + b) hN'
      simp only [if_pos hj]
      rw [if_pos (by omega), show (j - 1 + b) % (ns.length : Int) + 1 - 1 - b = (j - 1 + b) % (ns.length : Int) - b by omega, round_back hN' (by omega) (by omega)]
      omega
    · simp only [if_neg hj]
      exact ⟨j0, j1, by first | rfl | trivial⟩
  · have h2 := Int.emod_nonneg (i - 1 - b) (show (ns.length : Int) ≠ 0 by omega)
    have h3 := Int.emod_lt_of_pos (i - 1 - b) hN'
    rw [if_pos (by omega)]
    omega
  · rw [hsL_nd (by omega) (by omega)]
    simp only [if_pos (show 0 < i by omega)]
    rw [show (i - 1 - b) % (ns.length : Int) + 1 - 1 = (i - 1 - b) % (ns.length : Int) by omega]
    rfl
theorem mayG_of {wd lo hi out : Int} {ns : List Nd} (h1 : 1 ≤ ns.length ∧ ns.length ≤ 12) (h2 : 1 ≤ wd ∧ wd ≤ 16) (h3 : lo ≤ hi ∧ -32768 ≤ lo ∧ hi ≤ 32767) (h4 : 1 ≤ out ∧ out ≤ ns.length) (h5 : ∀ n ∈ ns, ∀ j ∈ n.inn, 0 ≤ j ∧ j ≤ ns.length) : mayG wd lo hi out ns = 0 := by
  unfold mayG
  rw [if_neg (by simp; omega), if_neg, if_pos]
  · exact List.all_eq_true.2 fun n hm => List.all_eq_true.2 fun j hj => inB_iff.2 (h5 n hm j hj)
  · unfold mayQ
    simp only [Bool.or_eq_true, decide_eq_true_eq]
    omega
set_option maxRecDepth 100000
/-! graphs that are made, and their ends -/
theorem rchk_sz {n : Nd} {l : List Int} (h : n.rchk l = 0) : (1 ≤ rd l 0 ∧ rd l 0 ≤ 16) ∧ n.else0 = true ∧ n.sized (rd l 0) = true := by
  obtain ⟨h1, h7, h9, he, hs, _⟩ := rchk_unpack h
  have hall := chk1_all h1
  have hl : 1 ≤ l.length := by
    cases l with
    | nil => rw [Nd.r7_nil] at h7; cases h7
    | cons x l => simp
  exact ⟨hall _ (rd_mem (by decide) (by omega)), he, hs⟩
theorem WN.of {n : Nd} {v : Int} (he : n.else0 = true) (hs : n.sized v = true) : WN n := by
  have e8 : n.e8 = false := by
    unfold Nd.else0 at he
    cases e : n.e8 with
    | false => rfl
    | true => rw [e] at he; simp at he
  have e10 : n.e10 = false := by
    unfold Nd.else0 at he
    cases e : n.e10 with
    | false => rfl
    | true => rw [e] at he; simp at he
  have h4 : n.s4 = false := by
    unfold Nd.sized at hs
    cases e : n.s4 with
    | false => rfl
    | true => rw [e] at hs; simp at hs
  have h27 : n.s27 = true := by
    unfold Nd.sized at hs
    repeat' (split at hs <;> try (cases hs; done))
    all_goals exact hs
  have hsz : 0 ≤ n.size ∧ n.size ≤ 8 := by
    unfold Nd.s4 at h4
    unfold Nd.e8 at e8
    cases hq : (rFour n.k || n.k == 12) with
    | true =>
      rw [hq] at h4
      have := inB_iff.1 (show inB n.size 1 8 = true by simpa using h4)
      omega
    | false =>
      simp only [Bool.or_eq_false_iff, beq_eq_false_iff_ne] at hq
      simp [hq.1, hq.2] at e8
      omega
  cases hw : rWeighs n.k with
  | false =>
    unfold Nd.e10 at e10
    rw [hw] at e10
    simp at e10
    exact ⟨h27, by rw [e10.1]; rfl, by rw [e10.2]; rfl, hsz⟩
  | true =>
    have h21 : n.s21 v (if (n.k == 2) = true then v else n.wid) = false := by
      unfold Nd.sized at hs
      rw [if_pos hw] at hs
      cases e : n.s21 v (if (n.k == 2) = true then v else n.wid) with
      | false => rfl
      | true => rw [e] at hs; simp at hs
    unfold Nd.s21 at h21
    simp only [Bool.or_eq_false_iff, Bool.not_eq_false'] at h21
    exact ⟨h27, h21.1.2, h21.2, hsz⟩
theorem BW.of {n : Nd} {v : Int} (hv : 1 ≤ v ∧ v ≤ 16) (hs : n.sized v = true) (hw : rWeighs n.k = true) : BW n (eachW n) := by
  unfold Nd.sized at hs
  rw [if_pos hw] at hs
  have hc : n.k = 1 ∨ n.k = 2 ∨ n.k = 6 := by unfold rWeighs at hw; simpa [or_assoc] using hw
  have h4 : n.s4 = false := by
    cases e : n.s4 with
    | false => rfl
    | true => rw [e] at hs; simp at hs
  have h13 : n.s13 = false := by
    cases e : n.s13 with
    | false => rfl
    | true => rw [e] at hs; simp at hs
  have h21 : n.s21 v (if (n.k == 2) = true then v else n.wid) = false := by
    cases e : n.s21 v (if (n.k == 2) = true then v else n.wid) with
    | false => rfl
    | true => rw [e] at hs; simp at hs
  unfold Nd.s21 at h21
  simp only [Bool.or_eq_false_iff, bne_eq_false_iff_eq] at h21
  obtain ⟨⟨⟨hW, hB⟩, _⟩, _⟩ := h21
  have hsz : rFour n.k = true → 1 ≤ n.size ∧ n.size ≤ 8 := by
    intro e; unfold Nd.s4 at h4; rw [e] at h4
    simp at h4
    exact inB_iff.mp h4
  have hwd : (n.k = 1 ∨ n.k = 6) → 1 ≤ n.wid ∧ n.wid ≤ 16 := by
    intro e; unfold Nd.s13 at h13
    have : (n.k == 1 || n.k == 6) = true := by simpa using e
    rw [this] at h13; simp at h13
    exact inB_iff.mp h13
  have fin : ∀ e : Nat, e ≤ 4096 → 1 ≤ n.bs.length ∧ n.bs.length ≤ 16 → (n.ws.length : Int) = n.bs.length * e → BW n (eachW n) := fun e he hb hq => by
    have hq2 : n.ws.length = n.bs.length * e := by exact_mod_cast hq
    have : eachW n = e := by unfold eachW; rw [hq2]; exact Nat.mul_div_cancel_left _ (by omega)
    rw [this]
    exact ⟨hb, hq2, he⟩
  unfold Nd.rWeights at hW
  rcases hc with hk | hk | hk
  · have s1 := hsz (by rw [hk]; rfl)
    have d1 := hwd (.inl hk)
    rw [hk] at hW hB
    simp at hW hB
    have m1 := mul_le n.wid 16 n.size 8 (by omega) d1.2 (by omega) s1.2
    have m2 := mul_le (n.wid * n.size) 128 v 16 m1.1 m1.2 (by omega) (by omega)
    have m3 := mul_le n.size 8 v 16 (by omega) s1.2 (by omega) hv.2
    rw [w64 (x := n.wid * n.size) (by omega) (by omega), w64 (by omega) (by omega)] at hW
    refine fin (n.size * v).toNat (by omega) (by omega) ?_
    rw [Int.toNat_of_nonneg m3.1, hW, hB, Int.mul_assoc]
  · have s1 := hsz (by rw [hk]; rfl)
    rw [hk] at hW hB
    simp at hW hB
    have m1 := mul_le v 16 n.size 8 (by omega) (by omega) (by omega) s1.2
    rw [w64 (by omega) (by omega)] at hW
    refine fin n.size.toNat (by omega) (by omega) ?_
    rw [Int.toNat_of_nonneg (by omega), hW, hB]
  · have d1 := hwd (.inr hk)
    rw [hk] at hW hB
    simp at hW hB
    have m1 := mul_le n.wid 16 v 16 (by omega) d1.2 (by omega) (by omega)
    rw [w64 (by omega) (by omega)] at hW
    refine fin v.toNat (by omega) (by omega) ?_
    rw [Int.toNat_of_nonneg (by omega), hW, hB]
theorem gg_lg {wd lo hi out : Int} {ns : List Nd} {W R : Int → Int} {rk : Int → Nat} (h : GG wd ns W R rk) (hwd : 1 ≤ wd ∧ wd ≤ 16) (hm : mayG wd lo hi out ns = 0) (h32 : in32 lo ∧ in32 hi) :
    ∃ W2 R2, lookG wd lo hi out ns = (0, order ns, W2, R2) ∧ LG lo hi ns (order ns) W2 ∧ (∀ x ∈ W2, 1 ≤ x) ∧ ∀ i ∈ order ns, WN (nd ns (i - 1)) := by
  obtain ⟨W2, R2, e, hl, _, hx⟩ := h.lookG hm
  have hor : ∀ x ∈ order ns, 1 ≤ x ∧ x ≤ ns.length := ordR_range (by simp)
  have hW : ∀ x ∈ W2, 1 ≤ x ∧ x ≤ 16 := fun x hxm => by
    obtain ⟨i, hi, rfl⟩ := List.mem_iff_getElem.1 hxm
    have e1 : rd W2 (i : Nat) = W2[i] := by simp [rd, List.getD_eq_getElem?_getD, hi]
    rw [← e1, (hx i (by omega) (by omega)).1]
    rcases Nat.eq_zero_or_pos i with rfl | hp
    · rw [show ((0 : Nat) : Int) = 0 from rfl, h.W0]; exact hwd
    · have hn := (h.node i (by omega) (by omega)).1
      rw [hn.wd]
      exact rwide_pos hn.chk
  refine ⟨W2, R2, e, ⟨h32, hl, fun x hx => by have := hW x hx; omega, fun i hi => ⟨hor i hi, ?_⟩, ?_⟩, fun x hx => (hW x hx).1, fun i hi => ?_⟩
  · have hn := (h.node i (hor i hi).1 (hor i hi).2).1
    obtain ⟨a, b, c⟩ := rchk_sz hn.chk
    exact ⟨⟨hn.l1, by have := hn.l2; omega⟩, fun j hj => by have := hn.inn j hj; omega, BW.of a c, (WN.of b c).s27⟩
  · have := (mayG_ok hm).2.1
    rw [h.order_len]; omega
  · have hn := (h.node i (hor i hi).1 (hor i hi).2).1
    obtain ⟨a, b, c⟩ := rchk_sz hn.chk
    exact WN.of b c
end Go.Proofs.YtgijboakaodcgaaDoor.Aw
