/- The abstract walk, and contracts of Go functions: each call returns what the Lean function named tells. Conditions: those that each theorem names, none else. -/
import Derived.Test.YtgijboakaodcgaaDoorZKernelPost4
set_option linter.unusedVariables false
set_option linter.unusedSimpArgs false
set_option linter.unusedSectionVars false
set_option maxRecDepth 100000
set_option maxHeartbeats 4000000
namespace Go.Proofs.YtgijboakaodcgaaDoor.Aw
open Go.RowKit
/-- a contract whose answer is an own row, where the row is only read from now on -/
theorem Cg.data {P : Program} {T : World → Prop} {f : Nat} {xs : List S} {k : Nat} {t : TypeId} {e0 : List D} {es : List (List D)} (C : Cg P T f [] xs (fun r H => H = [(k, .row t e0 es)] ∧ r = .own k)) : Cg P T f [] xs (fun r H => H = [] ∧ r = .d (.row e0 es)) :=
  ⟨C.1, fun F w η vs hT hi hx => (C.2 F w η vs hT hi hx).mono (by
    rintro e w' ⟨r, v, Ho, η', rfl, ⟨rfl, rfl⟩, h1, h2⟩
    have hlk : lh [(k, Obj'.row t e0 es)] k = some (.row t e0 es) := by simp [lh]
    refine ⟨_, v, [], η, rfl, ⟨rfl, rfl⟩, ?_, ⟨fun k o hk => (by simp [lh] at hk), fun k o g hk => (by simp [lh] at hk), fun k k' o o' _ hk => (by simp [lh] at hk), fun k o hk => (by simp [lh] at hk), fun k _ => rfl, h2.bel⟩⟩
    simp only [RS] at h1 ⊢
    subst h1
    obtain ⟨xs', ho, r⟩ := h2.ob k _ hlk
    have hs : Sub (Gd w F [(k, Obj'.row t e0 es)] η') w' (Gd w F [] η) w' := fun b o hb ho => ⟨⟨hb.1, fun k o hk => by simp [lh] at hk⟩, ho⟩
    have r := RdE.mono hs _ _ _ _ r
    have hF : ∀ g, blk (η' k) = some g → Gd w F [] η g := fun g hg => ⟨by
      rcases (h2.ge k _ g hlk hg).2 with h3 | ⟨k', o', h3, _⟩
      · exact .inl h3
      · simp [lh] at h3, fun k o hk => by simp [lh] at hk⟩
    simp only [Rd]
    rcases ho.2 with ⟨hv, hn⟩ | ⟨g, cap, cur, hv, hb, hh, hc, hm, hcs, ht⟩
    · have : es = [] := List.eq_nil_of_length_eq_zero hn
      subst this
      exact ⟨none, 0, hv, Nat.le_refl _, .inl ⟨rfl, fun _ => rfl⟩⟩
    · refine ⟨_, cap, hv, hc, .inr ⟨_, cur, t, (0, 0), rfl, rfl, hF g (by rw [hv]; rfl), hh, r.congr fun j hj => ?_⟩⟩
      simp only [Nat.zero_add, List.getElem?_toArray]
      rw [← ht, List.getElem?_take, if_pos hj]
      simp)⟩
/-- arguments whose nils are rows of none -/
theorem Ct.wk {P : Program} {T : World → Prop} {f : Nat} {cs cs' : List S} {rest : List S} {fr : Bool} {post : S → Prop} (C : Ct P T f (.agg cs' :: rest) fr post) (h : wk cs cs') : Ct P T f (.agg cs :: rest) fr post :=
  ⟨C.1, fun F w vs hT hx => C.2 F w vs hT (by
    simp only [RSL] at hx ⊢
    obtain ⟨v, l, e, h1, h2⟩ := hx
    refine ⟨v, l, e, ?_, h2⟩
    simp only [RS] at h1 ⊢
    obtain ⟨ws, h3, h4⟩ := h1
    exact ⟨ws, h3, wk_ok h h4⟩)⟩
end Go.Proofs.YtgijboakaodcgaaDoor.Aw
namespace Go.Proofs.YtgijboakaodcgaaDoor.Aw
open Go.RowKit
attribute [local go_sem_proc] Nat.reduceAdd Nat.reduceMul Nat.reduceSub Nat.reduceEqDiff Nat.reduceLeDiff Nat.reduceBEq Nat.reduceBNe Int.reduceToNat reduceIte reduceCtorEq
attribute [local go_sem] initT SQ so pe he ev lk constS stp stc gdS nth pickS pickD loadS cellsAt okAt fieldAddrS fieldS partS indexAddrS indexS extractS binS binD binI isShift unS convS lenS sliceS bndI bndC mmS mm2 mmD builtS fillS okCells cellsS splS solid aliveL alive okS boxS allocS makeS bsliceS elemsOf dcells stF storeS frzA frz frzT frzS frzL frzO frzH appS srcS appVC killS killT killC killH killO k1 k2 S.has S.hasL St.add St.upd dropH lh cond_or cond_and rw_intC rw_intC0 rw_set rw_app rw_apps rw_rep rw_slice wr64 cond_true cond_false true_and and_true List.map_cons List.map_nil List.length_cons List.length_nil List.drop_succ_cons List.drop_zero List.take_succ_cons List.take_zero List.nil_append List.cons_append List.getD_cons_zero List.getD_cons_succ List.headD_cons List.length_map ite_true ite_false if_true if_false Bool.false_eq_true and_self forall_const List.drop_nil List.take_nil List.append_nil Option.map_some Option.map_none List.mapM_cons List.mapM_nil Option.bind_eq_bind Option.bind_some Option.pure_def knows resL resV oneS freshS freshL cv cvL stpL stcL or_true true_or or_false false_or List.all_cons List.all_nil Bool.and_self Bool.or_self Bool.true_and Bool.and_true Bool.or_false Bool.false_or implies_true flatD allm_nil allm_cons List.getElem?_cons_zero List.getElem?_cons_succ Nd.cs Nd.ds ml mln Option.isSome_some Option.isSome_none eq_self Int.toNat_natCast AP ldOk isLd inL subL crt chg chgS chgP idxs aliveW Option.toList_some Option.toList_none Option.toList RetG Nd.win frzA offK keepH aliveK nkH closedH closedO keysK inH St.upd rowO List.contains_cons List.contains_nil Bool.or_self Option.isNone_none Option.isNone_some Bool.not_true Bool.not_false gcs rowN e0N frzC
attribute [local go_sem] sz2 ag2 ok2 kk2 iu2 zc2 zd2 by2 sz3 ag3 ok3 kk3 iu3 zc3 zd3 by3 sz4 ag4 ok4 bo4 zc4 zd4 by4 sz5 ag5 ok5 kk5 iu5 zc5 zd5 by5 sz9 ag9 ok9 st9 zc9 zd9 by9 sz12 ag12 ok12 kk12 iu12 zc12 zd12 by12 sz15 ag15 ok15 zc15 by15 sz16 ag16 ok16 zc16 by16 sz21 ag21 ok21 kk21 iu21 zc21 zd21 by21 sz22 ag22 ok22 sl22 zc22 zd22 by22 sz23 ag23 ok23 zc23 zd23 pl23 by23 fl23_0 fl23_1 fl23_2 fl23_3 fl23_4 fl23_5 sz24 ag24 ok24 zc24 zd24 pl24 by24 fl24_0 fl24_1 fl24_2 fl24_3 fl24_4 fl24_5 sz26 ag26 ok26 zc26 zd26 pl26 by26 fl26_0 fl26_1 fl26_2 fl26_3 fl26_4 fl26_5 fl26_6 fl26_7 fl26_8 fl26_9 fl26_10 fl26_11 fl26_12 fl26_13 fl26_14 sz27 ag27 ok27 zc27 zd27 pl27 by27 fl27_0 fl27_1 fl27_2 fl27_3 fl27_4 fl27_5 fl27_6 fl27_7 fl27_8 fl27_9 fl27_10 fl27_11 fl27_12 fl27_13 fl27_14 sz28 ag28 ok28 sl28 zc28 zd28 by28 sz38 ag38 ok38 sl38 ar38 zc38 zd38 pl38 by38 sz44 ag44 ok44 sl44 ar44 zc44 zd44 pl44 by44 sz45 ag45 ok45 sl45 zc45 zd45 by45 sz46 ag46 ok46 zc46 zd46 pl46 by46 fl46_0 fl46_1 fl46_2 fl46_3 fl46_4 sz47 ag47 ok47 zc47 zd47 pl47 by47 fl47_0 fl47_1 fl47_2 fl47_3 fl47_4 sz49 ag49 ok49 kk49 iu49 zc49 zd49 by49 sz53 ag53 ok53 sl53 ar53 zc53 zd53 pl53 by53 sz54 ag54 ok54 kk54 iu54 zc54 zd54 by54 sz55 ag55 ok55 kk55 iu55 zc55 zd55 by55 sz56 ag56 ok56 sl56 zc56 zd56 by56 sz57 ag57 ok57 kk57 iu57 zc57 zd57 by57 sz60 ag60 ok60 zc60 zd60 pl60 by60 fl60_0 fl60_1 fl60_2 fl60_3 sz61 ag61 ok61 zc61 zd61 pl61 by61 fl61_0 fl61_1 fl61_2 fl61_3 sz64 ag64 ok64 zc64 by64 sz65 ag65 ok65 zc65 zd65 pl65 by65 fl65_0 fl65_1 sz66 ag66 ok66 zc66 zd66 pl66 by66 fl66_0 fl66_1 sz78 ag78 ok78 sl78 ar78 zc78 zd78 pl78 by78 sz79 ag79 ok79 sl79 ar79 zc79 zd79 pl79 by79 sz81 ag81 ok81 zc81 zd81 pl81 by81 fl81_0 fl81_1 sz82 ag82 ok82 zc82 zd82 pl82 by82 fl82_0 fl82_1 sz84 ag84 ok84 zc84 zd84 pl84 by84 fl84_0 fl84_1 fl84_2 fl84_3 sz85 ag85 ok85 zc85 zd85 pl85 by85 fl85_0 fl85_1 fl85_2 fl85_3 sz92 ag92 ok92 sl92 ar92 zc92 zd92 pl92 by92 sz101 ag101 ok101 zc101 zd101 pl101 by101 fl101_0 fl101_1 sz102 ag102 ok102 zc102 zd102 pl102 by102 fl102_0 fl102_1 sz109 ag109 ok109 zc109 zd109 pl109 by109 fl109_0 fl109_1 fl109_2 sz110 ag110 ok110 zc110 zd110 pl110 by110 fl110_0 fl110_1 fl110_2 sz120 ag120 ok120 sl120 ar120 zc120 zd120 pl120 by120 sz121 ag121 ok121 zc121 zd121 pl121 by121 fl121_0 fl121_1 sz122 ag122 ok122 sl122 ar122 zc122 zd122 pl122 by122 sz130 ag130 ok130 zc130 by130 sz140 ag140 ok140 kk140 iu140 zc140 zd140 by140 sz144 ag144 ok144 zc144 by144
section
attribute [local go_sem] frD spC Nd.wp Nd.wq frE
/-- nodes of their own that do what a Post does -/
def nSc (n : Nd) : Nd := ⟨10, [0], 0, 0, 0, 0, 0, 0, [], [], n.mult, n.shift, 0, 0, 0⟩
def nCl (n : Nd) : Nd := ⟨9, [0], 0, 0, 0, 0, 0, 0, [], [], 0, 0, n.low, n.high, 0⟩
theorem own_ok {m : Nd} {f : List Int} (hk : m.k = 9 ∨ m.k = 10) (hi : m.inn = [0]) (hp : m.post = 0) (he : m.else0 = true) (hz : m.sized f.length = true) (hf : 1 ≤ f.length ∧ f.length ≤ 16) (h32 : ∀ x ∈ f, in32 x) (hwl : m.ws = []) (hbl : m.bs = []) : KOk m [f] f.length := by
  have e1 : rWin m.k = false := by rcases hk with e | e <;> rw [e] <;> rfl
  have e2 : rMany m.k = false := by rcases hk with e | e <;> rw [e] <;> rfl
  refine ⟨hf, by simp, by simp, by simpa using h32, fun e => (by rw [e1] at e; cases e), fun e => (by rw [e2] at e; cases e), fun _ _ _ => rfl, ?_, by rw [hi]; simp, by rw [hwl]; simp, by rw [hbl]; simp⟩
  rw [hi]
  exact rchk_one (a := 0) (by omega) (by rcases hk with e | e <;> rw [e] <;> rfl) e2 hi hp he hz
theorem nSc_ok {n : Nd} {f : List Int} (hs : n.s27 = true) (hf : 1 ≤ f.length ∧ f.length ≤ 16) (h32 : ∀ x ∈ f, in32 x) : KOk (nSc n) [f] f.length := by
  obtain ⟨a, b, _⟩ := s27_iff hs
  refine own_ok (.inr rfl) rfl rfl (by unfold Nd.else0 Nd.e6 Nd.e8 Nd.e10 Nd.e12 Nd.bsc Nd.bcl Nd.bw; simp [nSc, rFour, rWeighs]) ?_ hf h32 rfl rfl
  show (inB n.mult 0 32767 && inB n.shift 0 30 && inB 0 (-2147483648) 2147483647 && inB 0 (-2147483648) 2147483647 && decide ((0 : Int) ≤ 0)) = true
  rw [inB_iff.2 a, inB_iff.2 b]; rfl
theorem nCl_ok {n : Nd} {f : List Int} (hs : n.s27 = true) (hf : 1 ≤ f.length ∧ f.length ≤ 16) (h32 : ∀ x ∈ f, in32 x) : KOk (nCl n) [f] f.length := by
  obtain ⟨_, _, a, b, c⟩ := s27_iff hs
  refine own_ok (.inl rfl) rfl rfl (by unfold Nd.else0 Nd.e6 Nd.e8 Nd.e10 Nd.e12 Nd.bsc Nd.bcl Nd.bw; simp [nCl, rFour, rWeighs]) ?_ hf h32 rfl rfl
  show (inB 0 0 32767 && inB 0 0 30 && inB n.low (-2147483648) 2147483647 && inB n.high (-2147483648) 2147483647 && decide (n.low ≤ n.high)) = true
  rw [inB_iff.2 (show -2147483648 ≤ n.low ∧ n.low ≤ 2147483647 by omega), inB_iff.2 (show -2147483648 ≤ n.high ∧ n.high ≤ 2147483647 by omega), decide_eq_true b]; rfl
theorem nSc_v (n : Nd) (f : List Int) : frameV (nSc n) [f] f.length = f.map (fun x => scaleV x n.mult n.shift) := eachL_one (fun x => scaleV x n.mult n.shift) f
theorem nCl_v (n : Nd) (f : List Int) : frameV (nCl n) [f] f.length = f.map (fun x => clampV x n.low n.high) := eachL_one (fun x => clampV x n.low n.high) f
def nBa (n : Nd) : Nd := n.wp 0 0 0 0 0
theorem nBa_ok {n : Nd} {fs : List (List Int)} {w : Nat} (h : KOk n fs w) (hw : rWeighs n.k = true) : KOk (nBa n) fs w := by
  refine h.wp hw (by omega) ?_ rfl
  show ((n.k == 10 || Go.bits .and .i64 0 1 == 1 || (0 : Int) == 0 && (0 : Int) == 0) && (n.k == 9 || Go.bits .and .i64 0 2 == 2 || (0 : Int) == 0 && (0 : Int) == 0)) = true
  simp
theorem nBa_pst (n : Nd) (x : Int) : (nBa n).pst x = clampV x (-2147483648) 2147483647 := by
  show (if (Go.bits .and .i64 0 2 != 0) = true then _ else if (Go.bits .and .i64 0 1 != 0) = true then _ else _) = _
  rw [if_neg (by decide), if_neg (by decide)]
def sc1 (n : Nd) (f : List Int) : List Int := if (Go.bits .and .i64 n.post 1 == 1) = true then f.map (fun x => scaleV x n.mult n.shift) else f
def cl1 (n : Nd) (f : List Int) : List Int := if (Go.bits .and .i64 n.post 2 == 2) = true then f.map (fun x => clampV x n.low n.high) else f
theorem post_nodes {n : Nd} {fs : List (List Int)} {w : Nat} (h : KOk n fs w) (hw : rWeighs n.k = true) : frameV n fs w = cl1 n (sc1 n (frameV (nBa n) fs w)) := by
  have hp := h.unpack
  have e1 : frameV n fs w = weighedN n fs w n.bs.length := by unfold frameV; rw [if_pos hw]; rfl
  have e2 : frameV (nBa n) fs w = weighedN (nBa n) fs w n.bs.length := by
    have : rWeighs (nBa n).k = true := hw
    unfold frameV; rw [if_pos this]; rfl
  rw [e1, e2]
  have key : ∀ x, n.pst x = (if (Go.bits .and .i64 n.post 2 == 2) = true then fun y => clampV y n.low n.high else id) ((if (Go.bits .and .i64 n.post 1 == 1) = true then fun y => scaleV y n.mult n.shift else id) ((nBa n).pst x)) := by
    intro x
    rw [nBa_pst]
    unfold Nd.pst
    have : n.post = 0 ∨ n.post = 1 ∨ n.post = 2 ∨ n.post = 3 := by omega
    rcases this with e | e | e | e <;> rw [e] <;> rfl
  rw [weighedN_map (n := n) (n' := nBa n) (fun y => (if (Go.bits .and .i64 n.post 2 == 2) = true then fun y => clampV y n.low n.high else id) ((if (Go.bits .and .i64 n.post 1 == 1) = true then fun y => scaleV y n.mult n.shift else id) y)) (fun c j => (accW_wp n fs w c 0 0 0 0 0 j).symm) key n.bs.length]
  unfold cl1 sc1
  split <;> split <;> simp [List.map_map] <;> rfl
theorem KernelPost_c {T : World → Prop} (Tk : KT T) (nums vals : List Int) (wd po : Int) (two small : Bool) : Cg Go.Proofs.Tryd.prog T 5 [] [.agg (spC nums vals wd po two small)] (fun r H => H = [] ∧ r = .d (.b true)) := by
  refine Cg_of [] Tk.m Go.Proofs.Tryd.func5 rfl rfl Go.Proofs.Tryd.ntmps5 (by simp) rfl (rs := [.tmp 2]) rfl fun E hP hn hT hpn => ?_
  (repeat (first | refine Tr.seq ?_ | refine Tr.skip ?_ | refine Tr.label ?_ | refine Tr.block ?_ | refine Tr.scope ?_ | refine gs1 ?_ | refine gs2 ?_ | refine gs3 ?_ | refine Tr.exit ?_ | refine Tr.goto ?_ | refine Tr.ret ?_ | refine n1 ?_ | refine n2 ?_ | refine n3 ?_ | refine n4 ?_ | refine n5 ?_ | refine n6 ?_ | refine n7 ?_ | refine n8 ?_ | refine n9 (by decide) ?_))
  (first | refine r1 ?_ | refine r2 ?_ | refine r3 ?_); intro K hK; simp only [go_sem, hP, hn]; (repeat (refine ⟨by first | trivial | omega | (simp <;> omega) | (simp +contextual; done) | (clear hK; grind), ?_⟩)); refine hK _ ?_; clear K hK
  (repeat (first | refine Tr.seq ?_ | refine Tr.skip ?_ | refine Tr.label ?_ | refine Tr.block ?_ | refine Tr.scope ?_ | refine gs1 ?_ | refine gs2 ?_ | refine gs3 ?_ | refine Tr.exit ?_ | refine Tr.goto ?_ | refine Tr.ret ?_ | refine n1 ?_ | refine n2 ?_ | refine n3 ?_ | refine n4 ?_ | refine n5 ?_ | refine n6 ?_ | refine n7 ?_ | refine n8 ?_ | refine n9 (by decide) ?_))
  (first | refine r1 ?_ | refine r2 ?_ | refine r3 ?_); intro K hK; simp only [go_sem, hP, hn]
  (repeat (refine ⟨by first | trivial | omega | (simp <;> omega) | (simp +contextual; done) | (clear hK; grind), ?_⟩))
  refine CallN_cs (Hi := [] ) (by rw [hP, hT]; exact  awake17_c Tk) rfl rfl rfl trivial (by simp only [go_sem, hP, hn]; try trivial) (by simp only [go_sem, hP, hn]; try rfl) (by simp only [inH, go_sem, hP, hn]; try simp) (by rw [hn]; decide) ?_; simp only [go_sem, hP, hn]; (repeat (refine ⟨by first | trivial | omega | (simp <;> omega) | (simp +contextual; done) | (clear hK; grind), ?_⟩))
  refine hK _ ?_; clear K hK
  (repeat (first | refine Tr.seq ?_ | refine Tr.skip ?_ | refine Tr.label ?_ | refine Tr.block ?_ | refine Tr.scope ?_ | refine gs1 ?_ | refine gs2 ?_ | refine gs3 ?_ | refine Tr.exit ?_ | refine Tr.goto ?_ | refine Tr.ret ?_ | refine n1 ?_ | refine n2 ?_ | refine n3 ?_ | refine n4 ?_ | refine n5 ?_ | refine n6 ?_ | refine n7 ?_ | refine n8 ?_ | refine n9 (by decide) ?_))
  (first | refine r1 ?_ | refine r2 ?_ | refine r3 ?_); intro K hK; simp only [go_sem, hP, hn]
  (repeat (refine ⟨by first | trivial | omega | (simp <;> omega) | (simp +contextual; done) | (clear hK; grind), ?_⟩))
  refine CallN_cx (Hi := []) (by rw [hP, hT]; exact made17_c Tk.m nums vals wd po two small ) rfl rfl rfl trivial (by simp only [go_sem, hP, hn]; try trivial) (by simp only [go_sem, hP, hn]; try rfl) trivial (by rw [hn]; decide) (fun r Ho hr => ?_); obtain  ⟨rfl, n, fs, w, rfl, hM⟩ := hr; refine ⟨fun k _ => hpn k rfl, ?_⟩; simp only [cgS, newK, touK, go_sem, hP, hn]; (repeat (refine ⟨by first | trivial | omega | (simp <;> omega) | (simp +contextual; done) | (clear hK; grind), ?_⟩))
  refine hK _ ?_; clear K hK
  have hk := hM.toKOk
  have hs := hk.s27
  have hm0 := hk.m0
  clear hM
  refine Tr.le (Le.keep [3, 4, 5]) ?_; simp only [List.map_cons, List.map_nil, lk, Nat.reduceEqDiff, reduceIte]
  (repeat (first | refine Tr.seq ?_ | refine Tr.skip ?_ | refine Tr.label ?_ | refine Tr.block ?_ | refine Tr.scope ?_ | refine gs1 ?_ | refine gs2 ?_ | refine gs3 ?_ | refine Tr.exit ?_ | refine Tr.goto ?_ | refine Tr.ret ?_ | refine n1 ?_ | refine n2 ?_ | refine n3 ?_ | refine n4 ?_ | refine n5 ?_ | refine n6 ?_ | refine n7 ?_ | refine n8 ?_ | refine n9 (by decide) ?_))
  (first | refine r1 ?_ | refine r2 ?_ | refine r3 ?_); intro K hK; simp only [go_sem, hP, hn]; (repeat (refine ⟨by first | trivial | omega | (simp <;> omega) | (simp +contextual; done) | (clear hK; grind), ?_⟩)); refine c1 (by rw [hP, hT]; exact weighs17_c Tk.m n) rfl rfl rfl trivial (by simp only [go_sem, hP, hn]; try trivial) (by simp only [go_sem, hP, hn]; try rfl) (by rw [hn]; decide) (by rfl) ?_; simp only [go_sem, hP, hn]; (repeat (refine ⟨by first | trivial | omega | (simp <;> omega) | (simp +contextual; done) | (clear hK; grind), ?_⟩)); refine hK _ ?_; clear K hK
  (repeat (first | refine Tr.seq ?_ | refine Tr.skip ?_ | refine Tr.label ?_ | refine Tr.block ?_ | refine Tr.scope ?_ | refine gs1 ?_ | refine gs2 ?_ | refine gs3 ?_ | refine Tr.exit ?_ | refine Tr.goto ?_ | refine Tr.ret ?_ | refine n1 ?_ | refine n2 ?_ | refine n3 ?_ | refine n4 ?_ | refine n5 ?_ | refine n6 ?_ | refine n7 ?_ | refine n8 ?_ | refine n9 (by decide) ?_))
  (first | refine r1 ?_ | refine r2 ?_ | refine r3 ?_); intro K hK; simp only [go_sem, hP, hn]; (repeat (refine ⟨by first | trivial | omega | (simp <;> omega) | (simp +contextual; done) | (clear hK; grind), ?_⟩)); refine hK _ ?_; clear K hK
  (repeat (first | refine Tr.seq ?_ | refine Tr.skip ?_ | refine Tr.label ?_ | refine Tr.block ?_ | refine Tr.scope ?_ | refine gs1 ?_ | refine gs2 ?_ | refine gs3 ?_ | refine Tr.exit ?_ | refine Tr.goto ?_ | refine Tr.ret ?_ | refine n1 ?_ | refine n2 ?_ | refine n3 ?_ | refine n4 ?_ | refine n5 ?_ | refine n6 ?_ | refine n7 ?_ | refine n8 ?_ | refine n9 (by decide) ?_))
  refine Tr.cond rfl (fun hw => ?_) (fun hw => ?_)
  · (repeat (first | ((first | refine r1 ?_ | refine r2 ?_ | refine r3 ?_); intro K hK; simp only [go_sem, hP, hn]; (repeat (refine ⟨by first | trivial | omega | (simp <;> omega) | (simp +contextual; done) | (clear hK; grind), ?_⟩)); refine hK _ ?_; clear K hK) | refine Tr.seq ?_ | refine Tr.skip ?_ | refine Tr.label ?_ | refine Tr.block ?_ | refine Tr.scope ?_ | refine gs1 ?_ | refine gs2 ?_ | refine gs3 ?_ | refine Tr.exit ?_ | refine Tr.goto ?_ | refine Tr.ret ?_ | refine n1 ?_ | refine n2 ?_ | refine n3 ?_ | refine n4 ?_ | refine n5 ?_ | refine n6 ?_ | refine n7 ?_ | refine n8 ?_ | refine n9 (by decide) ?_))
    simp only [RetG, go_sem]; (repeat (with_reducible refine And.intro ?_ ?_; (· first | trivial | omega | (simp <;> omega) | (simp +contextual; done) | (clear hK; grind))))
  have hw : rWeighs n.k = true := by simpa using hw
  have hb := nBa_ok hk hw
  have hb0 := (hk.wok hw).b0
  have hl : (frameV (nBa n) fs w).length = n.bs.length := by
    have : rWeighs (nBa n).k = true := hw
    unfold frameV; rw [if_pos this]; exact weighedN_len _ _ _ _
  have h32 : ∀ x ∈ frameV (nBa n) fs w, in32 x := by
    have : rWeighs (nBa n).k = true := hw
    unfold frameV; rw [if_pos this]; exact weighed_num (n := nBa n) (show (-2147483648 : Int) ≤ 0 by decide) (show (0 : Int) ≤ 0 by decide) (show (0 : Int) ≤ 2147483647 by decide) _
  have hpq := post_nodes hk hw
  refine Tr.le (Le.keep [3, 4, 5]) ?_; simp only [List.map_cons, List.map_nil, lk, Nat.reduceEqDiff, reduceIte]
  (repeat (first | refine Tr.seq ?_ | refine Tr.skip ?_ | refine Tr.label ?_ | refine Tr.block ?_ | refine Tr.scope ?_ | refine gs1 ?_ | refine gs2 ?_ | refine gs3 ?_ | refine Tr.exit ?_ | refine Tr.goto ?_ | refine Tr.ret ?_ | refine n1 ?_ | refine n2 ?_ | refine n3 ?_ | refine n4 ?_ | refine n5 ?_ | refine n6 ?_ | refine n7 ?_ | refine n8 ?_ | refine n9 (by decide) ?_))
  (first | refine r1 ?_ | refine r2 ?_ | refine r3 ?_); intro K hK; simp only [go_sem, hP, hn]; (repeat (refine ⟨by first | trivial | omega | (simp <;> omega) | (simp +contextual; done) | (clear hK; grind), ?_⟩)); refine hK _ ?_; clear K hK
  (repeat (first | refine Tr.seq ?_ | refine Tr.skip ?_ | refine Tr.label ?_ | refine Tr.block ?_ | refine Tr.scope ?_ | refine gs1 ?_ | refine gs2 ?_ | refine gs3 ?_ | refine Tr.exit ?_ | refine Tr.goto ?_ | refine Tr.ret ?_ | refine n1 ?_ | refine n2 ?_ | refine n3 ?_ | refine n4 ?_ | refine n5 ?_ | refine n6 ?_ | refine n7 ?_ | refine n8 ?_ | refine n9 (by decide) ?_))
  (first | refine r1 ?_ | refine r2 ?_ | refine r3 ?_); intro K hK; simp only [go_sem, hP, hn]; (repeat (refine ⟨by first | trivial | omega | (simp <;> omega) | (simp +contextual; done) | (clear hK; grind), ?_⟩)); refine hK _ ?_; clear K hK
  (repeat (first | refine Tr.seq ?_ | refine Tr.skip ?_ | refine Tr.label ?_ | refine Tr.block ?_ | refine Tr.scope ?_ | refine gs1 ?_ | refine gs2 ?_ | refine gs3 ?_ | refine Tr.exit ?_ | refine Tr.goto ?_ | refine Tr.ret ?_ | refine n1 ?_ | refine n2 ?_ | refine n3 ?_ | refine n4 ?_ | refine n5 ?_ | refine n6 ?_ | refine n7 ?_ | refine n8 ?_ | refine n9 (by decide) ?_))
  (first | refine r1 ?_ | refine r2 ?_ | refine r3 ?_); intro K hK; simp only [go_sem, hP, hn]; (repeat (refine ⟨by first | trivial | omega | (simp <;> omega) | (simp +contextual; done) | (clear hK; grind), ?_⟩)); refine hK _ ?_; clear K hK
  (repeat (first | refine Tr.seq ?_ | refine Tr.skip ?_ | refine Tr.label ?_ | refine Tr.block ?_ | refine Tr.scope ?_ | refine gs1 ?_ | refine gs2 ?_ | refine gs3 ?_ | refine Tr.exit ?_ | refine Tr.goto ?_ | refine Tr.ret ?_ | refine n1 ?_ | refine n2 ?_ | refine n3 ?_ | refine n4 ?_ | refine n5 ?_ | refine n6 ?_ | refine n7 ?_ | refine n8 ?_ | refine n9 (by decide) ?_))
  (first | refine r1 ?_ | refine r2 ?_ | refine r3 ?_); intro K hK; simp only [go_sem, hP, hn]; (repeat (refine ⟨by first | trivial | omega | (simp <;> omega) | (simp +contextual; done) | (clear hK; grind), ?_⟩)); refine hK _ ?_; clear K hK
  (repeat (first | refine Tr.seq ?_ | refine Tr.skip ?_ | refine Tr.label ?_ | refine Tr.block ?_ | refine Tr.scope ?_ | refine gs1 ?_ | refine gs2 ?_ | refine gs3 ?_ | refine Tr.exit ?_ | refine Tr.goto ?_ | refine Tr.ret ?_ | refine n1 ?_ | refine n2 ?_ | refine n3 ?_ | refine n4 ?_ | refine n5 ?_ | refine n6 ?_ | refine n7 ?_ | refine n8 ?_ | refine n9 (by decide) ?_))
  (first | refine r1 ?_ | refine r2 ?_ | refine r3 ?_); intro K hK; simp only [go_sem, hP, hn]; (repeat (refine ⟨by first | trivial | omega | (simp <;> omega) | (simp +contextual; done) | (clear hK; grind), ?_⟩)); refine hK _ ?_; clear K hK
  (repeat (first | refine Tr.seq ?_ | refine Tr.skip ?_ | refine Tr.label ?_ | refine Tr.block ?_ | refine Tr.scope ?_ | refine gs1 ?_ | refine gs2 ?_ | refine gs3 ?_ | refine Tr.exit ?_ | refine Tr.goto ?_ | refine Tr.ret ?_ | refine n1 ?_ | refine n2 ?_ | refine n3 ?_ | refine n4 ?_ | refine n5 ?_ | refine n6 ?_ | refine n7 ?_ | refine n8 ?_ | refine n9 (by decide) ?_))
  (first | refine r1 ?_ | refine r2 ?_ | refine r3 ?_); intro K hK; simp only [go_sem, hP, hn]; (repeat (refine ⟨by first | trivial | omega | (simp <;> omega) | (simp +contextual; done) | (clear hK; grind), ?_⟩)); refine hK _ ?_; clear K hK
  (repeat (first | refine Tr.seq ?_ | refine Tr.skip ?_ | refine Tr.label ?_ | refine Tr.block ?_ | refine Tr.scope ?_ | refine gs1 ?_ | refine gs2 ?_ | refine gs3 ?_ | refine Tr.exit ?_ | refine Tr.goto ?_ | refine Tr.ret ?_ | refine n1 ?_ | refine n2 ?_ | refine n3 ?_ | refine n4 ?_ | refine n5 ?_ | refine n6 ?_ | refine n7 ?_ | refine n8 ?_ | refine n9 (by decide) ?_))
  (first | refine r1 ?_ | refine r2 ?_ | refine r3 ?_); intro K hK; simp only [go_sem, hP, hn]
  (repeat (refine ⟨by first | trivial | omega | (simp <;> omega) | (simp +contextual; done) | (clear hK; grind), ?_⟩))
  refine CallN_cs (Hi := [] ) (by rw [hP, hT]; exact  (Frame_c Tk (nBa n) fs w hb).data) rfl rfl rfl trivial (by simp only [go_sem, hP, hn]; try trivial) (by simp only [go_sem, hP, hn]; try rfl) (by simp only [inH, go_sem, hP, hn]; try simp) (by rw [hn]; decide) ?_; simp only [go_sem, hP, hn]; (repeat (refine ⟨by first | trivial | omega | (simp <;> omega) | (simp +contextual; done) | (clear hK; grind), ?_⟩))
  refine hK _ ?_; clear K hK
  have hf : 1 ≤ (frameV (nBa n) fs w).length ∧ (frameV (nBa n) fs w).length ≤ 16 := by omega
  generalize frameV (nBa n) fs w = f at *
  have h1 := Frame_c Tk (nSc n) [f] f.length (nSc_ok hs hf h32)
  rw [nSc_v] at h1
  have hg : (sc1 n f).length = n.bs.length ∧ ∀ x ∈ sc1 n f, in32 x := by
    unfold sc1
    split
    · refine ⟨by simpa using hl, fun x hx => ?_⟩
      obtain ⟨y, _, rfl⟩ := List.mem_map.1 hx
      exact scale32 _ _ _
    · exact ⟨hl, h32⟩
  refine Tr.le (Le.keep [3, 4, 5, 8]) ?_; simp only [List.map_cons, List.map_nil, lk, Nat.reduceEqDiff, reduceIte]
  refine Tr.seq ?_
  refine Tr.meet (fun s => s = ⟨[(3, .d (.b true)), (4, .ptr 4 0), (5, .d (frD fs)), (8, .d (.row [.i .i64 0] ((sc1 n f).map intC)))], [(4, .box 27 n.cs)]⟩) ?_ ?_
  rotate_left
  · unfold sc1
    (repeat (first | refine Tr.seq ?_ | refine Tr.skip ?_ | refine Tr.label ?_ | refine Tr.block ?_ | refine Tr.scope ?_ | refine gs1 ?_ | refine gs2 ?_ | refine gs3 ?_ | refine Tr.exit ?_ | refine Tr.goto ?_ | refine Tr.ret ?_ | refine n1 ?_ | refine n2 ?_ | refine n3 ?_ | refine n4 ?_ | refine n5 ?_ | refine n6 ?_ | refine n7 ?_ | refine n8 ?_ | refine n9 (by decide) ?_))
    (first | refine r1 ?_ | refine r2 ?_ | refine r3 ?_); intro K hK; simp only [go_sem, hP, hn]; (repeat (refine ⟨by first | trivial | omega | (simp <;> omega) | (simp +contextual; done) | (clear hK; grind), ?_⟩)); refine hK _ ?_; clear K hK
    (repeat (first | refine Tr.seq ?_ | refine Tr.skip ?_ | refine Tr.label ?_ | refine Tr.block ?_ | refine Tr.scope ?_ | refine gs1 ?_ | refine gs2 ?_ | refine gs3 ?_ | refine Tr.exit ?_ | refine Tr.goto ?_ | refine Tr.ret ?_ | refine n1 ?_ | refine n2 ?_ | refine n3 ?_ | refine n4 ?_ | refine n5 ?_ | refine n6 ?_ | refine n7 ?_ | refine n8 ?_ | refine n9 (by decide) ?_))
    refine Tr.cond rfl (fun hq => ?_) (fun hq => ?_)
    · rw [if_pos hq]
      refine Tr.le (Le.keep [3, 4, 5, 8]) ?_; simp only [List.map_cons, List.map_nil, lk, Nat.reduceEqDiff, reduceIte]
      (repeat (first | refine Tr.seq ?_ | refine Tr.skip ?_ | refine Tr.label ?_ | refine Tr.block ?_ | refine Tr.scope ?_ | refine gs1 ?_ | refine gs2 ?_ | refine gs3 ?_ | refine Tr.exit ?_ | refine Tr.goto ?_ | refine Tr.ret ?_ | refine n1 ?_ | refine n2 ?_ | refine n3 ?_ | refine n4 ?_ | refine n5 ?_ | refine n6 ?_ | refine n7 ?_ | refine n8 ?_ | refine n9 (by decide) ?_))
      (first | refine r1 ?_ | refine r2 ?_ | refine r3 ?_); intro K hK; simp only [go_sem, hP, hn]
      (repeat (refine ⟨by first | trivial | omega | (simp <;> omega) | (simp +contextual; done) | (clear hK; grind), ?_⟩))
      refine CallN_frz 34 ?_; simp only [go_sem, hP, hn]
      refine CallN_frz 41 ?_; simp only [go_sem, hP, hn]
      refine CallN_le (Le.wagg 39 (nSc n).cs rfl (by simp [wk, Nd.cs, intC, nSc])) ?_
      simp only [go_sem, hP, hn]
      refine CallN_cs (Hi := [] ) (by rw [hP, hT]; exact  (h1).data) rfl rfl rfl trivial (by simp only [go_sem, hP, hn]; try trivial) (by simp only [go_sem, hP, hn]; try rfl) (by simp only [inH, go_sem, hP, hn]; try simp) (by rw [hn]; decide) ?_; simp only [go_sem, hP, hn]; (repeat (refine ⟨by first | trivial | omega | (simp <;> omega) | (simp +contextual; done) | (clear hK; grind), ?_⟩))
      refine hK _ ?_; clear K hK
      (repeat (first | refine Tr.seq ?_ | refine Tr.skip ?_ | refine Tr.label ?_ | refine Tr.block ?_ | refine Tr.scope ?_ | refine gs1 ?_ | refine gs2 ?_ | refine gs3 ?_ | refine Tr.exit ?_ | refine Tr.goto ?_ | refine Tr.ret ?_ | refine n1 ?_ | refine n2 ?_ | refine n3 ?_ | refine n4 ?_ | refine n5 ?_ | refine n6 ?_ | refine n7 ?_ | refine n8 ?_ | refine n9 (by decide) ?_))
      exact ⟨_, (Le.mv (by simp only [go_sem, hP, hn]; first | done | (simp; done) | (simp [intC]; done) | (repeat (first | rfl | constructor))) (by simp only [go_sem, hP, hn]; first | done | (simp; done) | (simp [intC]; done) | (repeat (first | rfl | constructor)))), rfl⟩
    · rw [if_neg (by rw [hq]; decide)]
      (repeat (first | refine Tr.seq ?_ | refine Tr.skip ?_ | refine Tr.label ?_ | refine Tr.block ?_ | refine Tr.scope ?_ | refine gs1 ?_ | refine gs2 ?_ | refine gs3 ?_ | refine Tr.exit ?_ | refine Tr.goto ?_ | refine Tr.ret ?_ | refine n1 ?_ | refine n2 ?_ | refine n3 ?_ | refine n4 ?_ | refine n5 ?_ | refine n6 ?_ | refine n7 ?_ | refine n8 ?_ | refine n9 (by decide) ?_))
      exact ⟨_, (Le.mv (by simp only [go_sem, hP, hn]; first | done | (simp; done) | (simp [intC]; done) | (repeat (first | rfl | constructor))) (by simp only [go_sem, hP, hn]; first | done | (simp; done) | (simp [intC]; done) | (repeat (first | rfl | constructor)))), rfl⟩
  rintro s rfl
  generalize sc1 n f = g at *
  have h2 := Frame_c Tk (nCl n) [g] g.length (nCl_ok hs (by omega) hg.2)
  rw [nCl_v] at h2
  refine Tr.seq ?_
  refine Tr.meet (fun s => s = ⟨[(3, .d (.b true)), (4, .ptr 4 0), (5, .d (frD fs)), (8, .d (.row [.i .i64 0] ((cl1 n g).map intC)))], [(4, .box 27 n.cs)]⟩) ?_ ?_
  rotate_left
  · unfold cl1
    (repeat (first | refine Tr.seq ?_ | refine Tr.skip ?_ | refine Tr.label ?_ | refine Tr.block ?_ | refine Tr.scope ?_ | refine gs1 ?_ | refine gs2 ?_ | refine gs3 ?_ | refine Tr.exit ?_ | refine Tr.goto ?_ | refine Tr.ret ?_ | refine n1 ?_ | refine n2 ?_ | refine n3 ?_ | refine n4 ?_ | refine n5 ?_ | refine n6 ?_ | refine n7 ?_ | refine n8 ?_ | refine n9 (by decide) ?_))
    (first | refine r1 ?_ | refine r2 ?_ | refine r3 ?_); intro K hK; simp only [go_sem, hP, hn]; (repeat (refine ⟨by first | trivial | omega | (simp <;> omega) | (simp +contextual; done) | (clear hK; grind), ?_⟩)); refine hK _ ?_; clear K hK
    (repeat (first | refine Tr.seq ?_ | refine Tr.skip ?_ | refine Tr.label ?_ | refine Tr.block ?_ | refine Tr.scope ?_ | refine gs1 ?_ | refine gs2 ?_ | refine gs3 ?_ | refine Tr.exit ?_ | refine Tr.goto ?_ | refine Tr.ret ?_ | refine n1 ?_ | refine n2 ?_ | refine n3 ?_ | refine n4 ?_ | refine n5 ?_ | refine n6 ?_ | refine n7 ?_ | refine n8 ?_ | refine n9 (by decide) ?_))
    refine Tr.cond rfl (fun hq => ?_) (fun hq => ?_)
    · rw [if_pos hq]
      refine Tr.le (Le.keep [3, 4, 5, 8]) ?_; simp only [List.map_cons, List.map_nil, lk, Nat.reduceEqDiff, reduceIte]
      (repeat (first | refine Tr.seq ?_ | refine Tr.skip ?_ | refine Tr.label ?_ | refine Tr.block ?_ | refine Tr.scope ?_ | refine gs1 ?_ | refine gs2 ?_ | refine gs3 ?_ | refine Tr.exit ?_ | refine Tr.goto ?_ | refine Tr.ret ?_ | refine n1 ?_ | refine n2 ?_ | refine n3 ?_ | refine n4 ?_ | refine n5 ?_ | refine n6 ?_ | refine n7 ?_ | refine n8 ?_ | refine n9 (by decide) ?_))
      (first | refine r1 ?_ | refine r2 ?_ | refine r3 ?_); intro K hK; simp only [go_sem, hP, hn]
      (repeat (refine ⟨by first | trivial | omega | (simp <;> omega) | (simp +contextual; done) | (clear hK; grind), ?_⟩))
      refine CallN_frz 47 ?_; simp only [go_sem, hP, hn]
      refine CallN_frz 54 ?_; simp only [go_sem, hP, hn]
      refine CallN_le (Le.wagg 52 (nCl n).cs rfl (by simp [wk, Nd.cs, intC, nCl])) ?_
      simp only [go_sem, hP, hn]
      refine CallN_cs (Hi := [] ) (by rw [hP, hT]; exact  (h2).data) rfl rfl rfl trivial (by simp only [go_sem, hP, hn]; try trivial) (by simp only [go_sem, hP, hn]; try rfl) (by simp only [inH, go_sem, hP, hn]; try simp) (by rw [hn]; decide) ?_; simp only [go_sem, hP, hn]; (repeat (refine ⟨by first | trivial | omega | (simp <;> omega) | (simp +contextual; done) | (clear hK; grind), ?_⟩))
      refine hK _ ?_; clear K hK
      (repeat (first | refine Tr.seq ?_ | refine Tr.skip ?_ | refine Tr.label ?_ | refine Tr.block ?_ | refine Tr.scope ?_ | refine gs1 ?_ | refine gs2 ?_ | refine gs3 ?_ | refine Tr.exit ?_ | refine Tr.goto ?_ | refine Tr.ret ?_ | refine n1 ?_ | refine n2 ?_ | refine n3 ?_ | refine n4 ?_ | refine n5 ?_ | refine n6 ?_ | refine n7 ?_ | refine n8 ?_ | refine n9 (by decide) ?_))
      exact ⟨_, (Le.mv (by simp only [go_sem, hP, hn]; first | done | (simp; done) | (simp [intC]; done) | (repeat (first | rfl | constructor))) (by simp only [go_sem, hP, hn]; first | done | (simp; done) | (simp [intC]; done) | (repeat (first | rfl | constructor)))), rfl⟩
    · rw [if_neg (by rw [hq]; decide)]
      (repeat (first | refine Tr.seq ?_ | refine Tr.skip ?_ | refine Tr.label ?_ | refine Tr.block ?_ | refine Tr.scope ?_ | refine gs1 ?_ | refine gs2 ?_ | refine gs3 ?_ | refine Tr.exit ?_ | refine Tr.goto ?_ | refine Tr.ret ?_ | refine n1 ?_ | refine n2 ?_ | refine n3 ?_ | refine n4 ?_ | refine n5 ?_ | refine n6 ?_ | refine n7 ?_ | refine n8 ?_ | refine n9 (by decide) ?_))
      exact ⟨_, (Le.mv (by simp only [go_sem, hP, hn]; first | done | (simp; done) | (simp [intC]; done) | (repeat (first | rfl | constructor))) (by simp only [go_sem, hP, hn]; first | done | (simp; done) | (simp [intC]; done) | (repeat (first | rfl | constructor)))), rfl⟩
  rintro s rfl
  have hcl : (cl1 n g).length = n.bs.length := by
    unfold cl1
    split
    · simpa using hg.1
    · exact hg.1
  (repeat (first | refine Tr.seq ?_ | refine Tr.skip ?_ | refine Tr.label ?_ | refine Tr.block ?_ | refine Tr.scope ?_ | refine gs1 ?_ | refine gs2 ?_ | refine gs3 ?_ | refine Tr.exit ?_ | refine Tr.goto ?_ | refine Tr.ret ?_ | refine n1 ?_ | refine n2 ?_ | refine n3 ?_ | refine n4 ?_ | refine n5 ?_ | refine n6 ?_ | refine n7 ?_ | refine n8 ?_ | refine n9 (by decide) ?_))
  (first | refine r1 ?_ | refine r2 ?_ | refine r3 ?_); intro K hK; simp only [go_sem, hP, hn]
  (repeat (refine ⟨by first | trivial | omega | (simp <;> omega) | (simp +contextual; done) | (clear hK; grind), ?_⟩))
  refine CallN_cs (Hi := [] ) (by rw [hP, hT]; exact  (Frame_c Tk n fs w hk).data) rfl rfl rfl trivial (by simp only [go_sem, hP, hn]; try trivial) (by simp only [go_sem, hP, hn]; try rfl) (by simp only [inH, go_sem, hP, hn]; try simp) (by rw [hn]; decide) ?_; simp only [go_sem, hP, hn]; (repeat (refine ⟨by first | trivial | omega | (simp <;> omega) | (simp +contextual; done) | (clear hK; grind), ?_⟩))
  rw [hpq]
  refine c1 (by rw [hP, hT]; exact Same_c Tk.m (cl1 n g) (cl1 n g) (by omega)) rfl rfl rfl trivial (by simp only [go_sem, hP, hn]; try trivial) (by simp only [go_sem, hP, hn]; try rfl) (by rw [hn]; decide) (by rfl) ?_; simp only [go_sem, hP, hn]; (repeat (refine ⟨by first | trivial | omega | (simp <;> omega) | (simp +contextual; done) | (clear hK; grind), ?_⟩))
  refine hK _ ?_; clear K hK
  (repeat (first | refine Tr.seq ?_ | refine Tr.skip ?_ | refine Tr.label ?_ | refine Tr.block ?_ | refine Tr.scope ?_ | refine gs1 ?_ | refine gs2 ?_ | refine gs3 ?_ | refine Tr.exit ?_ | refine Tr.goto ?_ | refine Tr.ret ?_ | refine n1 ?_ | refine n2 ?_ | refine n3 ?_ | refine n4 ?_ | refine n5 ?_ | refine n6 ?_ | refine n7 ?_ | refine n8 ?_ | refine n9 (by decide) ?_))
  (first | refine r1 ?_ | refine r2 ?_ | refine r3 ?_); intro K hK; simp only [go_sem, hP, hn]; (repeat (refine ⟨by first | trivial | omega | (simp <;> omega) | (simp +contextual; done) | (clear hK; grind), ?_⟩)); refine hK _ ?_; clear K hK
  (repeat (first | refine Tr.seq ?_ | refine Tr.skip ?_ | refine Tr.label ?_ | refine Tr.block ?_ | refine Tr.scope ?_ | refine gs1 ?_ | refine gs2 ?_ | refine gs3 ?_ | refine Tr.exit ?_ | refine Tr.goto ?_ | refine Tr.ret ?_ | refine n1 ?_ | refine n2 ?_ | refine n3 ?_ | refine n4 ?_ | refine n5 ?_ | refine n6 ?_ | refine n7 ?_ | refine n8 ?_ | refine n9 (by decide) ?_))
  simp only [RetG, go_sem]; (repeat (with_reducible refine And.intro ?_ ?_; (· first | trivial | omega | (simp <;> omega) | (simp +contextual; done) | (clear hK; grind))))
  rw [hcl]
  simp
end
end Go.Proofs.YtgijboakaodcgaaDoor.Aw
