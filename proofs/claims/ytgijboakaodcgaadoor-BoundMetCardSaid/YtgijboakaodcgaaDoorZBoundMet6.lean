/- The abstract walk, and contracts of Go functions: each call returns what the Lean function named tells. Conditions: those that each theorem names, none else. -/
import Derived.Test.YtgijboakaodcgaaDoorZBoundMet5
set_option linter.unusedVariables false
set_option linter.unusedSimpArgs false
set_option linter.unusedSectionVars false
set_option maxRecDepth 100000
set_option maxHeartbeats 4000000
namespace Go.Proofs.YtgijboakaodcgaaDoor.Aw
open Go.RowKit
/-! the plain law of kernels -/
theorem mostV_b (xs : List Int) (h : 1 ≤ xs.length) : 0 ≤ mostV xs ∧ mostV xs < xs.length := mostN_b xs h _ (Nat.le_refl _)
/-- another Post, another Bias, and what they need -/
def Nd.wq (n : Nd) (bs : List Int) (mu sh lo hi po : Int) : Nd := { n with bs := bs, mult := mu, shift := sh, low := lo, high := hi, post := po }
def Nd.wp (n : Nd) (mu sh lo hi po : Int) : Nd := n.wq n.bs mu sh lo hi po
theorem rchk_postq {n : Nd} {l bs : List Int} {mu sh lo hi po : Int} (h : n.rchk l = 0) (hw : rWeighs n.k = true) (hbl : bs.length = n.bs.length) (h21 : ∀ v m, n.s21 v m = false → (n.wq bs mu sh lo hi po).s21 v m = false) (h9 : 0 ≤ po ∧ po ≤ 3) (h12 : (n.wq bs mu sh lo hi po).e12 = true) (h27 : (n.wq bs mu sh lo hi po).s27 = true) : (n.wq bs mu sh lo hi po).rchk l = 0 := by
  obtain ⟨c1, c7, c9, he, hs, hL⟩ := rchk_unpack h
  have d1 : (n.wq bs mu sh lo hi po).chk1 l = false := c1
  have d7 : (n.wq bs mu sh lo hi po).r7 l = false := c7
  have d9 : (n.wq bs mu sh lo hi po).r9 = false := by
    show (decide (po < 0) || decide (3 < po) || po != 0 && !rWeighs n.k) = false
    rw [hw, decide_eq_false (by omega), decide_eq_false (by omega)]; simp
  have de : (n.wq bs mu sh lo hi po).else0 = true := by
    show (if n.e6 = true then false else if n.e8 = true then false else if (n.wq bs mu sh lo hi po).e10 = true then false else (n.wq bs mu sh lo hi po).e12) = true
    unfold Nd.else0 at he
    rw [h12]
    split at he
    · cases he
    · rename_i q1
      rw [if_neg q1]
      split at he
      · cases he
      · rename_i q2
        rw [if_neg q2]
        split at he
        · cases he
        · rename_i q3
          rw [if_neg (by rw [show (n.wq bs mu sh lo hi po).e10 = n.e10 by unfold Nd.e10; rw [show (n.wq bs mu sh lo hi po).bs.length = n.bs.length from hbl]; rfl]; exact q3)]
  have ds : (n.wq bs mu sh lo hi po).sized (rd l 0) = true := by
    show (if n.s4 = true then false else if n.s8 = true then false else if n.s10 = true then false else if n.s13 = true then false else
      if rWeighs n.k = true then (if ((n.wq bs mu sh lo hi po).s21 (rd l 0) (if (n.k == 2) = true then rd l 0 else n.wid)) = true then false else (n.wq bs mu sh lo hi po).s27) else (n.wq bs mu sh lo hi po).s27) = true
    unfold Nd.sized at hs
    rw [h27]
    rw [if_pos hw] at hs ⊢
    split at hs
    · cases hs
    · rename_i q1
      rw [if_neg q1]
      split at hs
      · cases hs
      · rename_i q2
        rw [if_neg q2]
        split at hs
        · cases hs
        · rename_i q3
          rw [if_neg q3]
          split at hs
          · cases hs
          · rename_i q4
            rw [if_neg q4]
            generalize (if (n.k == 2) = true then rd l 0 else n.wid) = mm at hs ⊢
            split at hs
            · cases hs
            · rename_i q5
              rw [if_neg (by rw [h21 _ _ (by simpa using q5)]; decide)]
  have dL : (n.wq bs mu sh lo hi po).chkL (rd l 0) 0 l = 0 := by
    have : ∀ (v s : Int) (l : List Int), (n.wq bs mu sh lo hi po).chkL v s l = n.chkL v s l := by
      intro v s l
      induction l generalizing s with
      | nil => rfl
      | cons x l ih => simp only [Nd.chkL]; rw [ih]; rfl
    exact (this _ _ _).trans hL
  unfold Nd.rchk
  rw [d1, d7, d9, de, ds, dL]
  rfl
theorem rchk_post {n : Nd} {l : List Int} {mu sh lo hi po : Int} (h : n.rchk l = 0) (hw : rWeighs n.k = true) (h9 : 0 ≤ po ∧ po ≤ 3) (h12 : (n.wp mu sh lo hi po).e12 = true) (h27 : (n.wp mu sh lo hi po).s27 = true) : (n.wp mu sh lo hi po).rchk l = 0 :=
  rchk_postq h hw rfl (fun _ _ h => h) h9 h12 h27
theorem KOk.wp {n : Nd} {fs : List (List Int)} {w : Nat} {mu sh lo hi po : Int} (h : KOk n fs w) (hw : rWeighs n.k = true) (h9 : 0 ≤ po ∧ po ≤ 3) (h12 : (n.wp mu sh lo hi po).e12 = true) (h27 : (n.wp mu sh lo hi po).s27 = true) : KOk (n.wp mu sh lo hi po) fs w :=
  ⟨h.w0, h.m0, h.len, h.num, h.win, h.many, h.one, rchk_post h.chk hw h9 h12 h27, h.il, h.wl, h.bl⟩
theorem KOk.s27 {n : Nd} {fs : List (List Int)} {w : Nat} (h : KOk n fs w) : n.s27 = true := by
  have hs := h.sized
  unfold Nd.sized at hs
  repeat' (split at hs <;> try (cases hs; done))
  all_goals exact hs
end Go.Proofs.YtgijboakaodcgaaDoor.Aw
namespace Go.Proofs.YtgijboakaodcgaaDoor.Aw
open Go.RowKit
attribute [local go_sem_proc] Nat.reduceAdd Nat.reduceMul Nat.reduceSub Nat.reduceEqDiff Nat.reduceLeDiff Nat.reduceBEq Nat.reduceBNe Int.reduceToNat reduceIte reduceCtorEq
attribute [local go_sem] initT SQ so pe he ev lk constS stp stc gdS nth pickS pickD loadS cellsAt okAt fieldAddrS fieldS partS indexAddrS indexS extractS binS binD binI isShift unS convS lenS sliceS bndI bndC mmS mm2 mmD builtS fillS okCells cellsS splS solid aliveL alive okS boxS allocS makeS bsliceS elemsOf dcells stF storeS frzA frz frzT frzS frzL frzO frzH appS srcS appVC killS killT killC killH killO k1 k2 S.has S.hasL St.add St.upd dropH lh cond_or cond_and rw_intC rw_intC0 rw_set rw_app rw_apps rw_rep rw_slice wr64 cond_true cond_false true_and and_true List.map_cons List.map_nil List.length_cons List.length_nil List.drop_succ_cons List.drop_zero List.take_succ_cons List.take_zero List.nil_append List.cons_append List.getD_cons_zero List.getD_cons_succ List.headD_cons List.length_map ite_true ite_false if_true if_false Bool.false_eq_true and_self forall_const List.drop_nil List.take_nil List.append_nil Option.map_some Option.map_none List.mapM_cons List.mapM_nil Option.bind_eq_bind Option.bind_some Option.pure_def knows resL resV oneS freshS freshL cv cvL stpL stcL or_true true_or or_false false_or List.all_cons List.all_nil Bool.and_self Bool.or_self Bool.true_and Bool.and_true Bool.or_false Bool.false_or implies_true flatD allm_nil allm_cons List.getElem?_cons_zero List.getElem?_cons_succ Nd.cs Nd.ds ml mln Option.isSome_some Option.isSome_none eq_self Int.toNat_natCast AP ldOk isLd inL subL crt chg chgS chgP idxs aliveW Option.toList_some Option.toList_none Option.toList RetG Nd.win frzA offK keepH aliveK nkH closedH closedO keysK inH St.upd rowO List.contains_cons List.contains_nil Bool.or_self Option.isNone_none Option.isNone_some Bool.not_true Bool.not_false gcs rowN e0N frzC
attribute [local go_sem] sz2 ag2 ok2 kk2 iu2 zc2 zd2 by2 sz3 ag3 ok3 kk3 iu3 zc3 zd3 by3 sz4 ag4 ok4 bo4 zc4 zd4 by4 sz5 ag5 ok5 kk5 iu5 zc5 zd5 by5 sz9 ag9 ok9 st9 zc9 zd9 by9 sz12 ag12 ok12 kk12 iu12 zc12 zd12 by12 sz15 ag15 ok15 zc15 by15 sz16 ag16 ok16 zc16 by16 sz21 ag21 ok21 kk21 iu21 zc21 zd21 by21 sz22 ag22 ok22 sl22 zc22 zd22 by22 sz23 ag23 ok23 zc23 zd23 pl23 by23 fl23_0 fl23_1 fl23_2 fl23_3 fl23_4 fl23_5 sz24 ag24 ok24 zc24 zd24 pl24 by24 fl24_0 fl24_1 fl24_2 fl24_3 fl24_4 fl24_5 sz26 ag26 ok26 zc26 zd26 pl26 by26 fl26_0 fl26_1 fl26_2 fl26_3 fl26_4 fl26_5 fl26_6 fl26_7 fl26_8 fl26_9 fl26_10 fl26_11 fl26_12 fl26_13 fl26_14 sz27 ag27 ok27 zc27 zd27 pl27 by27 fl27_0 fl27_1 fl27_2 fl27_3 fl27_4 fl27_5 fl27_6 fl27_7 fl27_8 fl27_9 fl27_10 fl27_11 fl27_12 fl27_13 fl27_14 sz28 ag28 ok28 sl28 zc28 zd28 by28 sz38 ag38 ok38 sl38 ar38 zc38 zd38 pl38 by38 sz44 ag44 ok44 sl44 ar44 zc44 zd44 pl44 by44 sz45 ag45 ok45 sl45 zc45 zd45 by45 sz46 ag46 ok46 zc46 zd46 pl46 by46 fl46_0 fl46_1 fl46_2 fl46_3 fl46_4 sz47 ag47 ok47 zc47 zd47 pl47 by47 fl47_0 fl47_1 fl47_2 fl47_3 fl47_4 sz49 ag49 ok49 kk49 iu49 zc49 zd49 by49 sz53 ag53 ok53 sl53 ar53 zc53 zd53 pl53 by53 sz54 ag54 ok54 kk54 iu54 zc54 zd54 by54 sz55 ag55 ok55 kk55 iu55 zc55 zd55 by55 sz56 ag56 ok56 sl56 zc56 zd56 by56 sz57 ag57 ok57 kk57 iu57 zc57 zd57 by57 sz60 ag60 ok60 zc60 zd60 pl60 by60 fl60_0 fl60_1 fl60_2 fl60_3 sz61 ag61 ok61 zc61 zd61 pl61 by61 fl61_0 fl61_1 fl61_2 fl61_3 sz64 ag64 ok64 zc64 by64 sz65 ag65 ok65 zc65 zd65 pl65 by65 fl65_0 fl65_1 sz66 ag66 ok66 zc66 zd66 pl66 by66 fl66_0 fl66_1 sz78 ag78 ok78 sl78 ar78 zc78 zd78 pl78 by78 sz79 ag79 ok79 sl79 ar79 zc79 zd79 pl79 by79 sz81 ag81 ok81 zc81 zd81 pl81 by81 fl81_0 fl81_1 sz82 ag82 ok82 zc82 zd82 pl82 by82 fl82_0 fl82_1 sz84 ag84 ok84 zc84 zd84 pl84 by84 fl84_0 fl84_1 fl84_2 fl84_3 sz85 ag85 ok85 zc85 zd85 pl85 by85 fl85_0 fl85_1 fl85_2 fl85_3 sz92 ag92 ok92 sl92 ar92 zc92 zd92 pl92 by92 sz101 ag101 ok101 zc101 zd101 pl101 by101 fl101_0 fl101_1 sz102 ag102 ok102 zc102 zd102 pl102 by102 fl102_0 fl102_1 sz109 ag109 ok109 zc109 zd109 pl109 by109 fl109_0 fl109_1 fl109_2 sz110 ag110 ok110 zc110 zd110 pl110 by110 fl110_0 fl110_1 fl110_2 sz120 ag120 ok120 sl120 ar120 zc120 zd120 pl120 by120 sz121 ag121 ok121 zc121 zd121 pl121 by121 fl121_0 fl121_1 sz122 ag122 ok122 sl122 ar122 zc122 zd122 pl122 by122 sz130 ag130 ok130 zc130 by130 sz140 ag140 ok140 kk140 iu140 zc140 zd140 by140 sz144 ag144 ok144 zc144 by144
section
attribute [local go_sem] frD
def gV (n : Nd) (xs : List Int) : Int :=
  if n.k = 3 ∨ n.k = 5 then rd xs (mostV xs)
  else if n.k = 4 ∨ n.k = 12 then meanV xs
  else if n.k = 7 then addV xs
  else if n.k = 9 then clampV (rd xs 0) n.low n.high
  else if n.k = 10 then scaleV (rd xs 0) n.mult n.shift
  else rd xs 0
theorem frame_each {n : Nd} {fs : List (List Int)} {w : Nat} (h : KOk n fs w) (h1 : rWeighs n.k = false) (h8 : n.k ≠ 8) (h11 : n.k ≠ 11) : frameV n fs w = eachL (gV n) fs w := by
  have hk := h.unpack
  have hq : n.k ≠ 1 ∧ n.k ≠ 2 ∧ n.k ≠ 6 := by
    unfold rWeighs at h1
    simp only [Bool.or_eq_false_iff, beq_eq_false_iff_ne, ne_eq] at h1
    omega
  unfold frameV
  rw [if_neg (by rw [h1]; decide)]
  have key : ∀ g : List Int → Int, (∀ xs, gV n xs = g xs) → eachL g fs w = eachL (gV n) fs w := fun g hg => by rw [show gV n = g from funext hg]
  split
  · rename_i h; exact key _ fun xs => by unfold gV; rw [if_pos h]
  rename_i h3
  split
  · rename_i h; exact key _ fun xs => by unfold gV; rw [if_neg h3, if_pos h]
  rename_i h4
  split
  · rename_i h; exact key _ fun xs => by unfold gV; rw [if_neg h3, if_neg h4, if_pos h]
  rename_i h7
  split
  · rename_i h; exact key _ fun xs => by unfold gV; rw [if_neg h3, if_neg h4, if_neg h7, if_pos h]
  rename_i h9
  split
  · rename_i h; exact key _ fun xs => by unfold gV; rw [if_neg h3, if_neg h4, if_neg h7, if_neg h9, if_pos h]
  omega
theorem rFrame_c {T : World → Prop} (Tm : TP T) (n : Nd) (fs : List (List Int)) (w : Nat) (h : KOk n fs w) : Cg Go.Proofs.Tryd.prog T 16 [] [.agg n.cs, .d (frD fs)] (fun r H => H = [] ∧ r = .d (.row [.i .i64 0] ((frameV n fs w).map intC))) := by
  have hm0 := h.m0
  have hw0 := h.w0
  have hun := h.unpack
  have hf0 : (fr fs 0).length = w := h.len _ (fr_mem (by omega) (by omega))
  have hfr0 : (fs.map frE).getD 0 [.nil] = [.row [.i .i64 0] ((fr fs 0).map intC)] := rw_fr fs 0 (by omega) (by omega)
  refine Cg_of [] Tm Go.Proofs.Tryd.func16 rfl rfl Go.Proofs.Tryd.ntmps16 (by simp) rfl (rs := [.tmp 4]) rfl fun E hP hn hT hpn => ?_
  (repeat (first | refine Tr.seq ?_ | refine Tr.skip ?_ | refine Tr.label ?_ | refine Tr.block ?_ | refine Tr.scope ?_ | refine gs1 ?_ | refine gs2 ?_ | refine gs3 ?_ | refine Tr.exit ?_ | refine Tr.goto ?_ | refine Tr.ret ?_ | refine n1 ?_ | refine n2 ?_ | refine n3 ?_ | refine n4 ?_ | refine n5 ?_ | refine n6 ?_ | refine n7 ?_ | refine n8 ?_ | refine n9 (by decide) ?_))
  (first | refine r1 ?_ | refine r2 ?_ | refine r3 ?_); intro K hK; simp only [go_sem, hP, hn]; (repeat (refine ⟨by first | trivial | omega | (simp <;> omega) | (simp +contextual; done) | (clear hK; grind), ?_⟩)); refine hK _ ?_; clear K hK
  (repeat (first | refine Tr.seq ?_ | refine Tr.skip ?_ | refine Tr.label ?_ | refine Tr.block ?_ | refine Tr.scope ?_ | refine gs1 ?_ | refine gs2 ?_ | refine gs3 ?_ | refine Tr.exit ?_ | refine Tr.goto ?_ | refine Tr.ret ?_ | refine n1 ?_ | refine n2 ?_ | refine n3 ?_ | refine n4 ?_ | refine n5 ?_ | refine n6 ?_ | refine n7 ?_ | refine n8 ?_ | refine n9 (by decide) ?_))
  (first | refine r1 ?_ | refine r2 ?_ | refine r3 ?_); intro K hK; simp only [go_sem, hP, hn]
  (repeat (refine ⟨by first | trivial | omega | (simp <;> omega) | (simp +contextual; done) | (clear hK; grind), ?_⟩))
  refine CallN_cs (Hi := [] ) (by rw [hP, hT]; exact  may17_c Tm n fs w h) rfl rfl rfl trivial (by simp only [go_sem, hP, hn]; try trivial) (by simp only [go_sem, hP, hn]; try rfl) (by simp only [inH, go_sem, hP, hn]; try simp) (by rw [hn]; decide) ?_; simp only [go_sem, hP, hn]; (repeat (refine ⟨by first | trivial | omega | (simp <;> omega) | (simp +contextual; done) | (clear hK; grind), ?_⟩))
  refine hK _ ?_; clear K hK
  (repeat (first | refine Tr.seq ?_ | refine Tr.skip ?_ | refine Tr.label ?_ | refine Tr.block ?_ | refine Tr.scope ?_ | refine gs1 ?_ | refine gs2 ?_ | refine gs3 ?_ | refine Tr.exit ?_ | refine Tr.goto ?_ | refine Tr.ret ?_ | refine n1 ?_ | refine n2 ?_ | refine n3 ?_ | refine n4 ?_ | refine n5 ?_ | refine n6 ?_ | refine n7 ?_ | refine n8 ?_ | refine n9 (by decide) ?_))
  (first | refine r1 ?_ | refine r2 ?_ | refine r3 ?_); intro K hK; simp only [go_sem, hP, hn]; (repeat (refine ⟨by first | trivial | omega | (simp <;> omega) | (simp +contextual; done) | (clear hK; grind), ?_⟩)); refine hK _ ?_; clear K hK
  (repeat (first | refine Tr.seq ?_ | refine Tr.skip ?_ | refine Tr.label ?_ | refine Tr.block ?_ | refine Tr.scope ?_ | refine gs1 ?_ | refine gs2 ?_ | refine gs3 ?_ | refine Tr.exit ?_ | refine Tr.goto ?_ | refine Tr.ret ?_ | refine n1 ?_ | refine n2 ?_ | refine n3 ?_ | refine n4 ?_ | refine n5 ?_ | refine n6 ?_ | refine n7 ?_ | refine n8 ?_ | refine n9 (by decide) ?_))
  refine Tr.cond rfl (fun h0 => ?_) (fun h0 => ?_)
  · cases h0
  clear h0
  (repeat (first | refine Tr.seq ?_ | refine Tr.skip ?_ | refine Tr.label ?_ | refine Tr.block ?_ | refine Tr.scope ?_ | refine gs1 ?_ | refine gs2 ?_ | refine gs3 ?_ | refine Tr.exit ?_ | refine Tr.goto ?_ | refine Tr.ret ?_ | refine n1 ?_ | refine n2 ?_ | refine n3 ?_ | refine n4 ?_ | refine n5 ?_ | refine n6 ?_ | refine n7 ?_ | refine n8 ?_ | refine n9 (by decide) ?_))
  (first | refine r1 ?_ | refine r2 ?_ | refine r3 ?_); intro K hK; simp only [go_sem, hP, hn]; (repeat (refine ⟨by first | trivial | omega | (simp <;> omega) | (simp +contextual; done) | (clear hK; grind), ?_⟩)); refine hK _ ?_; clear K hK
  refine Tr.le (Le.keep [1, 2, 6]) ?_; simp only [List.map_cons, List.map_nil, lk, Nat.reduceEqDiff, reduceIte]
  refine Tr.le (Le.nilslot 3001 6 3 [.i .i64 0] rfl (by rw [hpn] <;> rfl) rfl rfl) ?_
  refine Tr.seq ?_
  refine Tr.meet (fun s => (rWeighs n.k = false ∧ n.k ≠ 8 ∧ n.k ≠ 11) ∧ s = ⟨[(1, .d (frD fs)), (2, .ptr 2 0), (6, .own 3001)], [(2, .box 27 n.cs), (3001, .row 3 [.i .i64 0] (([] : List Int).map intC))]⟩) ?_ ?_
  rotate_left
  · (repeat (first | refine Tr.seq ?_ | refine Tr.skip ?_ | refine Tr.label ?_ | refine Tr.block ?_ | refine Tr.scope ?_ | refine gs1 ?_ | refine gs2 ?_ | refine gs3 ?_ | refine Tr.exit ?_ | refine Tr.goto ?_ | refine Tr.ret ?_ | refine n1 ?_ | refine n2 ?_ | refine n3 ?_ | refine n4 ?_ | refine n5 ?_ | refine n6 ?_ | refine n7 ?_ | refine n8 ?_ | refine n9 (by decide) ?_))
    (first | refine r1 ?_ | refine r2 ?_ | refine r3 ?_); intro K hK; simp only [go_sem, hP, hn]; (repeat (refine ⟨by first | trivial | omega | (simp <;> omega) | (simp +contextual; done) | (clear hK; grind), ?_⟩)); refine hK _ ?_; clear K hK
    refine Tr.le (Le.keep [1, 2, 6, 17]) ?_; simp only [List.map_cons, List.map_nil, lk, Nat.reduceEqDiff, reduceIte]
    refine Tr.block ?_
    refine Tr.seq ?_
    refine Tr.meet (fun s => s = ⟨[(1, .d (frD fs)), (2, .ptr 2 0), (6, .own 3001), (17, .d (.i .i64 n.k)), (18, .d (.b (rWeighs n.k)))], [(2, .box 27 n.cs), (3001, .row 3 [.i .i64 0] (([] : List Int).map intC))]⟩) ?_ ?_
    rotate_left
    · (repeat (first | refine Tr.seq ?_ | refine Tr.skip ?_ | refine Tr.label ?_ | refine Tr.block ?_ | refine Tr.scope ?_ | refine gs1 ?_ | refine gs2 ?_ | refine gs3 ?_ | refine Tr.exit ?_ | refine Tr.goto ?_ | refine Tr.ret ?_ | refine n1 ?_ | refine n2 ?_ | refine n3 ?_ | refine n4 ?_ | refine n5 ?_ | refine n6 ?_ | refine n7 ?_ | refine n8 ?_ | refine n9 (by decide) ?_))
      (first | refine r1 ?_ | refine r2 ?_ | refine r3 ?_); intro K hK; simp only [go_sem, hP, hn]; (repeat (refine ⟨by first | trivial | omega | (simp <;> omega) | (simp +contextual; done) | (clear hK; grind), ?_⟩)); refine hK _ ?_; clear K hK
      (repeat (first | refine Tr.seq ?_ | refine Tr.skip ?_ | refine Tr.label ?_ | refine Tr.block ?_ | refine Tr.scope ?_ | refine gs1 ?_ | refine gs2 ?_ | refine gs3 ?_ | refine Tr.exit ?_ | refine Tr.goto ?_ | refine Tr.ret ?_ | refine n1 ?_ | refine n2 ?_ | refine n3 ?_ | refine n4 ?_ | refine n5 ?_ | refine n6 ?_ | refine n7 ?_ | refine n8 ?_ | refine n9 (by decide) ?_))
      refine Tr.cond rfl (fun h1 => ?_) (fun h1 => ?_)
      · rw [h1, show rWeighs n.k = true by unfold rWeighs; rw [h1]; rfl]
        (repeat (first | refine Tr.seq ?_ | refine Tr.skip ?_ | refine Tr.label ?_ | refine Tr.block ?_ | refine Tr.scope ?_ | refine gs1 ?_ | refine gs2 ?_ | refine gs3 ?_ | refine Tr.exit ?_ | refine Tr.goto ?_ | refine Tr.ret ?_ | refine n1 ?_ | refine n2 ?_ | refine n3 ?_ | refine n4 ?_ | refine n5 ?_ | refine n6 ?_ | refine n7 ?_ | refine n8 ?_ | refine n9 (by decide) ?_))
        exact ⟨_, (Le.mv (by simp only [go_sem, hP, hn]; first | done | (simp; done) | (simp [intC]; done) | (repeat (first | rfl | constructor))) (by simp only [go_sem, hP, hn]; first | done | (simp; done) | (simp [intC]; done) | (repeat (first | rfl | constructor)))), rfl⟩
      (repeat (first | refine Tr.seq ?_ | refine Tr.skip ?_ | refine Tr.label ?_ | refine Tr.block ?_ | refine Tr.scope ?_ | refine gs1 ?_ | refine gs2 ?_ | refine gs3 ?_ | refine Tr.exit ?_ | refine Tr.goto ?_ | refine Tr.ret ?_ | refine n1 ?_ | refine n2 ?_ | refine n3 ?_ | refine n4 ?_ | refine n5 ?_ | refine n6 ?_ | refine n7 ?_ | refine n8 ?_ | refine n9 (by decide) ?_))
      (first | refine r1 ?_ | refine r2 ?_ | refine r3 ?_); intro K hK; simp only [go_sem, hP, hn]; (repeat (refine ⟨by first | trivial | omega | (simp <;> omega) | (simp +contextual; done) | (clear hK; grind), ?_⟩)); refine hK _ ?_; clear K hK
      (repeat (first | refine Tr.seq ?_ | refine Tr.skip ?_ | refine Tr.label ?_ | refine Tr.block ?_ | refine Tr.scope ?_ | refine gs1 ?_ | refine gs2 ?_ | refine gs3 ?_ | refine Tr.exit ?_ | refine Tr.goto ?_ | refine Tr.ret ?_ | refine n1 ?_ | refine n2 ?_ | refine n3 ?_ | refine n4 ?_ | refine n5 ?_ | refine n6 ?_ | refine n7 ?_ | refine n8 ?_ | refine n9 (by decide) ?_))
      refine Tr.cond rfl (fun h2 => ?_) (fun h2 => ?_)
      · rw [h2, show rWeighs n.k = true by unfold rWeighs; rw [h2, Bool.or_true]; rfl]
        (repeat (first | refine Tr.seq ?_ | refine Tr.skip ?_ | refine Tr.label ?_ | refine Tr.block ?_ | refine Tr.scope ?_ | refine gs1 ?_ | refine gs2 ?_ | refine gs3 ?_ | refine Tr.exit ?_ | refine Tr.goto ?_ | refine Tr.ret ?_ | refine n1 ?_ | refine n2 ?_ | refine n3 ?_ | refine n4 ?_ | refine n5 ?_ | refine n6 ?_ | refine n7 ?_ | refine n8 ?_ | refine n9 (by decide) ?_))
        exact ⟨_, (Le.mv (by simp only [go_sem, hP, hn]; first | done | (simp; done) | (simp [intC]; done) | (repeat (first | rfl | constructor))) (by simp only [go_sem, hP, hn]; first | done | (simp; done) | (simp [intC]; done) | (repeat (first | rfl | constructor)))), rfl⟩
      (repeat (first | refine Tr.seq ?_ | refine Tr.skip ?_ | refine Tr.label ?_ | refine Tr.block ?_ | refine Tr.scope ?_ | refine gs1 ?_ | refine gs2 ?_ | refine gs3 ?_ | refine Tr.exit ?_ | refine Tr.goto ?_ | refine Tr.ret ?_ | refine n1 ?_ | refine n2 ?_ | refine n3 ?_ | refine n4 ?_ | refine n5 ?_ | refine n6 ?_ | refine n7 ?_ | refine n8 ?_ | refine n9 (by decide) ?_))
      (first | refine r1 ?_ | refine r2 ?_ | refine r3 ?_); intro K hK; simp only [go_sem, hP, hn]; (repeat (refine ⟨by first | trivial | omega | (simp <;> omega) | (simp +contextual; done) | (clear hK; grind), ?_⟩)); refine hK _ ?_; clear K hK
      (repeat (first | refine Tr.seq ?_ | refine Tr.skip ?_ | refine Tr.label ?_ | refine Tr.block ?_ | refine Tr.scope ?_ | refine gs1 ?_ | refine gs2 ?_ | refine gs3 ?_ | refine Tr.exit ?_ | refine Tr.goto ?_ | refine Tr.ret ?_ | refine n1 ?_ | refine n2 ?_ | refine n3 ?_ | refine n4 ?_ | refine n5 ?_ | refine n6 ?_ | refine n7 ?_ | refine n8 ?_ | refine n9 (by decide) ?_))
      rw [show rWeighs n.k = (n.k == 6) by unfold rWeighs; rw [h1, h2]; rfl]
      exact ⟨_, (Le.mv (by simp only [go_sem, hP, hn]; first | done | (simp; done) | (simp [intC]; done) | (repeat (first | rfl | constructor))) (by simp only [go_sem, hP, hn]; first | done | (simp; done) | (simp [intC]; done) | (repeat (first | rfl | constructor)))), rfl⟩
    rintro s rfl
    (repeat (first | refine Tr.seq ?_ | refine Tr.skip ?_ | refine Tr.label ?_ | refine Tr.block ?_ | refine Tr.scope ?_ | refine gs1 ?_ | refine gs2 ?_ | refine gs3 ?_ | refine Tr.exit ?_ | refine Tr.goto ?_ | refine Tr.ret ?_ | refine n1 ?_ | refine n2 ?_ | refine n3 ?_ | refine n4 ?_ | refine n5 ?_ | refine n6 ?_ | refine n7 ?_ | refine n8 ?_ | refine n9 (by decide) ?_))
    refine Tr.cond rfl (fun hw => ?_) (fun hw => ?_)
    · (repeat (first | refine Tr.seq ?_ | refine Tr.skip ?_ | refine Tr.label ?_ | refine Tr.block ?_ | refine Tr.scope ?_ | refine gs1 ?_ | refine gs2 ?_ | refine gs3 ?_ | refine Tr.exit ?_ | refine Tr.goto ?_ | refine Tr.ret ?_ | refine n1 ?_ | refine n2 ?_ | refine n3 ?_ | refine n4 ?_ | refine n5 ?_ | refine n6 ?_ | refine n7 ?_ | refine n8 ?_ | refine n9 (by decide) ?_))
      (first | refine r1 ?_ | refine r2 ?_ | refine r3 ?_); intro K hK; simp only [go_sem, hP, hn]
      (repeat (refine ⟨by first | trivial | omega | (simp <;> omega) | (simp +contextual; done) | (clear hK; grind), ?_⟩))
      refine CallN_cs (Hi := [] ) (by rw [hP, hT]; exact  rweighed_c Tm n fs w (h.wok hw) ⟨hun.2.2.1, hun.2.2.2.1⟩) rfl rfl rfl trivial (by simp only [go_sem, hP, hn]; try trivial) (by simp only [go_sem, hP, hn]; try rfl) (by simp only [inH, go_sem, hP, hn]; try simp) (by rw [hn]; decide) ?_; simp only [go_sem, hP, hn]; (repeat (refine ⟨by first | trivial | omega | (simp <;> omega) | (simp +contextual; done) | (clear hK; grind), ?_⟩))
      refine hK _ ?_; clear K hK
      (repeat (first | ((first | refine r1 ?_ | refine r2 ?_ | refine r3 ?_); intro K hK; simp only [go_sem, hP, hn]; (repeat (refine ⟨by first | trivial | omega | (simp <;> omega) | (simp +contextual; done) | (clear hK; grind), ?_⟩)); refine hK _ ?_; clear K hK) | refine Tr.seq ?_ | refine Tr.skip ?_ | refine Tr.label ?_ | refine Tr.block ?_ | refine Tr.scope ?_ | refine gs1 ?_ | refine gs2 ?_ | refine gs3 ?_ | refine Tr.exit ?_ | refine Tr.goto ?_ | refine Tr.ret ?_ | refine n1 ?_ | refine n2 ?_ | refine n3 ?_ | refine n4 ?_ | refine n5 ?_ | refine n6 ?_ | refine n7 ?_ | refine n8 ?_ | refine n9 (by decide) ?_))
      simp only [RetG, go_sem]; (repeat (with_reducible refine And.intro ?_ ?_; (· first | trivial | omega | (simp <;> omega) | (simp +contextual; done) | (clear hK; grind))))
      unfold frameV
      rw [if_pos hw]
    (repeat (first | refine Tr.seq ?_ | refine Tr.skip ?_ | refine Tr.label ?_ | refine Tr.block ?_ | refine Tr.scope ?_ | refine gs1 ?_ | refine gs2 ?_ | refine gs3 ?_ | refine Tr.exit ?_ | refine Tr.goto ?_ | refine Tr.ret ?_ | refine n1 ?_ | refine n2 ?_ | refine n3 ?_ | refine n4 ?_ | refine n5 ?_ | refine n6 ?_ | refine n7 ?_ | refine n8 ?_ | refine n9 (by decide) ?_))
    (first | refine r1 ?_ | refine r2 ?_ | refine r3 ?_); intro K hK; simp only [go_sem, hP, hn]; (repeat (refine ⟨by first | trivial | omega | (simp <;> omega) | (simp +contextual; done) | (clear hK; grind), ?_⟩)); refine hK _ ?_; clear K hK
    (repeat (first | refine Tr.seq ?_ | refine Tr.skip ?_ | refine Tr.label ?_ | refine Tr.block ?_ | refine Tr.scope ?_ | refine gs1 ?_ | refine gs2 ?_ | refine gs3 ?_ | refine Tr.exit ?_ | refine Tr.goto ?_ | refine Tr.ret ?_ | refine n1 ?_ | refine n2 ?_ | refine n3 ?_ | refine n4 ?_ | refine n5 ?_ | refine n6 ?_ | refine n7 ?_ | refine n8 ?_ | refine n9 (by decide) ?_))
    refine Tr.cond rfl (fun h8 => ?_) (fun h8 => ?_)
    · have hk8 : n.k = 8 := by simpa using h8
      have hFv : frameV n fs w = fs.flatten := by
        unfold frameV
        rw [if_neg (by rw [hw]; decide), if_neg (by omega), if_neg (by omega), if_neg (by omega), if_neg (by omega), if_neg (by omega), if_neg (by omega)]
      rw [hFv]
      (repeat (first | refine Tr.seq ?_ | refine Tr.skip ?_ | refine Tr.label ?_ | refine Tr.block ?_ | refine Tr.scope ?_ | refine gs1 ?_ | refine gs2 ?_ | refine gs3 ?_ | refine Tr.exit ?_ | refine Tr.goto ?_ | refine Tr.ret ?_ | refine n1 ?_ | refine n2 ?_ | refine n3 ?_ | refine n4 ?_ | refine n5 ?_ | refine n6 ?_ | refine n7 ?_ | refine n8 ?_ | refine n9 (by decide) ?_))
      (first | refine r1 ?_ | refine r2 ?_ | refine r3 ?_); intro K hK; simp only [go_sem, hP, hn]; (repeat (refine ⟨by first | trivial | omega | (simp <;> omega) | (simp +contextual; done) | (clear hK; grind), ?_⟩)); refine hK _ ?_; clear K hK
      (repeat (first | refine Tr.seq ?_ | refine Tr.skip ?_ | refine Tr.label ?_ | refine Tr.block ?_ | refine Tr.scope ?_ | refine gs1 ?_ | refine gs2 ?_ | refine gs3 ?_ | refine Tr.exit ?_ | refine Tr.goto ?_ | refine Tr.ret ?_ | refine n1 ?_ | refine n2 ?_ | refine n3 ?_ | refine n4 ?_ | refine n5 ?_ | refine n6 ?_ | refine n7 ?_ | refine n8 ?_ | refine n9 (by decide) ?_))
      refine Tr.le (Le.keep [1, 6, 7]) ?_; simp only [List.map_cons, List.map_nil, lk, Nat.reduceEqDiff, reduceIte]
      refine Tr.loop (fun q s => ∃ (i : Int) (L : List Int), s = ⟨[(1, .d (frD fs)), (6, .own 3001), (7, .d (.i .i64 i))], [(3001, .row 3 [.i .i64 0] (L.map intC))]⟩ ∧ 0 ≤ i ∧ i + q = fs.length ∧ L = (fs.take i.toNat).flatten ∧ L.length ≤ i.toNat * 16) fs.length ⟨_, (Le.mv (by simp only [go_sem, hP, hn]; first | done | (simp; done) | (simp [intC]; done) | (repeat (first | rfl | constructor))) (by simp only [go_sem, hP, hn]; first | done | (simp; done) | (simp [intC]; done) | (repeat (first | rfl | constructor)))), 0, [], rfl, by omega, by omega, rfl, by simp⟩ ?_
      rintro q s ⟨i, L, rfl, i0, iq, hL, hLl⟩
      (repeat (first | refine Tr.seq ?_ | refine Tr.skip ?_ | refine Tr.label ?_ | refine Tr.block ?_ | refine Tr.scope ?_ | refine gs1 ?_ | refine gs2 ?_ | refine gs3 ?_ | refine Tr.exit ?_ | refine Tr.goto ?_ | refine Tr.ret ?_ | refine n1 ?_ | refine n2 ?_ | refine n3 ?_ | refine n4 ?_ | refine n5 ?_ | refine n6 ?_ | refine n7 ?_ | refine n8 ?_ | refine n9 (by decide) ?_))
      (first | refine r1 ?_ | refine r2 ?_ | refine r3 ?_); intro K hK; simp only [go_sem, hP, hn]; (repeat (refine ⟨by first | trivial | omega | (simp <;> omega) | (simp +contextual; done) | (clear hK; grind), ?_⟩)); refine hK _ ?_; clear K hK
      (repeat (first | refine Tr.seq ?_ | refine Tr.skip ?_ | refine Tr.label ?_ | refine Tr.block ?_ | refine Tr.scope ?_ | refine gs1 ?_ | refine gs2 ?_ | refine gs3 ?_ | refine Tr.exit ?_ | refine Tr.goto ?_ | refine Tr.ret ?_ | refine n1 ?_ | refine n2 ?_ | refine n3 ?_ | refine n4 ?_ | refine n5 ?_ | refine n6 ?_ | refine n7 ?_ | refine n8 ?_ | refine n9 (by decide) ?_))
      refine Tr.cond rfl (fun hb => ?_) (fun hb => ?_)
      · have hi : i < fs.length := by simpa using hb
        have hfl := h.len _ (fr_mem i0 hi)
        clear hb
        (repeat (first | refine Tr.seq ?_ | refine Tr.skip ?_ | refine Tr.label ?_ | refine Tr.block ?_ | refine Tr.scope ?_ | refine gs1 ?_ | refine gs2 ?_ | refine gs3 ?_ | refine Tr.exit ?_ | refine Tr.goto ?_ | refine Tr.ret ?_ | refine n1 ?_ | refine n2 ?_ | refine n3 ?_ | refine n4 ?_ | refine n5 ?_ | refine n6 ?_ | refine n7 ?_ | refine n8 ?_ | refine n9 (by decide) ?_))
        (first | refine r1 ?_ | refine r2 ?_ | refine r3 ?_); intro K hK; simp only [go_sem, hP, hn]
        rw [rw_fr fs i i0 hi]
        simp only [go_sem, hP, hn]
        (repeat (refine ⟨by first | trivial | omega | (simp <;> omega) | (simp +contextual; done) | (clear hK; grind), ?_⟩))
        refine hK _ ?_; clear K hK
        (repeat (first | refine Tr.seq ?_ | refine Tr.skip ?_ | refine Tr.label ?_ | refine Tr.block ?_ | refine Tr.scope ?_ | refine gs1 ?_ | refine gs2 ?_ | refine gs3 ?_ | refine Tr.exit ?_ | refine Tr.goto ?_ | refine Tr.ret ?_ | refine n1 ?_ | refine n2 ?_ | refine n3 ?_ | refine n4 ?_ | refine n5 ?_ | refine n6 ?_ | refine n7 ?_ | refine n8 ?_ | refine n9 (by decide) ?_))
        (first | refine r1 ?_ | refine r2 ?_ | refine r3 ?_); intro K hK; simp only [go_sem, hP, hn]; (repeat (refine ⟨by first | trivial | omega | (simp <;> omega) | (simp +contextual; done) | (clear hK; grind), ?_⟩)); refine hK _ ?_; clear K hK
        (repeat (first | refine Tr.seq ?_ | refine Tr.skip ?_ | refine Tr.label ?_ | refine Tr.block ?_ | refine Tr.scope ?_ | refine gs1 ?_ | refine gs2 ?_ | refine gs3 ?_ | refine Tr.exit ?_ | refine Tr.goto ?_ | refine Tr.ret ?_ | refine n1 ?_ | refine n2 ?_ | refine n3 ?_ | refine n4 ?_ | refine n5 ?_ | refine n6 ?_ | refine n7 ?_ | refine n8 ?_ | refine n9 (by decide) ?_))
        rw [w64 (x := i + 1) (by omega) (by omega)]
        refine ⟨q - 1, _, by omega, ?_, i + 1, L ++ fr fs i, rfl, by omega, by omega, ?_, by rw [List.length_append]; omega⟩
        · refine Le.trans (b := ⟨[(1, .d (frD fs)), (6, .own 38), (7, .d (.i .i64 (i + 1)))], [(38, .row 3 [.i .i64 0] ((L ++ fr fs i).map intC))]⟩) (Le.mv (by simp only [go_sem, hP, hn]; first | done | (simp; done) | (simp [intC]; done) | (repeat (first | rfl | constructor))) (by simp only [go_sem, hP, hn]; first | done | (simp; done) | (simp [intC]; done) | (repeat (first | rfl | constructor)))) ?_
          refine Le.trans (Le.ren 38 3001 (by rw [hpn] <;> rfl) rfl rfl) ?_; simp only [renT, renH, renO, renS, renL, rn, go_sem, hP, hn]
          exact (Le.mv (by simp only [go_sem, hP, hn]; first | done | (simp; done) | (simp [intC]; done) | (repeat (first | rfl | constructor))) (by simp only [go_sem, hP, hn]; first | done | (simp; done) | (simp [intC]; done) | (repeat (first | rfl | constructor))))
        · have hk : i.toNat < fs.length := by omega
          rw [hL, show (i + 1).toNat = i.toNat + 1 by omega, List.take_succ_eq_append_getElem hk, List.flatten_append]
          unfold fr
          rw [List.getD_eq_getElem?_getD, List.getElem?_eq_getElem hk]
          simp
      · have hi : i = fs.length := by have := of_decide_eq_false hb; omega
        subst hi
        rw [Int.toNat_natCast, List.take_of_length_le (Nat.le_refl _)] at hL
        subst hL
        refine Tr.le (Le.freeze 3001) ?_
        simp only [go_sem, hP, hn]
        (repeat (first | ((first | refine r1 ?_ | refine r2 ?_ | refine r3 ?_); intro K hK; simp only [go_sem, hP, hn]; (repeat (refine ⟨by first | trivial | omega | (simp <;> omega) | (simp +contextual; done) | (clear hK; grind), ?_⟩)); refine hK _ ?_; clear K hK) | refine Tr.seq ?_ | refine Tr.skip ?_ | refine Tr.label ?_ | refine Tr.block ?_ | refine Tr.scope ?_ | refine gs1 ?_ | refine gs2 ?_ | refine gs3 ?_ | refine Tr.exit ?_ | refine Tr.goto ?_ | refine Tr.ret ?_ | refine n1 ?_ | refine n2 ?_ | refine n3 ?_ | refine n4 ?_ | refine n5 ?_ | refine n6 ?_ | refine n7 ?_ | refine n8 ?_ | refine n9 (by decide) ?_))
        simp only [RetG, go_sem]; (repeat (with_reducible refine And.intro ?_ ?_; (· first | trivial | omega | (simp <;> omega) | (simp +contextual; done) | (clear hK; grind))))
    have hk8 : n.k ≠ 8 := by simpa using h8
    (repeat (first | refine Tr.seq ?_ | refine Tr.skip ?_ | refine Tr.label ?_ | refine Tr.block ?_ | refine Tr.scope ?_ | refine gs1 ?_ | refine gs2 ?_ | refine gs3 ?_ | refine Tr.exit ?_ | refine Tr.goto ?_ | refine Tr.ret ?_ | refine n1 ?_ | refine n2 ?_ | refine n3 ?_ | refine n4 ?_ | refine n5 ?_ | refine n6 ?_ | refine n7 ?_ | refine n8 ?_ | refine n9 (by decide) ?_))
    (first | refine r1 ?_ | refine r2 ?_ | refine r3 ?_); intro K hK; simp only [go_sem, hP, hn]; (repeat (refine ⟨by first | trivial | omega | (simp <;> omega) | (simp +contextual; done) | (clear hK; grind), ?_⟩)); refine hK _ ?_; clear K hK
    (repeat (first | refine Tr.seq ?_ | refine Tr.skip ?_ | refine Tr.label ?_ | refine Tr.block ?_ | refine Tr.scope ?_ | refine gs1 ?_ | refine gs2 ?_ | refine gs3 ?_ | refine Tr.exit ?_ | refine Tr.goto ?_ | refine Tr.ret ?_ | refine n1 ?_ | refine n2 ?_ | refine n3 ?_ | refine n4 ?_ | refine n5 ?_ | refine n6 ?_ | refine n7 ?_ | refine n8 ?_ | refine n9 (by decide) ?_))
    refine Tr.cond rfl (fun hb => ?_) (fun hb => ?_)
    · have hk11 : n.k = 11 := by simpa using hb
      (repeat (first | refine Tr.seq ?_ | refine Tr.skip ?_ | refine Tr.label ?_ | refine Tr.block ?_ | refine Tr.scope ?_ | refine gs1 ?_ | refine gs2 ?_ | refine gs3 ?_ | refine Tr.exit ?_ | refine Tr.goto ?_ | refine Tr.ret ?_ | refine n1 ?_ | refine n2 ?_ | refine n3 ?_ | refine n4 ?_ | refine n5 ?_ | refine n6 ?_ | refine n7 ?_ | refine n8 ?_ | refine n9 (by decide) ?_))
      (first | refine r1 ?_ | refine r2 ?_ | refine r3 ?_); intro K hK; simp only [go_sem, hP, hn]
      rw [hfr0]
      simp only [go_sem, hP, hn]
      (repeat (refine ⟨by first | trivial | omega | (simp <;> omega) | (simp +contextual; done) | (clear hK; grind), ?_⟩))
      refine c1 (by rw [hP, hT]; exact rmost_c Tm (fr fs 0) (by omega) (by omega)) rfl rfl rfl trivial (by simp only [go_sem, hP, hn]; try trivial) (by simp only [go_sem, hP, hn]; try rfl) (by rw [hn]; decide) (by rfl) ?_; simp only [go_sem, hP, hn]; (repeat (refine ⟨by first | trivial | omega | (simp <;> omega) | (simp +contextual; done) | (clear hK; grind), ?_⟩))
      (repeat (refine ⟨by first | trivial | omega | (simp <;> omega) | (simp +contextual; done) | (clear hK; grind), ?_⟩))
      refine hK _ ?_; clear K hK
      refine Tr.le (Le.freeze 46) ?_
      simp only [go_sem, hP, hn]
      (repeat (first | ((first | refine r1 ?_ | refine r2 ?_ | refine r3 ?_); intro K hK; simp only [go_sem, hP, hn]; (repeat (refine ⟨by first | trivial | omega | (simp <;> omega) | (simp +contextual; done) | (clear hK; grind), ?_⟩)); refine hK _ ?_; clear K hK) | refine Tr.seq ?_ | refine Tr.skip ?_ | refine Tr.label ?_ | refine Tr.block ?_ | refine Tr.scope ?_ | refine gs1 ?_ | refine gs2 ?_ | refine gs3 ?_ | refine Tr.exit ?_ | refine Tr.goto ?_ | refine Tr.ret ?_ | refine n1 ?_ | refine n2 ?_ | refine n3 ?_ | refine n4 ?_ | refine n5 ?_ | refine n6 ?_ | refine n7 ?_ | refine n8 ?_ | refine n9 (by decide) ?_))
      simp only [RetG, go_sem]; (repeat (with_reducible refine And.intro ?_ ?_; (· first | trivial | omega | (simp <;> omega) | (simp +contextual; done) | (clear hK; grind))))
      unfold frameV
      rw [if_neg (by rw [hw]; decide), if_neg (by omega), if_neg (by omega), if_neg (by omega), if_neg (by omega), if_neg (by omega), if_pos hk11]
      rfl
    have hk11 : n.k ≠ 11 := by simpa using hb
    (repeat (first | refine Tr.seq ?_ | refine Tr.skip ?_ | refine Tr.label ?_ | refine Tr.block ?_ | refine Tr.scope ?_ | refine gs1 ?_ | refine gs2 ?_ | refine gs3 ?_ | refine Tr.exit ?_ | refine Tr.goto ?_ | refine Tr.ret ?_ | refine n1 ?_ | refine n2 ?_ | refine n3 ?_ | refine n4 ?_ | refine n5 ?_ | refine n6 ?_ | refine n7 ?_ | refine n8 ?_ | refine n9 (by decide) ?_))
    exact ⟨_, (Le.mv (by simp only [go_sem, hP, hn]; first | done | (simp; done) | (simp [intC]; done) | (repeat (first | rfl | constructor))) (by simp only [go_sem, hP, hn]; first | done | (simp; done) | (simp [intC]; done) | (repeat (first | rfl | constructor)))), ⟨by simpa using hw, hk8, hk11⟩, rfl⟩
  rintro s ⟨⟨hw, h8, h11⟩, rfl⟩
  rw [frame_each h hw h8 h11]
  (repeat (first | refine Tr.seq ?_ | refine Tr.skip ?_ | refine Tr.label ?_ | refine Tr.block ?_ | refine Tr.scope ?_ | refine gs1 ?_ | refine gs2 ?_ | refine gs3 ?_ | refine Tr.exit ?_ | refine Tr.goto ?_ | refine Tr.ret ?_ | refine n1 ?_ | refine n2 ?_ | refine n3 ?_ | refine n4 ?_ | refine n5 ?_ | refine n6 ?_ | refine n7 ?_ | refine n8 ?_ | refine n9 (by decide) ?_))
  (first | refine r1 ?_ | refine r2 ?_ | refine r3 ?_); intro K hK; simp only [go_sem, hP, hn]; (repeat (refine ⟨by first | trivial | omega | (simp <;> omega) | (simp +contextual; done) | (clear hK; grind), ?_⟩)); refine hK _ ?_; clear K hK
  (repeat (first | refine Tr.seq ?_ | refine Tr.skip ?_ | refine Tr.label ?_ | refine Tr.block ?_ | refine Tr.scope ?_ | refine gs1 ?_ | refine gs2 ?_ | refine gs3 ?_ | refine Tr.exit ?_ | refine Tr.goto ?_ | refine Tr.ret ?_ | refine n1 ?_ | refine n2 ?_ | refine n3 ?_ | refine n4 ?_ | refine n5 ?_ | refine n6 ?_ | refine n7 ?_ | refine n8 ?_ | refine n9 (by decide) ?_))
  refine Tr.le (Le.keep [1, 2, 6, 8]) ?_; simp only [List.map_cons, List.map_nil, lk, Nat.reduceEqDiff, reduceIte]
  refine Tr.loop (fun q s => ∃ (k : Int) (L : List Int), s = ⟨[(1, .d (frD fs)), (2, .ptr 2 0), (6, .own 3001), (8, .d (.i .i64 k))], [(2, .box 27 n.cs), (3001, .row 3 [.i .i64 0] (L.map intC))]⟩ ∧ 0 ≤ k ∧ k + q = w ∧ L = eachL (gV n) fs k.toNat) w ⟨_, (Le.mv (by simp only [go_sem, hP, hn]; first | done | (simp; done) | (simp [intC]; done) | (repeat (first | rfl | constructor))) (by simp only [go_sem, hP, hn]; first | done | (simp; done) | (simp [intC]; done) | (repeat (first | rfl | constructor)))), 0, [], rfl, by omega, by omega, rfl⟩ ?_
  rintro q s ⟨k, L, rfl, k0, kq, hL⟩
  have hLl : L.length ≤ 16 := by rw [hL, eachL_len]; omega
  (repeat (first | refine Tr.seq ?_ | refine Tr.skip ?_ | refine Tr.label ?_ | refine Tr.block ?_ | refine Tr.scope ?_ | refine gs1 ?_ | refine gs2 ?_ | refine gs3 ?_ | refine Tr.exit ?_ | refine Tr.goto ?_ | refine Tr.ret ?_ | refine n1 ?_ | refine n2 ?_ | refine n3 ?_ | refine n4 ?_ | refine n5 ?_ | refine n6 ?_ | refine n7 ?_ | refine n8 ?_ | refine n9 (by decide) ?_))
  (first | refine r1 ?_ | refine r2 ?_ | refine r3 ?_); intro K hK; simp only [go_sem, hP, hn]
  rw [hfr0]
  simp only [go_sem, hP, hn]
  rw [hf0]
  (repeat (refine ⟨by first | trivial | omega | (simp <;> omega) | (simp +contextual; done) | (clear hK; grind), ?_⟩))
  refine hK _ ?_; clear K hK
  (repeat (first | refine Tr.seq ?_ | refine Tr.skip ?_ | refine Tr.label ?_ | refine Tr.block ?_ | refine Tr.scope ?_ | refine gs1 ?_ | refine gs2 ?_ | refine gs3 ?_ | refine Tr.exit ?_ | refine Tr.goto ?_ | refine Tr.ret ?_ | refine n1 ?_ | refine n2 ?_ | refine n3 ?_ | refine n4 ?_ | refine n5 ?_ | refine n6 ?_ | refine n7 ?_ | refine n8 ?_ | refine n9 (by decide) ?_))
  refine Tr.cond rfl (fun hb => ?_) (fun hb => ?_)
  · have hk : k < w := by simpa using hb
    have hcl := col_len fs k
    have hc32 := h.col k0 hk
    have hE : eachL (gV n) fs (k + 1).toNat = L ++ [gV n (col fs k)] := by
      rw [show (k + 1).toNat = k.toNat + 1 by omega, eachL_take, Int.toNat_of_nonneg k0, hL]
    clear hb hL
    (repeat (first | refine Tr.seq ?_ | refine Tr.skip ?_ | refine Tr.label ?_ | refine Tr.block ?_ | refine Tr.scope ?_ | refine gs1 ?_ | refine gs2 ?_ | refine gs3 ?_ | refine Tr.exit ?_ | refine Tr.goto ?_ | refine Tr.ret ?_ | refine n1 ?_ | refine n2 ?_ | refine n3 ?_ | refine n4 ?_ | refine n5 ?_ | refine n6 ?_ | refine n7 ?_ | refine n8 ?_ | refine n9 (by decide) ?_))
    (first | refine r1 ?_ | refine r2 ?_ | refine r3 ?_); intro K hK; simp only [go_sem, hP, hn]
    (repeat (refine ⟨by first | trivial | omega | (simp <;> omega) | (simp +contextual; done) | (clear hK; grind), ?_⟩))
    refine CallN_cs (Hi := [] ) (by rw [hP, hT]; exact  column_c Tm fs k (by omega) k0 (fun f hf => by rw [h.len f hf]; exact hk)) rfl rfl rfl trivial (by simp only [go_sem, hP, hn]; try trivial) (by simp only [go_sem, hP, hn]; try rfl) (by simp only [inH, go_sem, hP, hn]; try simp) (by rw [hn]; decide) ?_; simp only [go_sem, hP, hn]; (repeat (refine ⟨by first | trivial | omega | (simp <;> omega) | (simp +contextual; done) | (clear hK; grind), ?_⟩))
    refine hK _ ?_; clear K hK
    generalize col fs k = xs at *
    refine Tr.le (Le.keep [1, 2, 6, 8, 9]) ?_; simp only [List.map_cons, List.map_nil, lk, Nat.reduceEqDiff, reduceIte]
    (repeat (first | refine Tr.seq ?_ | refine Tr.skip ?_ | refine Tr.label ?_ | refine Tr.block ?_ | refine Tr.scope ?_ | refine gs1 ?_ | refine gs2 ?_ | refine gs3 ?_ | refine Tr.exit ?_ | refine Tr.goto ?_ | refine Tr.ret ?_ | refine n1 ?_ | refine n2 ?_ | refine n3 ?_ | refine n4 ?_ | refine n5 ?_ | refine n6 ?_ | refine n7 ?_ | refine n8 ?_ | refine n9 (by decide) ?_))
    (first | refine r1 ?_ | refine r2 ?_ | refine r3 ?_); intro K hK; simp only [go_sem, hP, hn]; (repeat (refine ⟨by first | trivial | omega | (simp <;> omega) | (simp +contextual; done) | (clear hK; grind), ?_⟩)); refine hK _ ?_; clear K hK
    refine Tr.seq ?_
    refine Tr.meet (fun s => s = ⟨[(1, .d (frD fs)), (2, .ptr 2 0), (6, .own 3001), (8, .d (.i .i64 k)), (10, .d (.i .i64 (gV n xs))), (9, .d (.row [.i .i64 0] (xs.map intC)))], [(2, .box 27 n.cs), (3001, .row 3 [.i .i64 0] (L.map intC))]⟩) ?_ ?_
    rotate_left
    · unfold gV
      (repeat (first | refine Tr.seq ?_ | refine Tr.skip ?_ | refine Tr.label ?_ | refine Tr.block ?_ | refine Tr.scope ?_ | refine gs1 ?_ | refine gs2 ?_ | refine gs3 ?_ | refine Tr.exit ?_ | refine Tr.goto ?_ | refine Tr.ret ?_ | refine n1 ?_ | refine n2 ?_ | refine n3 ?_ | refine n4 ?_ | refine n5 ?_ | refine n6 ?_ | refine n7 ?_ | refine n8 ?_ | refine n9 (by decide) ?_))
      (first | refine r1 ?_ | refine r2 ?_ | refine r3 ?_); intro K hK; simp only [go_sem, hP, hn]; (repeat (refine ⟨by first | trivial | omega | (simp <;> omega) | (simp +contextual; done) | (clear hK; grind), ?_⟩)); refine hK _ ?_; clear K hK
      refine Tr.block ?_
      refine Tr.seq ?_
      refine Tr.meet (fun s => s = ⟨[(1, .d (frD fs)), (2, .ptr 2 0), (6, .own 3001), (8, .d (.i .i64 k)), (10, .d (.i .i64 (rd xs 0))), (62, .d (.i .i64 n.k)), (63, .d (.b (n.k == 3 || n.k == 5))), (9, .d (.row [.i .i64 0] (xs.map intC)))], [(2, .box 27 n.cs), (3001, .row 3 [.i .i64 0] (L.map intC))]⟩) ?_ ?_
      rotate_left
      · (repeat (first | refine Tr.seq ?_ | refine Tr.skip ?_ | refine Tr.label ?_ | refine Tr.block ?_ | refine Tr.scope ?_ | refine gs1 ?_ | refine gs2 ?_ | refine gs3 ?_ | refine Tr.exit ?_ | refine Tr.goto ?_ | refine Tr.ret ?_ | refine n1 ?_ | refine n2 ?_ | refine n3 ?_ | refine n4 ?_ | refine n5 ?_ | refine n6 ?_ | refine n7 ?_ | refine n8 ?_ | refine n9 (by decide) ?_))
        (first | refine r1 ?_ | refine r2 ?_ | refine r3 ?_); intro K hK; simp only [go_sem, hP, hn]; (repeat (refine ⟨by first | trivial | omega | (simp <;> omega) | (simp +contextual; done) | (clear hK; grind), ?_⟩)); refine hK _ ?_; clear K hK
        (repeat (first | refine Tr.seq ?_ | refine Tr.skip ?_ | refine Tr.label ?_ | refine Tr.block ?_ | refine Tr.scope ?_ | refine gs1 ?_ | refine gs2 ?_ | refine gs3 ?_ | refine Tr.exit ?_ | refine Tr.goto ?_ | refine Tr.ret ?_ | refine n1 ?_ | refine n2 ?_ | refine n3 ?_ | refine n4 ?_ | refine n5 ?_ | refine n6 ?_ | refine n7 ?_ | refine n8 ?_ | refine n9 (by decide) ?_))
        refine Tr.cond rfl (fun h1 => ?_) (fun h1 => ?_)
        · rw [h1, Bool.true_or]
          (repeat (first | refine Tr.seq ?_ | refine Tr.skip ?_ | refine Tr.label ?_ | refine Tr.block ?_ | refine Tr.scope ?_ | refine gs1 ?_ | refine gs2 ?_ | refine gs3 ?_ | refine Tr.exit ?_ | refine Tr.goto ?_ | refine Tr.ret ?_ | refine n1 ?_ | refine n2 ?_ | refine n3 ?_ | refine n4 ?_ | refine n5 ?_ | refine n6 ?_ | refine n7 ?_ | refine n8 ?_ | refine n9 (by decide) ?_))
          exact ⟨_, (Le.mv (by simp only [go_sem, hP, hn]; first | done | (simp; done) | (simp [intC]; done) | (repeat (first | rfl | constructor))) (by simp only [go_sem, hP, hn]; first | done | (simp; done) | (simp [intC]; done) | (repeat (first | rfl | constructor)))), rfl⟩
        (repeat (first | refine Tr.seq ?_ | refine Tr.skip ?_ | refine Tr.label ?_ | refine Tr.block ?_ | refine Tr.scope ?_ | refine gs1 ?_ | refine gs2 ?_ | refine gs3 ?_ | refine Tr.exit ?_ | refine Tr.goto ?_ | refine Tr.ret ?_ | refine n1 ?_ | refine n2 ?_ | refine n3 ?_ | refine n4 ?_ | refine n5 ?_ | refine n6 ?_ | refine n7 ?_ | refine n8 ?_ | refine n9 (by decide) ?_))
        (first | refine r1 ?_ | refine r2 ?_ | refine r3 ?_); intro K hK; simp only [go_sem, hP, hn]; (repeat (refine ⟨by first | trivial | omega | (simp <;> omega) | (simp +contextual; done) | (clear hK; grind), ?_⟩)); refine hK _ ?_; clear K hK
        (repeat (first | refine Tr.seq ?_ | refine Tr.skip ?_ | refine Tr.label ?_ | refine Tr.block ?_ | refine Tr.scope ?_ | refine gs1 ?_ | refine gs2 ?_ | refine gs3 ?_ | refine Tr.exit ?_ | refine Tr.goto ?_ | refine Tr.ret ?_ | refine n1 ?_ | refine n2 ?_ | refine n3 ?_ | refine n4 ?_ | refine n5 ?_ | refine n6 ?_ | refine n7 ?_ | refine n8 ?_ | refine n9 (by decide) ?_))
        rw [h1, Bool.false_or]
        exact ⟨_, (Le.mv (by simp only [go_sem, hP, hn]; first | done | (simp; done) | (simp [intC]; done) | (repeat (first | rfl | constructor))) (by simp only [go_sem, hP, hn]; first | done | (simp; done) | (simp [intC]; done) | (repeat (first | rfl | constructor)))), rfl⟩
      rintro s rfl
      (repeat (first | refine Tr.seq ?_ | refine Tr.skip ?_ | refine Tr.label ?_ | refine Tr.block ?_ | refine Tr.scope ?_ | refine gs1 ?_ | refine gs2 ?_ | refine gs3 ?_ | refine Tr.exit ?_ | refine Tr.goto ?_ | refine Tr.ret ?_ | refine n1 ?_ | refine n2 ?_ | refine n3 ?_ | refine n4 ?_ | refine n5 ?_ | refine n6 ?_ | refine n7 ?_ | refine n8 ?_ | refine n9 (by decide) ?_))
      refine Tr.cond rfl (fun h3 => ?_) (fun h3 => ?_)
      · rw [if_pos (by simpa using h3)]
        have hmb := mostV_b xs (by omega)
        (repeat (first | refine Tr.seq ?_ | refine Tr.skip ?_ | refine Tr.label ?_ | refine Tr.block ?_ | refine Tr.scope ?_ | refine gs1 ?_ | refine gs2 ?_ | refine gs3 ?_ | refine Tr.exit ?_ | refine Tr.goto ?_ | refine Tr.ret ?_ | refine n1 ?_ | refine n2 ?_ | refine n3 ?_ | refine n4 ?_ | refine n5 ?_ | refine n6 ?_ | refine n7 ?_ | refine n8 ?_ | refine n9 (by decide) ?_))
        (first | refine r1 ?_ | refine r2 ?_ | refine r3 ?_); intro K hK; simp only [go_sem, hP, hn]
        (repeat (refine ⟨by first | trivial | omega | (simp <;> omega) | (simp +contextual; done) | (clear hK; grind), ?_⟩))
        refine c1 (by rw [hP, hT]; exact rmost_c Tm xs (by omega) (by omega)) rfl rfl rfl trivial (by simp only [go_sem, hP, hn]; try trivial) (by simp only [go_sem, hP, hn]; try rfl) (by rw [hn]; decide) (by rfl) ?_; simp only [go_sem, hP, hn]; (repeat (refine ⟨by first | trivial | omega | (simp <;> omega) | (simp +contextual; done) | (clear hK; grind), ?_⟩))
        (repeat (refine ⟨by first | trivial | omega | (simp <;> omega) | (simp +contextual; done) | (clear hK; grind), ?_⟩))
        refine hK _ ?_; clear K hK
        (repeat (first | refine Tr.seq ?_ | refine Tr.skip ?_ | refine Tr.label ?_ | refine Tr.block ?_ | refine Tr.scope ?_ | refine gs1 ?_ | refine gs2 ?_ | refine gs3 ?_ | refine Tr.exit ?_ | refine Tr.goto ?_ | refine Tr.ret ?_ | refine n1 ?_ | refine n2 ?_ | refine n3 ?_ | refine n4 ?_ | refine n5 ?_ | refine n6 ?_ | refine n7 ?_ | refine n8 ?_ | refine n9 (by decide) ?_))
        exact ⟨_, (Le.mv (by simp only [go_sem, hP, hn]; first | done | (simp; done) | (simp [intC]; done) | (repeat (first | rfl | constructor))) (by simp only [go_sem, hP, hn]; first | done | (simp; done) | (simp [intC]; done) | (repeat (first | rfl | constructor)))), rfl⟩
      rw [if_neg (by simpa using h3)]
      clear h3
      refine Tr.seq ?_
      refine Tr.meet (fun s => s = ⟨[(1, .d (frD fs)), (2, .ptr 2 0), (6, .own 3001), (8, .d (.i .i64 k)), (10, .d (.i .i64 (rd xs 0))), (62, .d (.i .i64 n.k)), (71, .d (.b (n.k == 4 || n.k == 12))), (9, .d (.row [.i .i64 0] (xs.map intC)))], [(2, .box 27 n.cs), (3001, .row 3 [.i .i64 0] (L.map intC))]⟩) ?_ ?_
      rotate_left
      · (repeat (first | refine Tr.seq ?_ | refine Tr.skip ?_ | refine Tr.label ?_ | refine Tr.block ?_ | refine Tr.scope ?_ | refine gs1 ?_ | refine gs2 ?_ | refine gs3 ?_ | refine Tr.exit ?_ | refine Tr.goto ?_ | refine Tr.ret ?_ | refine n1 ?_ | refine n2 ?_ | refine n3 ?_ | refine n4 ?_ | refine n5 ?_ | refine n6 ?_ | refine n7 ?_ | refine n8 ?_ | refine n9 (by decide) ?_))
        (first | refine r1 ?_ | refine r2 ?_ | refine r3 ?_); intro K hK; simp only [go_sem, hP, hn]; (repeat (refine ⟨by first | trivial | omega | (simp <;> omega) | (simp +contextual; done) | (clear hK; grind), ?_⟩)); refine hK _ ?_; clear K hK
        (repeat (first | refine Tr.seq ?_ | refine Tr.skip ?_ | refine Tr.label ?_ | refine Tr.block ?_ | refine Tr.scope ?_ | refine gs1 ?_ | refine gs2 ?_ | refine gs3 ?_ | refine Tr.exit ?_ | refine Tr.goto ?_ | refine Tr.ret ?_ | refine n1 ?_ | refine n2 ?_ | refine n3 ?_ | refine n4 ?_ | refine n5 ?_ | refine n6 ?_ | refine n7 ?_ | refine n8 ?_ | refine n9 (by decide) ?_))
        refine Tr.cond rfl (fun h1 => ?_) (fun h1 => ?_)
        · rw [h1, Bool.true_or]
          (repeat (first | refine Tr.seq ?_ | refine Tr.skip ?_ | refine Tr.label ?_ | refine Tr.block ?_ | refine Tr.scope ?_ | refine gs1 ?_ | refine gs2 ?_ | refine gs3 ?_ | refine Tr.exit ?_ | refine Tr.goto ?_ | refine Tr.ret ?_ | refine n1 ?_ | refine n2 ?_ | refine n3 ?_ | refine n4 ?_ | refine n5 ?_ | refine n6 ?_ | refine n7 ?_ | refine n8 ?_ | refine n9 (by decide) ?_))
          exact ⟨_, (Le.mv (by simp only [go_sem, hP, hn]; first | done | (simp; done) | (simp [intC]; done) | (repeat (first | rfl | constructor))) (by simp only [go_sem, hP, hn]; first | done | (simp; done) | (simp [intC]; done) | (repeat (first | rfl | constructor)))), rfl⟩
        (repeat (first | refine Tr.seq ?_ | refine Tr.skip ?_ | refine Tr.label ?_ | refine Tr.block ?_ | refine Tr.scope ?_ | refine gs1 ?_ | refine gs2 ?_ | refine gs3 ?_ | refine Tr.exit ?_ | refine Tr.goto ?_ | refine Tr.ret ?_ | refine n1 ?_ | refine n2 ?_ | refine n3 ?_ | refine n4 ?_ | refine n5 ?_ | refine n6 ?_ | refine n7 ?_ | refine n8 ?_ | refine n9 (by decide) ?_))
        (first | refine r1 ?_ | refine r2 ?_ | refine r3 ?_); intro K hK; simp only [go_sem, hP, hn]; (repeat (refine ⟨by first | trivial | omega | (simp <;> omega) | (simp +contextual; done) | (clear hK; grind), ?_⟩)); refine hK _ ?_; clear K hK
        (repeat (first | refine Tr.seq ?_ | refine Tr.skip ?_ | refine Tr.label ?_ | refine Tr.block ?_ | refine Tr.scope ?_ | refine gs1 ?_ | refine gs2 ?_ | refine gs3 ?_ | refine Tr.exit ?_ | refine Tr.goto ?_ | refine Tr.ret ?_ | refine n1 ?_ | refine n2 ?_ | refine n3 ?_ | refine n4 ?_ | refine n5 ?_ | refine n6 ?_ | refine n7 ?_ | refine n8 ?_ | refine n9 (by decide) ?_))
        rw [h1, Bool.false_or]
        exact ⟨_, (Le.mv (by simp only [go_sem, hP, hn]; first | done | (simp; done) | (simp [intC]; done) | (repeat (first | rfl | constructor))) (by simp only [go_sem, hP, hn]; first | done | (simp; done) | (simp [intC]; done) | (repeat (first | rfl | constructor)))), rfl⟩
      rintro s rfl
      (repeat (first | refine Tr.seq ?_ | refine Tr.skip ?_ | refine Tr.label ?_ | refine Tr.block ?_ | refine Tr.scope ?_ | refine gs1 ?_ | refine gs2 ?_ | refine gs3 ?_ | refine Tr.exit ?_ | refine Tr.goto ?_ | refine Tr.ret ?_ | refine n1 ?_ | refine n2 ?_ | refine n3 ?_ | refine n4 ?_ | refine n5 ?_ | refine n6 ?_ | refine n7 ?_ | refine n8 ?_ | refine n9 (by decide) ?_))
      refine Tr.cond rfl (fun h4 => ?_) (fun h4 => ?_)
      · rw [if_pos (by simpa using h4)]
        (repeat (first | refine Tr.seq ?_ | refine Tr.skip ?_ | refine Tr.label ?_ | refine Tr.block ?_ | refine Tr.scope ?_ | refine gs1 ?_ | refine gs2 ?_ | refine gs3 ?_ | refine Tr.exit ?_ | refine Tr.goto ?_ | refine Tr.ret ?_ | refine n1 ?_ | refine n2 ?_ | refine n3 ?_ | refine n4 ?_ | refine n5 ?_ | refine n6 ?_ | refine n7 ?_ | refine n8 ?_ | refine n9 (by decide) ?_))
        (first | refine r1 ?_ | refine r2 ?_ | refine r3 ?_); intro K hK; simp only [go_sem, hP, hn]; (repeat (refine ⟨by first | trivial | omega | (simp <;> omega) | (simp +contextual; done) | (clear hK; grind), ?_⟩)); refine c1 (by rw [hP, hT]; exact rMean_c Tm xs (by omega) (by omega) hc32) rfl rfl rfl trivial (by simp only [go_sem, hP, hn]; try trivial) (by simp only [go_sem, hP, hn]; try rfl) (by rw [hn]; decide) (by rfl) ?_; simp only [go_sem, hP, hn]; (repeat (refine ⟨by first | trivial | omega | (simp <;> omega) | (simp +contextual; done) | (clear hK; grind), ?_⟩)); refine hK _ ?_; clear K hK
        (repeat (first | refine Tr.seq ?_ | refine Tr.skip ?_ | refine Tr.label ?_ | refine Tr.block ?_ | refine Tr.scope ?_ | refine gs1 ?_ | refine gs2 ?_ | refine gs3 ?_ | refine Tr.exit ?_ | refine Tr.goto ?_ | refine Tr.ret ?_ | refine n1 ?_ | refine n2 ?_ | refine n3 ?_ | refine n4 ?_ | refine n5 ?_ | refine n6 ?_ | refine n7 ?_ | refine n8 ?_ | refine n9 (by decide) ?_))
        exact ⟨_, (Le.mv (by simp only [go_sem, hP, hn]; first | done | (simp; done) | (simp [intC]; done) | (repeat (first | rfl | constructor))) (by simp only [go_sem, hP, hn]; first | done | (simp; done) | (simp [intC]; done) | (repeat (first | rfl | constructor)))), rfl⟩
      rw [if_neg (by simpa using h4)]
      clear h4
      (repeat (first | refine Tr.seq ?_ | refine Tr.skip ?_ | refine Tr.label ?_ | refine Tr.block ?_ | refine Tr.scope ?_ | refine gs1 ?_ | refine gs2 ?_ | refine gs3 ?_ | refine Tr.exit ?_ | refine Tr.goto ?_ | refine Tr.ret ?_ | refine n1 ?_ | refine n2 ?_ | refine n3 ?_ | refine n4 ?_ | refine n5 ?_ | refine n6 ?_ | refine n7 ?_ | refine n8 ?_ | refine n9 (by decide) ?_))
      (first | refine r1 ?_ | refine r2 ?_ | refine r3 ?_); intro K hK; simp only [go_sem, hP, hn]; (repeat (refine ⟨by first | trivial | omega | (simp <;> omega) | (simp +contextual; done) | (clear hK; grind), ?_⟩)); refine hK _ ?_; clear K hK
      (repeat (first | refine Tr.seq ?_ | refine Tr.skip ?_ | refine Tr.label ?_ | refine Tr.block ?_ | refine Tr.scope ?_ | refine gs1 ?_ | refine gs2 ?_ | refine gs3 ?_ | refine Tr.exit ?_ | refine Tr.goto ?_ | refine Tr.ret ?_ | refine n1 ?_ | refine n2 ?_ | refine n3 ?_ | refine n4 ?_ | refine n5 ?_ | refine n6 ?_ | refine n7 ?_ | refine n8 ?_ | refine n9 (by decide) ?_))
      refine Tr.cond rfl (fun h7 => ?_) (fun h7 => ?_)
      · rw [if_pos (by simpa using h7)]
        (repeat (first | refine Tr.seq ?_ | refine Tr.skip ?_ | refine Tr.label ?_ | refine Tr.block ?_ | refine Tr.scope ?_ | refine gs1 ?_ | refine gs2 ?_ | refine gs3 ?_ | refine Tr.exit ?_ | refine Tr.goto ?_ | refine Tr.ret ?_ | refine n1 ?_ | refine n2 ?_ | refine n3 ?_ | refine n4 ?_ | refine n5 ?_ | refine n6 ?_ | refine n7 ?_ | refine n8 ?_ | refine n9 (by decide) ?_))
        (first | refine r1 ?_ | refine r2 ?_ | refine r3 ?_); intro K hK; simp only [go_sem, hP, hn]; (repeat (refine ⟨by first | trivial | omega | (simp <;> omega) | (simp +contextual; done) | (clear hK; grind), ?_⟩)); refine c1 (by rw [hP, hT]; exact rAdd_c Tm xs (by omega) hc32) rfl rfl rfl trivial (by simp only [go_sem, hP, hn]; try trivial) (by simp only [go_sem, hP, hn]; try rfl) (by rw [hn]; decide) (by rfl) ?_; simp only [go_sem, hP, hn]; (repeat (refine ⟨by first | trivial | omega | (simp <;> omega) | (simp +contextual; done) | (clear hK; grind), ?_⟩)); refine hK _ ?_; clear K hK
        (repeat (first | refine Tr.seq ?_ | refine Tr.skip ?_ | refine Tr.label ?_ | refine Tr.block ?_ | refine Tr.scope ?_ | refine gs1 ?_ | refine gs2 ?_ | refine gs3 ?_ | refine Tr.exit ?_ | refine Tr.goto ?_ | refine Tr.ret ?_ | refine n1 ?_ | refine n2 ?_ | refine n3 ?_ | refine n4 ?_ | refine n5 ?_ | refine n6 ?_ | refine n7 ?_ | refine n8 ?_ | refine n9 (by decide) ?_))
        exact ⟨_, (Le.mv (by simp only [go_sem, hP, hn]; first | done | (simp; done) | (simp [intC]; done) | (repeat (first | rfl | constructor))) (by simp only [go_sem, hP, hn]; first | done | (simp; done) | (simp [intC]; done) | (repeat (first | rfl | constructor)))), rfl⟩
      rw [if_neg (by simpa using h7)]
      clear h7
      (repeat (first | refine Tr.seq ?_ | refine Tr.skip ?_ | refine Tr.label ?_ | refine Tr.block ?_ | refine Tr.scope ?_ | refine gs1 ?_ | refine gs2 ?_ | refine gs3 ?_ | refine Tr.exit ?_ | refine Tr.goto ?_ | refine Tr.ret ?_ | refine n1 ?_ | refine n2 ?_ | refine n3 ?_ | refine n4 ?_ | refine n5 ?_ | refine n6 ?_ | refine n7 ?_ | refine n8 ?_ | refine n9 (by decide) ?_))
      (first | refine r1 ?_ | refine r2 ?_ | refine r3 ?_); intro K hK; simp only [go_sem, hP, hn]; (repeat (refine ⟨by first | trivial | omega | (simp <;> omega) | (simp +contextual; done) | (clear hK; grind), ?_⟩)); refine hK _ ?_; clear K hK
      (repeat (first | refine Tr.seq ?_ | refine Tr.skip ?_ | refine Tr.label ?_ | refine Tr.block ?_ | refine Tr.scope ?_ | refine gs1 ?_ | refine gs2 ?_ | refine gs3 ?_ | refine Tr.exit ?_ | refine Tr.goto ?_ | refine Tr.ret ?_ | refine n1 ?_ | refine n2 ?_ | refine n3 ?_ | refine n4 ?_ | refine n5 ?_ | refine n6 ?_ | refine n7 ?_ | refine n8 ?_ | refine n9 (by decide) ?_))
      refine Tr.cond rfl (fun h9 => ?_) (fun h9 => ?_)
      · rw [if_pos (by simpa using h9)]
        (repeat (first | refine Tr.seq ?_ | refine Tr.skip ?_ | refine Tr.label ?_ | refine Tr.block ?_ | refine Tr.scope ?_ | refine gs1 ?_ | refine gs2 ?_ | refine gs3 ?_ | refine Tr.exit ?_ | refine Tr.goto ?_ | refine Tr.ret ?_ | refine n1 ?_ | refine n2 ?_ | refine n3 ?_ | refine n4 ?_ | refine n5 ?_ | refine n6 ?_ | refine n7 ?_ | refine n8 ?_ | refine n9 (by decide) ?_))
        (first | refine r1 ?_ | refine r2 ?_ | refine r3 ?_); intro K hK; simp only [go_sem, hP, hn]; (repeat (refine ⟨by first | trivial | omega | (simp <;> omega) | (simp +contextual; done) | (clear hK; grind), ?_⟩)); refine c1 (by rw [hP, hT]; exact rClamp_c Tm (rd xs 0) n.low n.high) rfl rfl rfl trivial (by simp only [go_sem, hP, hn]; try trivial) (by simp only [go_sem, hP, hn]; try rfl) (by rw [hn]; decide) (by rfl) ?_; simp only [go_sem, hP, hn]; (repeat (refine ⟨by first | trivial | omega | (simp <;> omega) | (simp +contextual; done) | (clear hK; grind), ?_⟩)); refine hK _ ?_; clear K hK
        (repeat (first | refine Tr.seq ?_ | refine Tr.skip ?_ | refine Tr.label ?_ | refine Tr.block ?_ | refine Tr.scope ?_ | refine gs1 ?_ | refine gs2 ?_ | refine gs3 ?_ | refine Tr.exit ?_ | refine Tr.goto ?_ | refine Tr.ret ?_ | refine n1 ?_ | refine n2 ?_ | refine n3 ?_ | refine n4 ?_ | refine n5 ?_ | refine n6 ?_ | refine n7 ?_ | refine n8 ?_ | refine n9 (by decide) ?_))
        exact ⟨_, (Le.mv (by simp only [go_sem, hP, hn]; first | done | (simp; done) | (simp [intC]; done) | (repeat (first | rfl | constructor))) (by simp only [go_sem, hP, hn]; first | done | (simp; done) | (simp [intC]; done) | (repeat (first | rfl | constructor)))), rfl⟩
      rw [if_neg (by simpa using h9)]
      clear h9
      (repeat (first | refine Tr.seq ?_ | refine Tr.skip ?_ | refine Tr.label ?_ | refine Tr.block ?_ | refine Tr.scope ?_ | refine gs1 ?_ | refine gs2 ?_ | refine gs3 ?_ | refine Tr.exit ?_ | refine Tr.goto ?_ | refine Tr.ret ?_ | refine n1 ?_ | refine n2 ?_ | refine n3 ?_ | refine n4 ?_ | refine n5 ?_ | refine n6 ?_ | refine n7 ?_ | refine n8 ?_ | refine n9 (by decide) ?_))
      (first | refine r1 ?_ | refine r2 ?_ | refine r3 ?_); intro K hK; simp only [go_sem, hP, hn]; (repeat (refine ⟨by first | trivial | omega | (simp <;> omega) | (simp +contextual; done) | (clear hK; grind), ?_⟩)); refine hK _ ?_; clear K hK
      (repeat (first | refine Tr.seq ?_ | refine Tr.skip ?_ | refine Tr.label ?_ | refine Tr.block ?_ | refine Tr.scope ?_ | refine gs1 ?_ | refine gs2 ?_ | refine gs3 ?_ | refine Tr.exit ?_ | refine Tr.goto ?_ | refine Tr.ret ?_ | refine n1 ?_ | refine n2 ?_ | refine n3 ?_ | refine n4 ?_ | refine n5 ?_ | refine n6 ?_ | refine n7 ?_ | refine n8 ?_ | refine n9 (by decide) ?_))
      refine Tr.cond rfl (fun hx => ?_) (fun hx => ?_)
      · rw [if_pos (by simpa using hx)]
        (repeat (first | refine Tr.seq ?_ | refine Tr.skip ?_ | refine Tr.label ?_ | refine Tr.block ?_ | refine Tr.scope ?_ | refine gs1 ?_ | refine gs2 ?_ | refine gs3 ?_ | refine Tr.exit ?_ | refine Tr.goto ?_ | refine Tr.ret ?_ | refine n1 ?_ | refine n2 ?_ | refine n3 ?_ | refine n4 ?_ | refine n5 ?_ | refine n6 ?_ | refine n7 ?_ | refine n8 ?_ | refine n9 (by decide) ?_))
        (first | refine r1 ?_ | refine r2 ?_ | refine r3 ?_); intro K hK; simp only [go_sem, hP, hn]; (repeat (refine ⟨by first | trivial | omega | (simp <;> omega) | (simp +contextual; done) | (clear hK; grind), ?_⟩)); refine c1 (by rw [hP, hT]; exact rScale_c Tm (rd xs 0) n.mult n.shift (hc32 _ (rd_mem (by decide) (by omega)))) rfl rfl rfl trivial (by simp only [go_sem, hP, hn]; try trivial) (by simp only [go_sem, hP, hn]; try rfl) (by rw [hn]; decide) (by rfl) ?_; simp only [go_sem, hP, hn]; (repeat (refine ⟨by first | trivial | omega | (simp <;> omega) | (simp +contextual; done) | (clear hK; grind), ?_⟩)); refine hK _ ?_; clear K hK
        (repeat (first | refine Tr.seq ?_ | refine Tr.skip ?_ | refine Tr.label ?_ | refine Tr.block ?_ | refine Tr.scope ?_ | refine gs1 ?_ | refine gs2 ?_ | refine gs3 ?_ | refine Tr.exit ?_ | refine Tr.goto ?_ | refine Tr.ret ?_ | refine n1 ?_ | refine n2 ?_ | refine n3 ?_ | refine n4 ?_ | refine n5 ?_ | refine n6 ?_ | refine n7 ?_ | refine n8 ?_ | refine n9 (by decide) ?_))
        exact ⟨_, (Le.mv (by simp only [go_sem, hP, hn]; first | done | (simp; done) | (simp [intC]; done) | (repeat (first | rfl | constructor))) (by simp only [go_sem, hP, hn]; first | done | (simp; done) | (simp [intC]; done) | (repeat (first | rfl | constructor)))), rfl⟩
      rw [if_neg (by simpa using hx)]
      (repeat (first | refine Tr.seq ?_ | refine Tr.skip ?_ | refine Tr.label ?_ | refine Tr.block ?_ | refine Tr.scope ?_ | refine gs1 ?_ | refine gs2 ?_ | refine gs3 ?_ | refine Tr.exit ?_ | refine Tr.goto ?_ | refine Tr.ret ?_ | refine n1 ?_ | refine n2 ?_ | refine n3 ?_ | refine n4 ?_ | refine n5 ?_ | refine n6 ?_ | refine n7 ?_ | refine n8 ?_ | refine n9 (by decide) ?_))
      exact ⟨_, (Le.mv (by simp only [go_sem, hP, hn]; first | done | (simp; done) | (simp [intC]; done) | (repeat (first | rfl | constructor))) (by simp only [go_sem, hP, hn]; first | done | (simp; done) | (simp [intC]; done) | (repeat (first | rfl | constructor)))), rfl⟩
    rintro s rfl
    (repeat (first | refine Tr.seq ?_ | refine Tr.skip ?_ | refine Tr.label ?_ | refine Tr.block ?_ | refine Tr.scope ?_ | refine gs1 ?_ | refine gs2 ?_ | refine gs3 ?_ | refine Tr.exit ?_ | refine Tr.goto ?_ | refine Tr.ret ?_ | refine n1 ?_ | refine n2 ?_ | refine n3 ?_ | refine n4 ?_ | refine n5 ?_ | refine n6 ?_ | refine n7 ?_ | refine n8 ?_ | refine n9 (by decide) ?_))
    (first | refine r1 ?_ | refine r2 ?_ | refine r3 ?_); intro K hK; simp only [go_sem, hP, hn]; (repeat (refine ⟨by first | trivial | omega | (simp <;> omega) | (simp +contextual; done) | (clear hK; grind), ?_⟩)); refine hK _ ?_; clear K hK
    (repeat (first | refine Tr.seq ?_ | refine Tr.skip ?_ | refine Tr.label ?_ | refine Tr.block ?_ | refine Tr.scope ?_ | refine gs1 ?_ | refine gs2 ?_ | refine gs3 ?_ | refine Tr.exit ?_ | refine Tr.goto ?_ | refine Tr.ret ?_ | refine n1 ?_ | refine n2 ?_ | refine n3 ?_ | refine n4 ?_ | refine n5 ?_ | refine n6 ?_ | refine n7 ?_ | refine n8 ?_ | refine n9 (by decide) ?_))
    (first | refine r1 ?_ | refine r2 ?_ | refine r3 ?_); intro K hK; simp only [go_sem, hP, hn]; (repeat (refine ⟨by first | trivial | omega | (simp <;> omega) | (simp +contextual; done) | (clear hK; grind), ?_⟩)); refine hK _ ?_; clear K hK
    (repeat (first | refine Tr.seq ?_ | refine Tr.skip ?_ | refine Tr.label ?_ | refine Tr.block ?_ | refine Tr.scope ?_ | refine gs1 ?_ | refine gs2 ?_ | refine gs3 ?_ | refine Tr.exit ?_ | refine Tr.goto ?_ | refine Tr.ret ?_ | refine n1 ?_ | refine n2 ?_ | refine n3 ?_ | refine n4 ?_ | refine n5 ?_ | refine n6 ?_ | refine n7 ?_ | refine n8 ?_ | refine n9 (by decide) ?_))
    rw [w64 (x := k + 1) (by omega) (by omega)]
    refine ⟨q - 1, _, by omega, ?_, k + 1, L ++ [gV n xs], rfl, by omega, by omega, hE.symm⟩
    refine Le.trans (b := ⟨[(1, .d (frD fs)), (2, .ptr 2 0), (6, .own 99), (8, .d (.i .i64 (k + 1)))], [(2, .box 27 n.cs), (99, .row 3 [.i .i64 0] ((L ++ [gV n xs]).map intC))]⟩) (Le.mv (by simp only [go_sem, hP, hn]; first | done | (simp; done) | (simp [intC]; done) | (repeat (first | rfl | constructor))) (by simp only [go_sem, hP, hn]; first | done | (simp; done) | (simp [intC]; done) | (repeat (first | rfl | constructor)))) ?_
    refine Le.trans (Le.ren 99 3001 (by rw [hpn] <;> rfl) rfl rfl) ?_; simp only [renT, renH, renO, renS, renL, rn, go_sem, hP, hn]
    exact (Le.mv (by simp only [go_sem, hP, hn]; first | done | (simp; done) | (simp [intC]; done) | (repeat (first | rfl | constructor))) (by simp only [go_sem, hP, hn]; first | done | (simp; done) | (simp [intC]; done) | (repeat (first | rfl | constructor))))
  · have hk : k = w := by have := of_decide_eq_false hb; omega
    subst hk
    rw [Int.toNat_natCast] at hL
    subst hL
    refine Tr.le (Le.freeze 3001) ?_
    simp only [go_sem, hP, hn]
    (repeat (first | ((first | refine r1 ?_ | refine r2 ?_ | refine r3 ?_); intro K hK; simp only [go_sem, hP, hn]; (repeat (refine ⟨by first | trivial | omega | (simp <;> omega) | (simp +contextual; done) | (clear hK; grind), ?_⟩)); refine hK _ ?_; clear K hK) | refine Tr.seq ?_ | refine Tr.skip ?_ | refine Tr.label ?_ | refine Tr.block ?_ | refine Tr.scope ?_ | refine gs1 ?_ | refine gs2 ?_ | refine gs3 ?_ | refine Tr.exit ?_ | refine Tr.goto ?_ | refine Tr.ret ?_ | refine n1 ?_ | refine n2 ?_ | refine n3 ?_ | refine n4 ?_ | refine n5 ?_ | refine n6 ?_ | refine n7 ?_ | refine n8 ?_ | refine n9 (by decide) ?_))
    simp only [RetG, go_sem]; (repeat (with_reducible refine And.intro ?_ ?_; (· first | trivial | omega | (simp <;> omega) | (simp +contextual; done) | (clear hK; grind))))
end
end Go.Proofs.YtgijboakaodcgaaDoor.Aw
namespace Go.Proofs.YtgijboakaodcgaaDoor.Aw
open Go.RowKit
set_option maxRecDepth 100000
/-! a graph of one Dense node, and its ends -/
def nM (c : Int) (ws bs : List Int) : Nd := ⟨6, [0], c, 0, 0, 0, 0, 0, ws, bs, 0, 0, 0, 0, 0⟩
structure MO (c w : Nat) (lo hi : Int) (ws bs : List Int) : Prop where
  c0 : 1 ≤ c ∧ c ≤ 10
  w0 : 1 ≤ w ∧ w ≤ 4
  lo0 : -16384 ≤ lo ∧ lo ≤ 0
  hi0 : 0 ≤ hi ∧ hi ≤ 16384
  wl : ws.length = c * w
  bl : bs.length = c
  wx : ∀ x ∈ ws, -128 ≤ x ∧ x ≤ 127
  bx : ∀ x ∈ bs, -32768 ≤ x ∧ x ≤ 32767
section
variable {c w : Nat} {lo hi : Int} {ws bs : List Int} (h : MO c w lo hi ws bs)
include h
theorem MO.rchk : (nM c ws bs).rchk [(w : Int)] = 0 := by
  have h1 := h.c0
  have h2 := h.w0
  have m := mul_le (c : Int) 10 w 4 (by omega) (by omega) (by omega) (by omega)
  have ek : (nM c ws bs).k = 6 := rfl
  have ew : (nM c ws bs).wid = c := rfl
  have e1 : (nM c ws bs).ws = ws := rfl
  have e2 : (nM c ws bs).bs = bs := rfl
  have e3 : rFour (nM c ws bs).k = false := rfl
  refine rchk_one (a := 0) (by omega) rfl rfl rfl rfl ?_ ?_
  · unfold Nd.else0 Nd.e6 Nd.e8 Nd.e10 Nd.e12 Nd.bsc Nd.bcl Nd.bw; simp [nM, rFour, rWeighs]
  · refine sized_of (fun e => ?_) (fun e => ?_) (fun e => ?_) (fun _ => ?_) (fun _ => ⟨⟨?_, ?_⟩, ?_, ?_⟩) ?_
    · rw [e3, ek] at e; exact absurd e (by decide)
    · rw [e3] at e; cases e
    · rw [e3] at e; cases e
    · rw [ew]; omega
    · unfold Nd.rWeights
      rw [ek, if_neg (by decide), if_neg (by decide), ew, e1, w64 (x := (c : Int) * w) (by omega) (by omega), h.wl]; simp
    · rw [ek, if_neg (by decide), ew, e2, h.bl]
    · rw [e1]; exact List.all_eq_true.2 fun x hx => inB_iff.2 (h.wx x hx)
    · rw [e2]; exact List.all_eq_true.2 fun x hx => inB_iff.2 (by have := h.bx x hx; omega)
    · exact (show ((0 : Int) ≤ 0 ∧ (0 : Int) ≤ 32767) ∧ ((0 : Int) ≤ 0 ∧ (0 : Int) ≤ 30) ∧ (-2147483648 : Int) ≤ 0 ∧ (0 : Int) ≤ 0 ∧ (0 : Int) ≤ 2147483647 by decide)
theorem MO.kok {f : List Int} (hf : f.length = w) (hx : ∀ x ∈ f, lo ≤ x ∧ x ≤ hi) : KOk (nM c ws bs) [f] w := by
  have h1 := h.c0
  have h2 := h.w0
  have h3 := h.lo0
  have h4 := h.hi0
  refine ⟨by omega, by simp, by simp [hf], fun g hg x hxg => ?_, fun e => (by cases (show (false : Bool) = true from e)), fun e => (by cases (show (false : Bool) = true from e)), fun _ _ _ => rfl, h.rchk, by simp [nM], ?_, ?_⟩
  · obtain rfl := List.mem_singleton.1 hg
    have := hx x hxg
    unfold in32; omega
  · show ws.length ≤ 4096
    rw [h.wl]; exact Nat.le_trans (Nat.mul_le_mul h1.2 h2.2) (by decide)
  · show bs.length ≤ 4096
    rw [h.bl]; omega
theorem MO.bw : BW (nM c ws bs) w ∧ eachW (nM c ws bs) = w := by
  have h1 := h.c0
  have h2 := h.w0
  refine ⟨⟨by show 1 ≤ bs.length ∧ bs.length ≤ 16; rw [h.bl]; omega, by show ws.length = bs.length * w; rw [h.wl, h.bl], by omega⟩, ?_⟩
  show ws.length / bs.length = w
  rw [h.wl, h.bl]; exact Nat.mul_div_cancel_left _ (by omega)
theorem MO.gg : GG w [nM c ws bs] (fun i => if i = 0 then (w : Int) else (nM c ws bs).rwide [(w : Int)]) (fun i => if i = 0 then 1 else (nM c ws bs).rate [1]) Int.toNat := by
  have h1 := h.c0
  have h2 := h.w0
  have hin : (nM c ws bs).inn = [0] := rfl
  refine ⟨if_pos rfl, if_pos rfl, rfl, fun i i1 i2 => ?_⟩
  obtain rfl : i = 1 := by simp at i2; omega
  have hn : nd [nM c ws bs] (1 - 1) = nM c ws bs := rfl
  rw [hn]
  refine ⟨⟨by rw [hin]; decide, by rw [hin]; decide, fun j hj => ?_, ?_, ?_, ?_, fun j hj j' hj' => ?_, fun j hj e => ?_, ?_, ?_, ?_, ?_, ?_, ?_, rfl⟩, by simp⟩
  · rw [hin] at hj
    obtain rfl : j = 0 := List.mem_singleton.1 hj
    simp
  · rw [hin]; simpa using h.rchk
  · rw [hin, if_neg (by decide)]; simp
  · rw [hin, if_neg (by decide)]; simp
  · rw [hin] at hj hj'
    obtain rfl : j = 0 := List.mem_singleton.1 hj
    obtain rfl : j' = 0 := List.mem_singleton.1 hj'
    rfl
  · rw [hin] at hj
    obtain rfl : j = 0 := List.mem_singleton.1 hj
    rw [if_pos rfl] at e; cases e
  · show ws.length ≤ 4096
    rw [h.wl]; exact Nat.le_trans (Nat.mul_le_mul h1.2 h2.2) (by decide)
  · show bs.length ≤ 4096
    rw [h.bl]; omega
  all_goals
    first
    | (show (1 : Int) ≤ (if rFour 6 = true then (0 : Int) else 1); decide)
    | (show (if rFour 6 = true then (0 : Int) else 1) ≤ 3; decide)
    | (unfold Nd.rSpan; rw [if_neg (show ¬ ((nM c ws bs).k == 12) = true from (by decide : ¬ ((6 : Int) == 12) = true)), if_pos (show (!rWin (nM c ws bs).k) = true from (by decide : (!rWin 6) = true))]; decide)
theorem MO.small {W : List Int} (hW : ∀ i, -128 ≤ rd W i ∧ rd W i ≤ 128) {b : Int} (hb : -32768 ≤ b ∧ b ≤ 32767) : ∀ k : Nat, k ≤ 4 → (-(32768 + k * 2097152) ≤ (eN lo hi W b k).1 ∧ (eN lo hi W b k).1 ≤ 32768 + k * 2097152) ∧ -(32768 + k * 2097152) ≤ (eN lo hi W b k).2 ∧ (eN lo hi W b k).2 ≤ 32768 + k * 2097152 := by
  have h3 := h.lo0
  have h4 := h.hi0
  have mb : ∀ x y : Int, -128 ≤ x ∧ x ≤ 128 → -16384 ≤ y ∧ y ≤ 16384 → -2097152 ≤ x * y ∧ x * y ≤ 2097152 := fun x y hx hy => by
    have : (x * y).natAbs ≤ 128 * 16384 := by rw [Int.natAbs_mul]; exact Nat.mul_le_mul (by omega) (by omega)
    omega
  intro k
  induction k with
  | zero => intro _; simp only [eN]; omega
  | succ k ih =>
    intro hk
    have i := ih (by omega)
    have p1 := mb _ _ (hW (k : Nat)) (show -16384 ≤ lo ∧ lo ≤ 16384 by omega)
    have p2 := mb _ _ (hW (k : Nat)) (show -16384 ≤ hi ∧ hi ≤ 16384 by omega)
    simp only [eN]
    generalize (eN lo hi W b k).1 = u1 at *
    generalize (eN lo hi W b k).2 = u2 at *
    generalize rd W (k : Nat) * lo = q1 at *
    generalize rd W (k : Nat) * hi = q2 at *
    split
    · simp only
      rw [w64 (x := q1) (by omega) (by omega), w64 (x := q2) (by omega) (by omega), w64 (x := u1 + q2) (by omega) (by omega), w64 (x := u2 + q1) (by omega) (by omega)]
      omega
    · simp only
      rw [w64 (x := q1) (by omega) (by omega), w64 (x := q2) (by omega) (by omega), w64 (x := u1 + q1) (by omega) (by omega), w64 (x := u2 + q2) (by omega) (by omega)]
      omega
theorem MO.wn : WN (nM c ws bs) := ⟨rfl, List.all_eq_true.2 fun x hx => inB_iff.2 (h.wx x hx), List.all_eq_true.2 fun x hx => inB_iff.2 (by have := h.bx x hx; omega), (show (0 : Int) ≤ 0 ∧ (0 : Int) ≤ 8 by decide)⟩
theorem MO.bsr (i : Int) : -32768 ≤ rd bs i ∧ rd bs i ≤ 32767 := by
  have : bs.all (inB · (-32768) 32767) = true := List.all_eq_true.2 fun x hx => inB_iff.2 (h.bx x hx)
  exact all_rd' this (by decide) (by decide) i
theorem MO.endb (i : Int) : (-16777216 ≤ (endV (nM c ws bs) lo hi w i).1 ∧ (endV (nM c ws bs) lo hi w i).1 ≤ 16777216) ∧ -16777216 ≤ (endV (nM c ws bs) lo hi w i).2 ∧ (endV (nM c ws bs) lo hi w i).2 ≤ 16777216 := by
  have h2 := h.w0
  have := h.small (wsC_rd (n := nM c ws bs) (each := w) (c := i) h.wn.ws) (h.bsr i) w h2.2
  have e2 : (nM c ws bs).bs = bs := rfl
  unfold endV
  rw [e2]
  omega
theorem MO.anb : ∀ j : Nat, (-16777216 ≤ (aN (nM c ws bs) lo hi w j).1 ∧ (aN (nM c ws bs) lo hi w j).1 ≤ 16777216) ∧ -16777216 ≤ (aN (nM c ws bs) lo hi w j).2 ∧ (aN (nM c ws bs) lo hi w j).2 ≤ 16777216
  | 0 => h.endb 0
  | j + 1 => by
    have i := MO.anb j
    have e := h.endb j
    simp only [aN, mn, mx]
    refine ⟨?_, ?_⟩ <;> split <;> omega
theorem MO.ranges : rangesV w lo hi 1 [nM c ws bs] = (0, [rgS lo hi, weighedR (nM c ws bs) lo hi w]) ∧ ((lookG w lo hi 1 [nM c ws bs]).1 = 0 → LG lo hi [nM c ws bs] (lookG w lo hi 1 [nM c ws bs]).2.1 (lookG w lo hi 1 [nM c ws bs]).2.2.1) := by
  have h1 := h.c0
  have h2 := h.w0
  have h3 := h.lo0
  have h4 := h.hi0
  have hm : mayG w lo hi 1 [nM c ws bs] = 0 := mayG_of (by simp) (by omega) (by omega) (by simp) (fun n hn j hj => by
    obtain rfl := List.mem_singleton.1 hn
    obtain rfl : j = 0 := List.mem_singleton.1 hj
    simp)
  obtain ⟨W2, R2, e, hL, _, _⟩ := gg_lg h.gg (by omega) hm ⟨by unfold in32; omega, by unfold in32; omega⟩
  refine ⟨?_, fun _ => by rw [e]; exact hL⟩
  unfold rangesV
  rw [e]
  have ho : order [nM c ws bs] = [1] := rfl
  simp only [ho]
  have hx : stepR [nM c ws bs] W2 1 (rgS lo hi :: List.replicate 1 ⟨0, 0, 0, 0⟩) = weighedR (nM c ws bs) lo hi w := by
    show nodeR (nM c ws bs) _ [rgS lo hi] (eachW (nM c ws bs)) = _
    rw [h.bw.2]
    have p1 : (nM c ws bs).has 1 = false := (by decide +kernel : (if (6 : Int) < 1 then false else if 13 ≤ (6 : Int) then false else Go.bits .and .i64 (has2 (has1 (hasT 6) 0) 0) 1 != 0) = false)
    have p2 : (nM c ws bs).has 16 = false := (by decide +kernel : (if (6 : Int) < 1 then false else if 13 ≤ (6 : Int) then false else Go.bits .and .i64 (has2 (has1 (hasT 6) 0) 0) 16 != 0) = false)
    have p3 : (nM c ws bs).padL = 0 := by unfold Nd.padL; rw [p1, p2]; rfl
    have p4 : (nM c ws bs).padR = 0 := by unfold Nd.padR; rw [p1]; rfl
    have hl : nodeL (nM c ws bs) [rgS lo hi] = lo := by
      unfold nodeL
      rw [p3, p4, if_neg (by rw [w64 (x := 0 + 0) (by decide) (by decide)]; decide)]
      show mn lo lo = lo
      unfold mn; split <;> rfl
    have hh : nodeH (nM c ws bs) [rgS lo hi] = hi := by
      unfold nodeH
      rw [p3, p4, if_neg (by rw [w64 (x := 0 + 0) (by decide) (by decide)]; decide)]
      show mx hi hi = hi
      unfold mx; split <;> rfl
    unfold nodeR
    rw [if_pos (show rWeighs (nM c ws bs).k = true from rfl), hl, hh]
  have hov : overR (weighedR (nM c ws bs) lo hi w) = false := by
    have := h.anb bs.length
    show (decide ((aN (nM c ws bs) lo hi w bs.length).1 < -68719476736) || decide (68719476736 < (aN (nM c ws bs) lo hi w bs.length).2)) = false
    rw [decide_eq_false (by omega), decide_eq_false (by omega)]; rfl
  have hr : rgL [nM c ws bs] W2 [1] (rgS lo hi :: List.replicate 1 ⟨0, 0, 0, 0⟩) = some [rgS lo hi, weighedR (nM c ws bs) lo hi w] := by
    simp only [rgL]
    rw [hx, if_neg (by rw [hov]; decide)]
    rfl
  show (if ((0 : Int) != 0) = true then _ else match rgL [nM c ws bs] W2 [1] (rgS lo hi :: List.replicate 1 ⟨0, 0, 0, 0⟩) with
    | none => ((16 : Int), ([] : List Rg))
    | some o => (0, o)) = _
  rw [hr]
  rfl
end
/-- the frame that meets an end -/
theorem dot_end (n : Nd) (lo hi : Int) (each : Nat) (c : Int) (c0 : 0 ≤ c) (f g : List Int) (b : Int) (hl : c * each + each ≤ n.ws.length) (hf : ∀ k : Int, 0 ≤ k → k < each → rd f k = (if 0 ≤ rd n.ws (c * each + k) then hi else lo) ∧ rd g k = (if 0 ≤ rd n.ws (c * each + k) then lo else hi)) : ∀ k : Nat, k ≤ each → dotK n.ws (c * each) f k b = (eN lo hi (wsC n each c) b k).2 ∧ dotK n.ws (c * each) g k b = (eN lo hi (wsC n each c) b k).1 := by
  have a0 : 0 ≤ c * (each : Int) := Int.mul_nonneg c0 (by omega)
  have a4 : (c + 1) * (each : Int) = c * each + each := by rw [Int.add_mul]; omega
  have hw : ∀ k : Nat, k < each → rd (wsC n each c) k = rd n.ws (c * each + k) := fun k hk => by
    unfold wsC rd
    rw [List.getD_eq_getElem?_getD, List.getD_eq_getElem?_getD, List.getElem?_drop, List.getElem?_take, if_pos (by omega)]
    congr 2
    omega
  intro k
  induction k with
  | zero => intro _; exact ⟨rfl, rfl⟩
  | succ k ih =>
    intro hk
    obtain ⟨i1, i2⟩ := ih (by omega)
    obtain ⟨f1, f2⟩ := hf k (by omega) (by omega)
    simp only [dotK, eN]
    rw [i1, i2, f1, f2, hw k (by omega)]
    split
    · rw [if_neg (by omega)]; exact ⟨rfl, rfl⟩
    · rw [if_pos (by omega)]; exact ⟨rfl, rfl⟩
theorem aN_at (n : Nd) (l h : Int) (each : Nat) : ∀ m : Nat, 1 ≤ m → (∃ j : Nat, j < m ∧ (aN n l h each m).1 = (endV n l h each j).1) ∧ ∃ j : Nat, j < m ∧ (aN n l h each m).2 = (endV n l h each j).2
  | 0, h => by omega
  | 1, _ => by
    simp only [aN, mn, mx]
    rw [show ((0 : Nat) : Int) = 0 from rfl]
    refine ⟨⟨0, by omega, ?_⟩, ⟨0, by omega, ?_⟩⟩ <;> rw [show ((0 : Nat) : Int) = 0 from rfl] <;> exact ite_self _
  | m + 2, _ => by
    obtain ⟨⟨j1, a1, b1⟩, ⟨j2, a2, b2⟩⟩ := aN_at n l h each (m + 1) (by omega)
    rw [aN]
    simp only [mn, mx]
    refine ⟨?_, ?_⟩
    · split
      · exact ⟨m + 1, by omega, rfl⟩
      · exact ⟨j1, by omega, b1⟩
    · split
      · exact ⟨m + 1, by omega, rfl⟩
      · exact ⟨j2, by omega, b2⟩
theorem aN_le (n : Nd) (l h : Int) (each : Nat) : ∀ m : Nat, ∀ j : Nat, j < m → (aN n l h each m).1 ≤ (endV n l h each j).1 ∧ (endV n l h each j).2 ≤ (aN n l h each m).2
  | 0, j, hj => by omega
  | m + 1, j, hj => by
    simp only [aN, mn, mx]
    rcases Nat.lt_or_ge j m with h1 | h1
    · have := aN_le n l h each m j h1
      refine ⟨?_, ?_⟩ <;> split <;> omega
    · obtain rfl : j = m := by omega
      refine ⟨?_, ?_⟩ <;> split <;> omega
end Go.Proofs.YtgijboakaodcgaaDoor.Aw
namespace Go.Proofs.YtgijboakaodcgaaDoor.Aw
open Go.RowKit
attribute [local go_sem_proc] Nat.reduceAdd Nat.reduceMul Nat.reduceSub Nat.reduceEqDiff Nat.reduceLeDiff Nat.reduceBEq Nat.reduceBNe Int.reduceToNat reduceIte reduceCtorEq
attribute [local go_sem] initT SQ so pe he ev lk constS stp stc gdS nth pickS pickD loadS cellsAt okAt fieldAddrS fieldS partS indexAddrS indexS extractS binS binD binI isShift unS convS lenS sliceS bndI bndC mmS mm2 mmD builtS fillS okCells cellsS splS solid aliveL alive okS boxS allocS makeS bsliceS elemsOf dcells stF storeS frzA frz frzT frzS frzL frzO frzH appS srcS appVC killS killT killC killH killO k1 k2 S.has S.hasL St.add St.upd dropH lh cond_or cond_and rw_intC rw_intC0 rw_set rw_app rw_apps rw_rep rw_slice wr64 cond_true cond_false true_and and_true List.map_cons List.map_nil List.length_cons List.length_nil List.drop_succ_cons List.drop_zero List.take_succ_cons List.take_zero List.nil_append List.cons_append List.getD_cons_zero List.getD_cons_succ List.headD_cons List.length_map ite_true ite_false if_true if_false Bool.false_eq_true and_self forall_const List.drop_nil List.take_nil List.append_nil Option.map_some Option.map_none List.mapM_cons List.mapM_nil Option.bind_eq_bind Option.bind_some Option.pure_def knows resL resV oneS freshS freshL cv cvL stpL stcL or_true true_or or_false false_or List.all_cons List.all_nil Bool.and_self Bool.or_self Bool.true_and Bool.and_true Bool.or_false Bool.false_or implies_true flatD allm_nil allm_cons List.getElem?_cons_zero List.getElem?_cons_succ Nd.cs Nd.ds ml mln Option.isSome_some Option.isSome_none eq_self Int.toNat_natCast AP ldOk isLd inL subL crt chg chgS chgP idxs aliveW Option.toList_some Option.toList_none Option.toList RetG Nd.win frzA offK keepH aliveK nkH closedH closedO keysK inH St.upd rowO List.contains_cons List.contains_nil Bool.or_self Option.isNone_none Option.isNone_some Bool.not_true Bool.not_false gcs rowN e0N frzC
attribute [local go_sem] sz2 ag2 ok2 kk2 iu2 zc2 zd2 by2 sz3 ag3 ok3 kk3 iu3 zc3 zd3 by3 sz4 ag4 ok4 bo4 zc4 zd4 by4 sz5 ag5 ok5 kk5 iu5 zc5 zd5 by5 sz9 ag9 ok9 st9 zc9 zd9 by9 sz12 ag12 ok12 kk12 iu12 zc12 zd12 by12 sz15 ag15 ok15 zc15 by15 sz16 ag16 ok16 zc16 by16 sz21 ag21 ok21 kk21 iu21 zc21 zd21 by21 sz22 ag22 ok22 sl22 zc22 zd22 by22 sz23 ag23 ok23 zc23 zd23 pl23 by23 fl23_0 fl23_1 fl23_2 fl23_3 fl23_4 fl23_5 sz24 ag24 ok24 zc24 zd24 pl24 by24 fl24_0 fl24_1 fl24_2 fl24_3 fl24_4 fl24_5 sz26 ag26 ok26 zc26 zd26 pl26 by26 fl26_0 fl26_1 fl26_2 fl26_3 fl26_4 fl26_5 fl26_6 fl26_7 fl26_8 fl26_9 fl26_10 fl26_11 fl26_12 fl26_13 fl26_14 sz27 ag27 ok27 zc27 zd27 pl27 by27 fl27_0 fl27_1 fl27_2 fl27_3 fl27_4 fl27_5 fl27_6 fl27_7 fl27_8 fl27_9 fl27_10 fl27_11 fl27_12 fl27_13 fl27_14 sz28 ag28 ok28 sl28 zc28 zd28 by28 sz38 ag38 ok38 sl38 ar38 zc38 zd38 pl38 by38 sz44 ag44 ok44 sl44 ar44 zc44 zd44 pl44 by44 sz45 ag45 ok45 sl45 zc45 zd45 by45 sz46 ag46 ok46 zc46 zd46 pl46 by46 fl46_0 fl46_1 fl46_2 fl46_3 fl46_4 sz47 ag47 ok47 zc47 zd47 pl47 by47 fl47_0 fl47_1 fl47_2 fl47_3 fl47_4 sz49 ag49 ok49 kk49 iu49 zc49 zd49 by49 sz53 ag53 ok53 sl53 ar53 zc53 zd53 pl53 by53 sz54 ag54 ok54 kk54 iu54 zc54 zd54 by54 sz55 ag55 ok55 kk55 iu55 zc55 zd55 by55 sz56 ag56 ok56 sl56 zc56 zd56 by56 sz57 ag57 ok57 kk57 iu57 zc57 zd57 by57 sz60 ag60 ok60 zc60 zd60 pl60 by60 fl60_0 fl60_1 fl60_2 fl60_3 sz61 ag61 ok61 zc61 zd61 pl61 by61 fl61_0 fl61_1 fl61_2 fl61_3 sz64 ag64 ok64 zc64 by64 sz65 ag65 ok65 zc65 zd65 pl65 by65 fl65_0 fl65_1 sz66 ag66 ok66 zc66 zd66 pl66 by66 fl66_0 fl66_1 sz78 ag78 ok78 sl78 ar78 zc78 zd78 pl78 by78 sz79 ag79 ok79 sl79 ar79 zc79 zd79 pl79 by79 sz81 ag81 ok81 zc81 zd81 pl81 by81 fl81_0 fl81_1 sz82 ag82 ok82 zc82 zd82 pl82 by82 fl82_0 fl82_1 sz84 ag84 ok84 zc84 zd84 pl84 by84 fl84_0 fl84_1 fl84_2 fl84_3 sz85 ag85 ok85 zc85 zd85 pl85 by85 fl85_0 fl85_1 fl85_2 fl85_3 sz92 ag92 ok92 sl92 ar92 zc92 zd92 pl92 by92 sz101 ag101 ok101 zc101 zd101 pl101 by101 fl101_0 fl101_1 sz102 ag102 ok102 zc102 zd102 pl102 by102 fl102_0 fl102_1 sz109 ag109 ok109 zc109 zd109 pl109 by109 fl109_0 fl109_1 fl109_2 sz110 ag110 ok110 zc110 zd110 pl110 by110 fl110_0 fl110_1 fl110_2 sz120 ag120 ok120 sl120 ar120 zc120 zd120 pl120 by120 sz121 ag121 ok121 zc121 zd121 pl121 by121 fl121_0 fl121_1 sz122 ag122 ok122 sl122 ar122 zc122 zd122 pl122 by122 sz130 ag130 ok130 zc130 by130 sz140 ag140 ok140 kk140 iu140 zc140 zd140 by140 sz144 ag144 ok144 zc144 by144
section
attribute [local simp] ring
end
end Go.Proofs.YtgijboakaodcgaaDoor.Aw
namespace Go.Proofs.YtgijboakaodcgaaDoor.Aw
open Go.RowKit
/-! an operation that stands where a call may stand; a value whose nils are rows of none -/
section
variable {E : Env} {ops : List Oper} {o : Oper} {s : St} {rest : List Oper} {K : St → Prop} {d : Nat}
end
end Go.Proofs.YtgijboakaodcgaaDoor.Aw
namespace Go.Proofs.YtgijboakaodcgaaDoor.Aw
open Go.RowKit
attribute [local go_sem_proc] Nat.reduceAdd Nat.reduceMul Nat.reduceSub Nat.reduceEqDiff Nat.reduceLeDiff Nat.reduceBEq Nat.reduceBNe Int.reduceToNat reduceIte reduceCtorEq
attribute [local go_sem] initT SQ so pe he ev lk constS stp stc gdS nth pickS pickD loadS cellsAt okAt fieldAddrS fieldS partS indexAddrS indexS extractS binS binD binI isShift unS convS lenS sliceS bndI bndC mmS mm2 mmD builtS fillS okCells cellsS splS solid aliveL alive okS boxS allocS makeS bsliceS elemsOf dcells stF storeS frzA frz frzT frzS frzL frzO frzH appS srcS appVC killS killT killC killH killO k1 k2 S.has S.hasL St.add St.upd dropH lh cond_or cond_and rw_intC rw_intC0 rw_set rw_app rw_apps rw_rep rw_slice wr64 cond_true cond_false true_and and_true List.map_cons List.map_nil List.length_cons List.length_nil List.drop_succ_cons List.drop_zero List.take_succ_cons List.take_zero List.nil_append List.cons_append List.getD_cons_zero List.getD_cons_succ List.headD_cons List.length_map ite_true ite_false if_true if_false Bool.false_eq_true and_self forall_const List.drop_nil List.take_nil List.append_nil Option.map_some Option.map_none List.mapM_cons List.mapM_nil Option.bind_eq_bind Option.bind_some Option.pure_def knows resL resV oneS freshS freshL cv cvL stpL stcL or_true true_or or_false false_or List.all_cons List.all_nil Bool.and_self Bool.or_self Bool.true_and Bool.and_true Bool.or_false Bool.false_or implies_true flatD allm_nil allm_cons List.getElem?_cons_zero List.getElem?_cons_succ Nd.cs Nd.ds ml mln Option.isSome_some Option.isSome_none eq_self Int.toNat_natCast AP ldOk isLd inL subL crt chg chgS chgP idxs aliveW Option.toList_some Option.toList_none Option.toList RetG Nd.win frzA offK keepH aliveK nkH closedH closedO keysK inH St.upd rowO List.contains_cons List.contains_nil Bool.or_self Option.isNone_none Option.isNone_some Bool.not_true Bool.not_false gcs rowN e0N frzC
attribute [local go_sem] sz2 ag2 ok2 kk2 iu2 zc2 zd2 by2 sz3 ag3 ok3 kk3 iu3 zc3 zd3 by3 sz4 ag4 ok4 bo4 zc4 zd4 by4 sz5 ag5 ok5 kk5 iu5 zc5 zd5 by5 sz9 ag9 ok9 st9 zc9 zd9 by9 sz12 ag12 ok12 kk12 iu12 zc12 zd12 by12 sz15 ag15 ok15 zc15 by15 sz16 ag16 ok16 zc16 by16 sz21 ag21 ok21 kk21 iu21 zc21 zd21 by21 sz22 ag22 ok22 sl22 zc22 zd22 by22 sz23 ag23 ok23 zc23 zd23 pl23 by23 fl23_0 fl23_1 fl23_2 fl23_3 fl23_4 fl23_5 sz24 ag24 ok24 zc24 zd24 pl24 by24 fl24_0 fl24_1 fl24_2 fl24_3 fl24_4 fl24_5 sz26 ag26 ok26 zc26 zd26 pl26 by26 fl26_0 fl26_1 fl26_2 fl26_3 fl26_4 fl26_5 fl26_6 fl26_7 fl26_8 fl26_9 fl26_10 fl26_11 fl26_12 fl26_13 fl26_14 sz27 ag27 ok27 zc27 zd27 pl27 by27 fl27_0 fl27_1 fl27_2 fl27_3 fl27_4 fl27_5 fl27_6 fl27_7 fl27_8 fl27_9 fl27_10 fl27_11 fl27_12 fl27_13 fl27_14 sz28 ag28 ok28 sl28 zc28 zd28 by28 sz38 ag38 ok38 sl38 ar38 zc38 zd38 pl38 by38 sz44 ag44 ok44 sl44 ar44 zc44 zd44 pl44 by44 sz45 ag45 ok45 sl45 zc45 zd45 by45 sz46 ag46 ok46 zc46 zd46 pl46 by46 fl46_0 fl46_1 fl46_2 fl46_3 fl46_4 sz47 ag47 ok47 zc47 zd47 pl47 by47 fl47_0 fl47_1 fl47_2 fl47_3 fl47_4 sz49 ag49 ok49 kk49 iu49 zc49 zd49 by49 sz53 ag53 ok53 sl53 ar53 zc53 zd53 pl53 by53 sz54 ag54 ok54 kk54 iu54 zc54 zd54 by54 sz55 ag55 ok55 kk55 iu55 zc55 zd55 by55 sz56 ag56 ok56 sl56 zc56 zd56 by56 sz57 ag57 ok57 kk57 iu57 zc57 zd57 by57 sz60 ag60 ok60 zc60 zd60 pl60 by60 fl60_0 fl60_1 fl60_2 fl60_3 sz61 ag61 ok61 zc61 zd61 pl61 by61 fl61_0 fl61_1 fl61_2 fl61_3 sz64 ag64 ok64 zc64 by64 sz65 ag65 ok65 zc65 zd65 pl65 by65 fl65_0 fl65_1 sz66 ag66 ok66 zc66 zd66 pl66 by66 fl66_0 fl66_1 sz78 ag78 ok78 sl78 ar78 zc78 zd78 pl78 by78 sz79 ag79 ok79 sl79 ar79 zc79 zd79 pl79 by79 sz81 ag81 ok81 zc81 zd81 pl81 by81 fl81_0 fl81_1 sz82 ag82 ok82 zc82 zd82 pl82 by82 fl82_0 fl82_1 sz84 ag84 ok84 zc84 zd84 pl84 by84 fl84_0 fl84_1 fl84_2 fl84_3 sz85 ag85 ok85 zc85 zd85 pl85 by85 fl85_0 fl85_1 fl85_2 fl85_3 sz92 ag92 ok92 sl92 ar92 zc92 zd92 pl92 by92 sz101 ag101 ok101 zc101 zd101 pl101 by101 fl101_0 fl101_1 sz102 ag102 ok102 zc102 zd102 pl102 by102 fl102_0 fl102_1 sz109 ag109 ok109 zc109 zd109 pl109 by109 fl109_0 fl109_1 fl109_2 sz110 ag110 ok110 zc110 zd110 pl110 by110 fl110_0 fl110_1 fl110_2 sz120 ag120 ok120 sl120 ar120 zc120 zd120 pl120 by120 sz121 ag121 ok121 zc121 zd121 pl121 by121 fl121_0 fl121_1 sz122 ag122 ok122 sl122 ar122 zc122 zd122 pl122 by122 sz130 ag130 ok130 zc130 by130 sz140 ag140 ok140 kk140 iu140 zc140 zd140 by140 sz144 ag144 ok144 zc144 by144
section
attribute [local go_sem] Rg.cs Rg.ds e0R rgS
def nE : Nd := ⟨6, [0], 1, 0, 0, 0, 0, 0, [4, -1], [10], 0, 0, 0, 0, 0⟩
theorem nE_look : lookG 2 (-2) 3 1 [nE] = (0, [1], [2, 1], [1, 1]) := by decide +kernel
theorem nE_rg : rangesV 2 (-2) 3 1 [nE] = (0, [⟨-2, 3, -2, 3⟩, ⟨-1, 24, -1, 24⟩]) := by kernel_rfl
theorem nE_lg : (lookG 2 (-2) 3 1 [nE]).1 = 0 → LG (-2) 3 [nE] (lookG 2 (-2) 3 1 [nE]).2.1 (lookG 2 (-2) 3 1 [nE]).2.2.1 := fun _ => by
  rw [nE_look]
  refine ⟨⟨by decide, by decide⟩, rfl, by decide, fun i hi => ?_, by decide⟩
  obtain rfl : i = 1 := by simpa using hi
  exact ⟨by decide, ⟨by decide, by decide, fun _ => ⟨by decide, by decide, by decide⟩, by decide⟩⟩
attribute [local go_sem] nE
theorem awake20_c {T : World → Prop} (Tk : KT T) : Cg Go.Proofs.Tryd.prog T 22 [] [] (fun r H => H = [] ∧ r = .d (.b true)) := by
  have hR := Ranges_c Tk 2 (-2) 3 1 [nE] (by decide) (by decide) nE_lg
  have hF := Fits20_c Tk 2 (-2) 3 1 [nE] (by decide) (by decide) nE_lg
  rw [nE_rg] at hR hF
  refine Cg_of [] Tk.m Go.Proofs.Tryd.func22 rfl rfl Go.Proofs.Tryd.ntmps22 (by simp) rfl (rs := [.tmp 0]) rfl fun E hP hn hT hpn => ?_
  (repeat (first | refine Tr.seq ?_ | refine Tr.skip ?_ | refine Tr.label ?_ | refine Tr.block ?_ | refine Tr.scope ?_ | refine gs1 ?_ | refine gs2 ?_ | refine gs3 ?_ | refine Tr.exit ?_ | refine Tr.goto ?_ | refine Tr.ret ?_ | refine n1 ?_ | refine n2 ?_ | refine n3 ?_ | refine n4 ?_ | refine n5 ?_ | refine n6 ?_ | refine n7 ?_ | refine n8 ?_ | refine n9 (by decide) ?_))
  (first | refine r1 ?_ | refine r2 ?_ | refine r3 ?_); intro K hK; simp only [go_sem, hP, hn]; (repeat (refine ⟨by first | trivial | omega | (simp <;> omega) | (simp +contextual; done) | (clear hK; grind), ?_⟩)); refine hK _ ?_; clear K hK
  (repeat (first | refine Tr.seq ?_ | refine Tr.skip ?_ | refine Tr.label ?_ | refine Tr.block ?_ | refine Tr.scope ?_ | refine gs1 ?_ | refine gs2 ?_ | refine gs3 ?_ | refine Tr.exit ?_ | refine Tr.goto ?_ | refine Tr.ret ?_ | refine n1 ?_ | refine n2 ?_ | refine n3 ?_ | refine n4 ?_ | refine n5 ?_ | refine n6 ?_ | refine n7 ?_ | refine n8 ?_ | refine n9 (by decide) ?_))
  (first | refine r1 ?_ | refine r2 ?_ | refine r3 ?_); intro K hK; simp only [go_sem, hP, hn]; (repeat (refine ⟨by first | trivial | omega | (simp <;> omega) | (simp +contextual; done) | (clear hK; grind), ?_⟩)); refine hK _ ?_; clear K hK
  refine Tr.le (Le.freeze 4) ?_
  simp only [go_sem, hP, hn]
  refine Tr.le (Le.freeze 5) ?_
  simp only [go_sem, hP, hn]
  refine Tr.le (Le.freeze 6) ?_
  simp only [go_sem, hP, hn]
  refine Tr.le (Le.freeze 8) ?_
  simp only [go_sem, hP, hn]
  refine Tr.le (Le.keep [1]) ?_; simp only [List.map_cons, List.map_nil, lk, Nat.reduceEqDiff, reduceIte]
  (repeat (first | refine Tr.seq ?_ | refine Tr.skip ?_ | refine Tr.label ?_ | refine Tr.block ?_ | refine Tr.scope ?_ | refine gs1 ?_ | refine gs2 ?_ | refine gs3 ?_ | refine Tr.exit ?_ | refine Tr.goto ?_ | refine Tr.ret ?_ | refine n1 ?_ | refine n2 ?_ | refine n3 ?_ | refine n4 ?_ | refine n5 ?_ | refine n6 ?_ | refine n7 ?_ | refine n8 ?_ | refine n9 (by decide) ?_))
  (first | refine r1 ?_ | refine r2 ?_ | refine r3 ?_); intro K hK; simp only [go_sem, hP, hn]
  (repeat (refine ⟨by first | trivial | omega | (simp <;> omega) | (simp +contextual; done) | (clear hK; grind), ?_⟩))
  refine CallN_cs (Hi := [] ) (by rw [hP, hT]; exact  hR) rfl rfl rfl trivial (by simp only [go_sem, hP, hn]; try trivial) (by simp only [go_sem, hP, hn]; try rfl) (by simp only [inH, go_sem, hP, hn]; try simp) (by rw [hn]; decide) ?_; simp only [go_sem, hP, hn]; (repeat (refine ⟨by first | trivial | omega | (simp <;> omega) | (simp +contextual; done) | (clear hK; grind), ?_⟩))
  refine hK _ ?_; clear K hK
  refine Tr.le (Le.keep [1, 2, 3]) ?_; simp only [List.map_cons, List.map_nil, lk, Nat.reduceEqDiff, reduceIte]
  (repeat (first | refine Tr.seq ?_ | refine Tr.skip ?_ | refine Tr.label ?_ | refine Tr.block ?_ | refine Tr.scope ?_ | refine gs1 ?_ | refine gs2 ?_ | refine gs3 ?_ | refine Tr.exit ?_ | refine Tr.goto ?_ | refine Tr.ret ?_ | refine n1 ?_ | refine n2 ?_ | refine n3 ?_ | refine n4 ?_ | refine n5 ?_ | refine n6 ?_ | refine n7 ?_ | refine n8 ?_ | refine n9 (by decide) ?_))
  (first | refine r1 ?_ | refine r2 ?_ | refine r3 ?_); intro K hK; simp only [go_sem, hP, hn]
  (repeat (refine ⟨by first | trivial | omega | (simp <;> omega) | (simp +contextual; done) | (clear hK; grind), ?_⟩))
  refine CallN_gs (Hi := [] ) (fun hg => by rw [hP, hT]; exact  hF) rfl rfl rfl (fun hg => trivial) (fun hg => by clear hK; revert hg; simp only [go_sem, hP, hn] <;> first | trivial | omega | (simp; done) | (simp +contextual; done) | grind) (fun hg => by simp only [go_sem, hP, hn]; try rfl) (by simp only [inH, go_sem, hP, hn]; try simp) (by rw [hn]; decide) ?_; simp only [go_sem, hP, hn]; (repeat (refine ⟨by first | trivial | omega | (simp <;> omega) | (simp +contextual; done) | (clear hK; grind), ?_⟩))
  refine hK _ ?_; clear K hK
  (repeat (first | ((first | refine r1 ?_ | refine r2 ?_ | refine r3 ?_); intro K hK; simp only [go_sem, hP, hn]; (repeat (refine ⟨by first | trivial | omega | (simp <;> omega) | (simp +contextual; done) | (clear hK; grind), ?_⟩)); refine hK _ ?_; clear K hK) | refine Tr.seq ?_ | refine Tr.skip ?_ | refine Tr.label ?_ | refine Tr.block ?_ | refine Tr.scope ?_ | refine gs1 ?_ | refine gs2 ?_ | refine gs3 ?_ | refine Tr.exit ?_ | refine Tr.goto ?_ | refine Tr.ret ?_ | refine n1 ?_ | refine n2 ?_ | refine n3 ?_ | refine n4 ?_ | refine n5 ?_ | refine n6 ?_ | refine n7 ?_ | refine n8 ?_ | refine n9 (by decide) ?_))
  simp only [RetG, go_sem]; (repeat (with_reducible refine And.intro ?_ ?_; (· first | trivial | omega | (simp <;> omega) | (simp +contextual; done) | (clear hK; grind))))
  rfl
attribute [local go_sem] PMade
end
section
attribute [local go_sem] Rg.cs Rg.ds e0R rgS frD
def mC (c : Int) (x y : S) : List S := [.d (.i .i64 6), .d (.row [.i .i64 0] [[.i .i64 0]]), .d (.i .i64 c), .d (.i .i64 0), .d (.i .i64 0), .d (.i .i64 0), .d (.i .i64 0), .d (.i .i64 0), x, y, .d (.i .i64 0), .d (.i .i64 0), .d (.i .i64 0), .d (.i .i64 0), .d (.i .i64 0)]
attribute [local go_sem] mC nM
theorem MO.fr {c w : Nat} {lo hi : Int} {ws bs : List Int} (h : MO c w lo hi ws bs) {f g : List Int} {i : Int} (i0 : 0 ≤ i) (i1 : i < c) (hf : ∀ k : Int, 0 ≤ k → k < w → rd f k = (if 0 ≤ rd ws (i * w + k) then hi else lo) ∧ rd g k = (if 0 ≤ rd ws (i * w + k) then lo else hi)) : rd (frameV (nM c ws bs) [f] w) i = (nM c ws bs).pst (endV (nM c ws bs) lo hi w i).2 ∧ rd (frameV (nM c ws bs) [g] w) i = (nM c ws bs).pst (endV (nM c ws bs) lo hi w i).1 := by
  have ef : ∀ f, rd (frameV (nM c ws bs) [f] w) i = (nM c ws bs).pst (dotK ws (i * w) f w (rd bs i)) := fun f => by
    have e1 : frameV (nM c ws bs) [f] w = weighedN (nM c ws bs) [f] w (nM c ws bs).bs.length := by
      unfold frameV; rw [if_pos (show rWeighs (nM c ws bs).k = true from rfl)]; rfl
    rw [e1, weighedN_rd _ _ _ _ _ i0 (by rw [show (nM c ws bs).bs = bs from rfl, h.bl]; exact i1)]
    congr 1
    show dotK ws ((i * ((1 : Nat) : Int) + ((0 : Nat) : Int)) * (w : Int)) f w (rd bs i) = _
    congr 1
    simp
  have hl : i * (w : Int) + w ≤ ws.length := by
    have e : (ws.length : Int) = c * w := by rw [h.wl]; simp
    have a : (i + 1) * (w : Int) ≤ c * w := Int.mul_le_mul_of_nonneg_right (by omega) (by omega)
    rw [Int.add_mul] at a
    omega
  have := dot_end (nM c ws bs) lo hi w i i0 f g (rd bs i) hl hf w (Nat.le_refl _)
  rw [ef, ef]
  exact ⟨congrArg _ this.1, congrArg _ this.2⟩
theorem frM_len {c w : Nat} {lo hi : Int} {ws bs : List Int} (h : MO c w lo hi ws bs) (f : List Int) : (frameV (nM c ws bs) [f] w).length = c := by
  have e1 : frameV (nM c ws bs) [f] w = weighedN (nM c ws bs) [f] w (nM c ws bs).bs.length := by
    unfold frameV; rw [if_pos (show rWeighs (nM c ws bs).k = true from rfl)]; rfl
  rw [e1, weighedN_len]; exact h.bl
/-- ends of each number -/
theorem MO.met {c w : Nat} {lo hi : Int} {ws bs : List Int} (h : MO c w lo hi ws bs) : (∀ j : Nat, j < c → (weighedR (nM c ws bs) lo hi w).lo ≤ (nM c ws bs).pst (endV (nM c ws bs) lo hi w j).1 ∧ (nM c ws bs).pst (endV (nM c ws bs) lo hi w j).2 ≤ (weighedR (nM c ws bs) lo hi w).hi) ∧ (∃ j : Nat, j < c ∧ (nM c ws bs).pst (endV (nM c ws bs) lo hi w j).1 = (weighedR (nM c ws bs) lo hi w).lo) ∧ ∃ j : Nat, j < c ∧ (nM c ws bs).pst (endV (nM c ws bs) lo hi w j).2 = (weighedR (nM c ws bs) lo hi w).hi := by
  have hb : (nM c ws bs).bs.length = c := h.bl
  have hs : (nM c ws bs).s27 = true := rfl
  obtain ⟨⟨j1, a1, b1⟩, j2, a2, b2⟩ := aN_at (nM c ws bs) lo hi w c h.c0.1
  refine ⟨fun j hj => ?_, ⟨j1, a1, ?_⟩, j2, a2, ?_⟩
  · obtain ⟨p, q⟩ := aN_le (nM c ws bs) lo hi w c j hj
    unfold weighedR
    rw [hb]
    exact ⟨pst_mono hs p, pst_mono hs q⟩
  · unfold weighedR; rw [hb, b1]
  · unfold weighedR; rw [hb, b2]
theorem rd_setV (l : List Int) {k : Int} (v j : Int) (h0 : 0 ≤ k) (h1 : k < l.length) (j0 : 0 ≤ j) : rd (l.set k.toNat v) j = if j = k then v else rd l j := by
  unfold rd
  rw [List.getD_eq_getElem?_getD, List.getD_eq_getElem?_getD, List.getElem?_set]
  split
  · rename_i h; rw [if_pos (by omega), if_pos (by omega)]; rfl
  · rename_i h; rw [if_neg (by omega)]
theorem setM {l : List Int} {k lo hi : Int} {w : Nat} (h0 : 0 ≤ k) (h1 : k < l.length) {v : Int} {P : Int → Int} (hj : ∀ j : Int, 0 ≤ j → j < k → rd l j = P j) (hv : v = P k) : ∀ j : Int, 0 ≤ j → j < k + 1 → rd (l.set k.toNat v) j = P j := fun j j0 j1 => by
  rw [rd_setV _ _ _ h0 h1 j0]
  split
  · rename_i e; rw [e, hv]
  · exact hj j j0 (by omega)
theorem memM {l : List Int} {k : Nat} {v lo hi : Int} (h : ∀ x ∈ l, lo ≤ x ∧ x ≤ hi) (hv : lo ≤ v ∧ v ≤ hi) : ∀ x ∈ l.set k v, lo ≤ x ∧ x ≤ hi := fun x hx => by
  rcases List.mem_or_eq_of_mem_set hx with h1 | h1
  · exact h x h1
  · rw [h1]; exact hv
theorem set_set_ (l : List Int) (k : Nat) (a b : Int) : (l.set k a).set k b = l.set k b := by simp
theorem and14 (x : Int) : Go.bits .and .i64 x 16383 = x % 16384 := and_mask x 14 (by decide)
theorem i8w (x : Int) : -128 ≤ IntKind.i8.wrap x ∧ IntKind.i8.wrap x ≤ 127 := by
  have : IntKind.i8.wrap x = (x + 128) % 256 - 128 := by
    unfold IntKind.wrap
    simp [IntKind.bits, IntKind.signed]
    omega
  rw [this]; omega
theorem i16w (x : Int) : -32768 ≤ IntKind.i16.wrap x ∧ IntKind.i16.wrap x ≤ 32767 := by
  have : IntKind.i16.wrap x = (x + 32768) % 65536 - 32768 := by
    unfold IntKind.wrap
    simp [IntKind.bits, IntKind.signed]
    omega
  rw [this]; omega
theorem BoundMet_c {T : World → Prop} (Tk : KT T) (l : List Int) (wi q0 q1 q2 : Int) (hl : l.length ≤ maxLen) : Cg Go.Proofs.Tryd.prog T 10 [] [.d (.row [.i .i64 0] (l.map intC)), .d (.i .i64 wi), .agg [.d (.i .i64 q0), .d (.i .i64 q1), .d (.i .i64 q2)]] (fun r H => H = [] ∧ r = .d (.b true)) := by
  obtain ⟨w0, w1⟩ := next_num wi 4 (by decide) (by decide)
  refine Cg_of [] Tk.m Go.Proofs.Tryd.func10 rfl rfl Go.Proofs.Tryd.ntmps10 (by simp) rfl (rs := [.tmp 6]) rfl fun E hP hn hT hpn => ?_
  (repeat (first | refine Tr.seq ?_ | refine Tr.skip ?_ | refine Tr.label ?_ | refine Tr.block ?_ | refine Tr.scope ?_ | refine gs1 ?_ | refine gs2 ?_ | refine gs3 ?_ | refine Tr.exit ?_ | refine Tr.goto ?_ | refine Tr.ret ?_ | refine n1 ?_ | refine n2 ?_ | refine n3 ?_ | refine n4 ?_ | refine n5 ?_ | refine n6 ?_ | refine n7 ?_ | refine n8 ?_ | refine n9 (by decide) ?_))
  (first | refine r1 ?_ | refine r2 ?_ | refine r3 ?_); intro K hK; simp only [go_sem, hP, hn]; (repeat (refine ⟨by first | trivial | omega | (simp <;> omega) | (simp +contextual; done) | (clear hK; grind), ?_⟩)); refine hK _ ?_; clear K hK
  (repeat (first | refine Tr.seq ?_ | refine Tr.skip ?_ | refine Tr.label ?_ | refine Tr.block ?_ | refine Tr.scope ?_ | refine gs1 ?_ | refine gs2 ?_ | refine gs3 ?_ | refine Tr.exit ?_ | refine Tr.goto ?_ | refine Tr.ret ?_ | refine n1 ?_ | refine n2 ?_ | refine n3 ?_ | refine n4 ?_ | refine n5 ?_ | refine n6 ?_ | refine n7 ?_ | refine n8 ?_ | refine n9 (by decide) ?_))
  (first | refine r1 ?_ | refine r2 ?_ | refine r3 ?_); intro K hK; simp only [go_sem, hP, hn]
  (repeat (refine ⟨by first | trivial | omega | (simp <;> omega) | (simp +contextual; done) | (clear hK; grind), ?_⟩))
  refine CallN_cs (Hi := [] ) (by rw [hP, hT]; exact  awake20_c Tk) rfl rfl rfl trivial (by simp only [go_sem, hP, hn]; try trivial) (by simp only [go_sem, hP, hn]; try rfl) (by simp only [inH, go_sem, hP, hn]; try simp) (by rw [hn]; decide) ?_; simp only [go_sem, hP, hn]; (repeat (refine ⟨by first | trivial | omega | (simp <;> omega) | (simp +contextual; done) | (clear hK; grind), ?_⟩))
  refine hK _ ?_; clear K hK
  have hw : wrap64 (1 + Int.tmod (wrap64 (Int.tmod wi 4 + 4)) 4) = 1 + Int.tmod (wrap64 (Int.tmod wi 4 + 4)) 4 := w64 (by omega) (by omega)
  (repeat (first | refine Tr.seq ?_ | refine Tr.skip ?_ | refine Tr.label ?_ | refine Tr.block ?_ | refine Tr.scope ?_ | refine gs1 ?_ | refine gs2 ?_ | refine gs3 ?_ | refine Tr.exit ?_ | refine Tr.goto ?_ | refine Tr.ret ?_ | refine n1 ?_ | refine n2 ?_ | refine n3 ?_ | refine n4 ?_ | refine n5 ?_ | refine n6 ?_ | refine n7 ?_ | refine n8 ?_ | refine n9 (by decide) ?_))
  (first | refine r1 ?_ | refine r2 ?_ | refine r3 ?_); intro K hK; simp only [hw, go_sem, hP, hn]; (repeat (refine ⟨by first | trivial | omega | (simp <;> omega) | (simp +contextual; done) | (clear hK; grind), ?_⟩)); refine hK _ ?_; clear K hK
  generalize hz : 1 + Int.tmod (wrap64 (Int.tmod wi 4 + 4)) 4 = z at *
  obtain ⟨w, rfl⟩ : ∃ w : Nat, z = w := ⟨z.toNat, by omega⟩
  have hw1 : 1 ≤ w ∧ w ≤ 4 := by omega
  clear hw hz w0 w1
  obtain ⟨d, hd, hdl⟩ : ∃ d : Nat, wrap64 (Int.tdiv (l.length : Int) (w : Int)) = d ∧ d * w ≤ l.length := by
    refine ⟨l.length / w, ?_, Nat.div_mul_le_self _ _⟩
    rw [← Int.ofNat_tdiv]
    have := Nat.div_le_self l.length w
    rw [mln] at hl
    generalize l.length / w = y at *
    exact w64 (by omega) (by omega)
  have hd10 : (if (10 : Int) < d then 10 else (d : Int)) = ((min d 10 : Nat) : Int) := by split <;> omega
  (repeat (first | refine Tr.seq ?_ | refine Tr.skip ?_ | refine Tr.label ?_ | refine Tr.block ?_ | refine Tr.scope ?_ | refine gs1 ?_ | refine gs2 ?_ | refine gs3 ?_ | refine Tr.exit ?_ | refine Tr.goto ?_ | refine Tr.ret ?_ | refine n1 ?_ | refine n2 ?_ | refine n3 ?_ | refine n4 ?_ | refine n5 ?_ | refine n6 ?_ | refine n7 ?_ | refine n8 ?_ | refine n9 (by decide) ?_))
  (first | refine r1 ?_ | refine r2 ?_ | refine r3 ?_); intro K hK; simp only [hd, hd10, go_sem, hP, hn]
  (repeat (refine ⟨by first | trivial | omega | (simp <;> omega) | (simp +contextual; done) | (clear hK; grind), ?_⟩))
  refine hK _ ?_; clear K hK
  have hcw : min d 10 * w ≤ l.length := Nat.le_trans (Nat.mul_le_mul_right w (Nat.min_le_left d 10)) hdl
  have hc10 : min d 10 ≤ 10 := Nat.min_le_right d 10
  clear hd hdl hd10
  generalize min d 10 = c at *
  (repeat (first | refine Tr.seq ?_ | refine Tr.skip ?_ | refine Tr.label ?_ | refine Tr.block ?_ | refine Tr.scope ?_ | refine gs1 ?_ | refine gs2 ?_ | refine gs3 ?_ | refine Tr.exit ?_ | refine Tr.goto ?_ | refine Tr.ret ?_ | refine n1 ?_ | refine n2 ?_ | refine n3 ?_ | refine n4 ?_ | refine n5 ?_ | refine n6 ?_ | refine n7 ?_ | refine n8 ?_ | refine n9 (by decide) ?_))
  (first | refine r1 ?_ | refine r2 ?_ | refine r3 ?_); intro K hK; simp only [go_sem, hP, hn]; (repeat (refine ⟨by first | trivial | omega | (simp <;> omega) | (simp +contextual; done) | (clear hK; grind), ?_⟩)); refine hK _ ?_; clear K hK
  (repeat (first | refine Tr.seq ?_ | refine Tr.skip ?_ | refine Tr.label ?_ | refine Tr.block ?_ | refine Tr.scope ?_ | refine gs1 ?_ | refine gs2 ?_ | refine gs3 ?_ | refine Tr.exit ?_ | refine Tr.goto ?_ | refine Tr.ret ?_ | refine n1 ?_ | refine n2 ?_ | refine n3 ?_ | refine n4 ?_ | refine n5 ?_ | refine n6 ?_ | refine n7 ?_ | refine n8 ?_ | refine n9 (by decide) ?_))
  refine Tr.cond rfl (fun hc => ?_) (fun hc => ?_)
  · (repeat (first | ((first | refine r1 ?_ | refine r2 ?_ | refine r3 ?_); intro K hK; simp only [go_sem, hP, hn]; (repeat (refine ⟨by first | trivial | omega | (simp <;> omega) | (simp +contextual; done) | (clear hK; grind), ?_⟩)); refine hK _ ?_; clear K hK) | refine Tr.seq ?_ | refine Tr.skip ?_ | refine Tr.label ?_ | refine Tr.block ?_ | refine Tr.scope ?_ | refine gs1 ?_ | refine gs2 ?_ | refine gs3 ?_ | refine Tr.exit ?_ | refine Tr.goto ?_ | refine Tr.ret ?_ | refine n1 ?_ | refine n2 ?_ | refine n3 ?_ | refine n4 ?_ | refine n5 ?_ | refine n6 ?_ | refine n7 ?_ | refine n8 ?_ | refine n9 (by decide) ?_))
    simp only [RetG, go_sem]; (repeat (with_reducible refine And.intro ?_ ?_; (· first | trivial | omega | (simp <;> omega) | (simp +contextual; done) | (clear hK; grind))))
  have hc1 : 1 ≤ c := by
    have : ¬ (c : Int) = 0 := by simpa using hc
    omega
  clear hc
  refine Tr.le (Le.keep [0, 5, 6, 7, 8, 9]) ?_; simp only [List.map_cons, List.map_nil, lk, Nat.reduceEqDiff, reduceIte]
  (repeat (first | refine Tr.seq ?_ | refine Tr.skip ?_ | refine Tr.label ?_ | refine Tr.block ?_ | refine Tr.scope ?_ | refine gs1 ?_ | refine gs2 ?_ | refine gs3 ?_ | refine Tr.exit ?_ | refine Tr.goto ?_ | refine Tr.ret ?_ | refine n1 ?_ | refine n2 ?_ | refine n3 ?_ | refine n4 ?_ | refine n5 ?_ | refine n6 ?_ | refine n7 ?_ | refine n8 ?_ | refine n9 (by decide) ?_))
  (first | refine r1 ?_ | refine r2 ?_ | refine r3 ?_); intro K hK; simp only [go_sem, hP, hn]; (repeat (refine ⟨by first | trivial | omega | (simp <;> omega) | (simp +contextual; done) | (clear hK; grind), ?_⟩)); refine hK _ ?_; clear K hK
  refine Tr.le (Le.freeze 37) ?_
  simp only [go_sem, hP, hn]
  refine Tr.le (Le.nilown 3001 10 3 [.i .i64 0] (mC c (.own 3001) (.own 40)) rfl (by simp [wo, mC]) (by rw [hpn] <;> rfl) rfl rfl) ?_
  (repeat (first | refine Tr.seq ?_ | refine Tr.skip ?_ | refine Tr.label ?_ | refine Tr.block ?_ | refine Tr.scope ?_ | refine gs1 ?_ | refine gs2 ?_ | refine gs3 ?_ | refine Tr.exit ?_ | refine Tr.goto ?_ | refine Tr.ret ?_ | refine n1 ?_ | refine n2 ?_ | refine n3 ?_ | refine n4 ?_ | refine n5 ?_ | refine n6 ?_ | refine n7 ?_ | refine n8 ?_ | refine n9 (by decide) ?_))
  (first | refine r1 ?_ | refine r2 ?_ | refine r3 ?_); intro K hK; simp only [go_sem, hP, hn]; (repeat (refine ⟨by first | trivial | omega | (simp <;> omega) | (simp +contextual; done) | (clear hK; grind), ?_⟩)); refine hK _ ?_; clear K hK
  (repeat (first | refine Tr.seq ?_ | refine Tr.skip ?_ | refine Tr.label ?_ | refine Tr.block ?_ | refine Tr.scope ?_ | refine gs1 ?_ | refine gs2 ?_ | refine gs3 ?_ | refine Tr.exit ?_ | refine Tr.goto ?_ | refine Tr.ret ?_ | refine n1 ?_ | refine n2 ?_ | refine n3 ?_ | refine n4 ?_ | refine n5 ?_ | refine n6 ?_ | refine n7 ?_ | refine n8 ?_ | refine n9 (by decide) ?_))
  refine Tr.le (Le.keep [0, 5, 6, 7, 8, 9, 10, 11]) ?_; simp only [List.map_cons, List.map_nil, lk, Nat.reduceEqDiff, reduceIte]
  obtain ⟨m, hm⟩ : ∃ m : Nat, m = c * w := ⟨_, rfl⟩
  have hm40 : m ≤ 40 := by rw [hm]; exact Nat.le_trans (Nat.mul_le_mul hc10 hw1.2) (by decide)
  have gm : wrap64 ((c : Int) * (w : Int)) = m := by
    rw [show (c : Int) * (w : Int) = ((c * w : Nat) : Int) by simp, ← hm]
    exact w64 (by omega) (by omega)
  rw [← hm] at hcw
  refine Tr.loop (fun q s => ∃ (i : Int) (ws : List Int), s = ⟨[(0, .d (.row [.i .i64 0] (l.map intC))), (5, .ptr 5 0), (6, .d (.b false)), (7, .d (.b true)), (8, .d (.i .i64 w)), (9, .d (.i .i64 c)), (10, .ptr 10 0), (11, .d (.i .i64 i))], [(10, .box 27 (mC c (.own 3001) (.own 40))), (3001, .row 3 [.i .i64 0] (ws.map intC)), (40, .row 3 [.i .i64 0] ((List.replicate c (0 : Int)).map intC)), (5, .box 53 [.d (.i .i64 q0), .d (.i .i64 q1), .d (.i .i64 q2)])]⟩ ∧ 0 ≤ i ∧ i + q = m ∧ i = ws.length ∧ ∀ x ∈ ws, -128 ≤ x ∧ x ≤ 127) m ⟨_, (Le.mv (by simp only [go_sem, hP, hn]; first | done | (simp; done) | (simp [intC]; done) | (repeat (first | rfl | constructor))) (by simp only [go_sem, hP, hn]; first | done | (simp; done) | (simp [intC]; done) | (repeat (first | rfl | constructor)))), 0, [], rfl, by omega, by omega, rfl, by simp⟩ ?_
  rintro q s ⟨i, ws, rfl, i0, iq, hi, hx⟩
  (repeat (first | refine Tr.seq ?_ | refine Tr.skip ?_ | refine Tr.label ?_ | refine Tr.block ?_ | refine Tr.scope ?_ | refine gs1 ?_ | refine gs2 ?_ | refine gs3 ?_ | refine Tr.exit ?_ | refine Tr.goto ?_ | refine Tr.ret ?_ | refine n1 ?_ | refine n2 ?_ | refine n3 ?_ | refine n4 ?_ | refine n5 ?_ | refine n6 ?_ | refine n7 ?_ | refine n8 ?_ | refine n9 (by decide) ?_))
  (first | refine r1 ?_ | refine r2 ?_ | refine r3 ?_); intro K hK; simp only [gm, go_sem, hP, hn]
  (repeat (refine ⟨by first | trivial | omega | (simp <;> omega) | (simp +contextual; done) | (clear hK; grind), ?_⟩))
  refine hK _ ?_; clear K hK
  (repeat (first | refine Tr.seq ?_ | refine Tr.skip ?_ | refine Tr.label ?_ | refine Tr.block ?_ | refine Tr.scope ?_ | refine gs1 ?_ | refine gs2 ?_ | refine gs3 ?_ | refine Tr.exit ?_ | refine Tr.goto ?_ | refine Tr.ret ?_ | refine n1 ?_ | refine n2 ?_ | refine n3 ?_ | refine n4 ?_ | refine n5 ?_ | refine n6 ?_ | refine n7 ?_ | refine n8 ?_ | refine n9 (by decide) ?_))
  refine Tr.cond rfl (fun hb => ?_) (fun hb => ?_)
  · have hb : i < m := by simpa using hb
    refine Tr.skip ?_
    refine n1 ?_
    refine Tr.seq ?_
    refine Tr.meet (fun s' => ∃ v : Int, s' = ⟨[(0, .d (.row [.i .i64 0] (l.map intC))), (5, .ptr 5 0), (6, .d (.b false)), (7, .d (.b true)), (8, .d (.i .i64 w)), (9, .d (.i .i64 c)), (10, .ptr 10 0), (11, .d (.i .i64 i))], [(10, .box 27 (mC c (.own 58) (.own 40))), (58, .row 3 [.i .i64 0] ((ws ++ [v]).map intC)), (40, .row 3 [.i .i64 0] ((List.replicate c (0 : Int)).map intC)), (5, .box 53 [.d (.i .i64 q0), .d (.i .i64 q1), .d (.i .i64 q2)])]⟩ ∧ -128 ≤ v ∧ v ≤ 127) ?_ ?_
    rotate_left
    · have h8 := i8w (rd l i)
      have g8 : wrap64 (IntKind.i8.wrap (rd l i)) = IntKind.i8.wrap (rd l i) := w64 (by omega) (by omega)
      (repeat (first | refine Tr.seq ?_ | refine Tr.skip ?_ | refine Tr.label ?_ | refine Tr.block ?_ | refine Tr.scope ?_ | refine gs1 ?_ | refine gs2 ?_ | refine gs3 ?_ | refine Tr.exit ?_ | refine Tr.goto ?_ | refine Tr.ret ?_ | refine n1 ?_ | refine n2 ?_ | refine n3 ?_ | refine n4 ?_ | refine n5 ?_ | refine n6 ?_ | refine n7 ?_ | refine n8 ?_ | refine n9 (by decide) ?_))
      (first | refine d1 (.p true 0 (.p true 2 (.p true 3 (.p true 4 (.p true 5 (.p true 6 (.p true 7 (.alt 1 (.alt 8 (.alt 9 (.p true 10 (.alt 11 .nil .nil)) .nil) .nil) (.alt 8 (.alt 1 (.alt 9 (.p true 10 (.alt 11 .nil .nil)) .nil) .nil) .nil))))))))) [3001, 10] (by rw [hP]; kernel_rfl) (by kernel_rfl) (by simp only [go_sem, hP, hn]; try simp) (fun _ _ h => h) fun K hK => ?_ | refine d2 (.p true 0 (.p true 2 (.p true 3 (.p true 4 (.p true 5 (.p true 6 (.p true 7 (.alt 1 (.alt 8 (.alt 9 (.p true 10 (.alt 11 .nil .nil)) .nil) .nil) (.alt 8 (.alt 1 (.alt 9 (.p true 10 (.alt 11 .nil .nil)) .nil) .nil) .nil))))))))) [3001, 10] (by rw [hP]; kernel_rfl) (by kernel_rfl) (by simp only [go_sem, hP, hn]; try simp) (fun _ _ h => h) fun K hK => ?_ | refine d4 (.p true 0 (.p true 2 (.p true 3 (.p true 4 (.p true 5 (.p true 6 (.p true 7 (.alt 1 (.alt 8 (.alt 9 (.p true 10 (.alt 11 .nil .nil)) .nil) .nil) (.alt 8 (.alt 1 (.alt 9 (.p true 10 (.alt 11 .nil .nil)) .nil) .nil) .nil))))))))) [3001, 10] (by rw [hP]; kernel_rfl) (by kernel_rfl) (by simp only [go_sem, hP, hn]; try simp) (fun _ _ h => h) fun K hK => ?_); simp only [go_sem, hP, hn]
      simp only [g8]
      generalize IntKind.i8.wrap (rd l i) = v at *
      (repeat (refine ⟨by first | trivial | omega | (simp <;> omega) | (simp +contextual; done) | (clear hK; grind), ?_⟩))
      refine ⟨?_, ?_⟩
      all_goals (repeat (refine ⟨by first | trivial | omega | (simp <;> omega) | (simp +contextual; done) | (clear hK; grind), ?_⟩))
      all_goals (repeat' (refine And.intro ?_ ?_)); all_goals (first | (refine hK _ ?_; ((repeat (first | refine Tr.seq ?_ | refine Tr.skip ?_ | refine Tr.label ?_ | refine Tr.block ?_ | refine Tr.scope ?_ | refine gs1 ?_ | refine gs2 ?_ | refine gs3 ?_ | refine Tr.exit ?_ | refine Tr.goto ?_ | refine Tr.ret ?_ | refine n1 ?_ | refine n2 ?_ | refine n3 ?_ | refine n4 ?_ | refine n5 ?_ | refine n6 ?_ | refine n7 ?_ | refine n8 ?_ | refine n9 (by decide) ?_)); refine ⟨_, ?_, v, rfl, h8⟩; exact (Le.mv (by simp only [go_sem, hP, hn]; first | done | (simp; done) | (simp [intC]; done) | (repeat (first | rfl | constructor))) (by simp only [go_sem, hP, hn]; first | done | (simp; done) | (simp [intC]; done) | (repeat (first | rfl | constructor)))))) | (first | trivial | omega | (simp <;> omega) | (simp +contextual; done) | (clear hK; grind)))
    rintro s ⟨v, rfl, hv⟩
    (repeat (first | refine Tr.seq ?_ | refine Tr.skip ?_ | refine Tr.label ?_ | refine Tr.block ?_ | refine Tr.scope ?_ | refine gs1 ?_ | refine gs2 ?_ | refine gs3 ?_ | refine Tr.exit ?_ | refine Tr.goto ?_ | refine Tr.ret ?_ | refine n1 ?_ | refine n2 ?_ | refine n3 ?_ | refine n4 ?_ | refine n5 ?_ | refine n6 ?_ | refine n7 ?_ | refine n8 ?_ | refine n9 (by decide) ?_))
    (first | refine r1 ?_ | refine r2 ?_ | refine r3 ?_); intro K hK; simp only [go_sem, hP, hn]; (repeat (refine ⟨by first | trivial | omega | (simp <;> omega) | (simp +contextual; done) | (clear hK; grind), ?_⟩)); refine hK _ ?_; clear K hK
    (repeat (first | refine Tr.seq ?_ | refine Tr.skip ?_ | refine Tr.label ?_ | refine Tr.block ?_ | refine Tr.scope ?_ | refine gs1 ?_ | refine gs2 ?_ | refine gs3 ?_ | refine Tr.exit ?_ | refine Tr.goto ?_ | refine Tr.ret ?_ | refine n1 ?_ | refine n2 ?_ | refine n3 ?_ | refine n4 ?_ | refine n5 ?_ | refine n6 ?_ | refine n7 ?_ | refine n8 ?_ | refine n9 (by decide) ?_))
    rw [w64 (x := i + 1) (by omega) (by omega)]
    refine ⟨q - 1, _, by omega, ?_, i + 1, ws ++ [v], rfl, by omega, by omega, by simp; omega, fun x hn => by
      rcases List.mem_append.1 hn with h | h
      · exact hx x h
      · obtain rfl := List.mem_singleton.1 h
        exact hv⟩
    refine Le.trans (b := ⟨[(0, .d (.row [.i .i64 0] (l.map intC))), (5, .ptr 5 0), (6, .d (.b false)), (7, .d (.b true)), (8, .d (.i .i64 w)), (9, .d (.i .i64 c)), (10, .ptr 10 0), (11, .d (.i .i64 (i + 1)))], [(10, .box 27 (mC c (.own 58) (.own 40))), (58, .row 3 [.i .i64 0] ((ws ++ [v]).map intC)), (40, .row 3 [.i .i64 0] ((List.replicate c (0 : Int)).map intC)), (5, .box 53 [.d (.i .i64 q0), .d (.i .i64 q1), .d (.i .i64 q2)])]⟩) (Le.mv (by simp only [go_sem, hP, hn]; first | done | (simp; done) | (simp [intC]; done) | (repeat (first | rfl | constructor))) (by simp only [go_sem, hP, hn]; first | done | (simp; done) | (simp [intC]; done) | (repeat (first | rfl | constructor)))) ?_
    refine Le.trans (Le.ren 58 3001 (by rw [hpn] <;> rfl) rfl rfl) ?_; simp only [renT, renH, renO, renS, renL, rn, go_sem, hP, hn]
    exact (Le.mv (by simp only [go_sem, hP, hn]; first | done | (simp; done) | (simp [intC]; done) | (repeat (first | rfl | constructor))) (by simp only [go_sem, hP, hn]; first | done | (simp; done) | (simp [intC]; done) | (repeat (first | rfl | constructor))))
  have hwl : ws.length = c * w := by
    have : ¬ i < m := by simpa using hb
    omega
  clear hb hi i0 iq gm hm40 hcw hm
  (repeat (first | refine Tr.seq ?_ | refine Tr.skip ?_ | refine Tr.label ?_ | refine Tr.block ?_ | refine Tr.scope ?_ | refine gs1 ?_ | refine gs2 ?_ | refine gs3 ?_ | refine Tr.exit ?_ | refine Tr.goto ?_ | refine Tr.ret ?_ | refine n1 ?_ | refine n2 ?_ | refine n3 ?_ | refine n4 ?_ | refine n5 ?_ | refine n6 ?_ | refine n7 ?_ | refine n8 ?_ | refine n9 (by decide) ?_))
  refine Tr.le (Le.keep [5, 6, 7, 8, 9, 10]) ?_; simp only [List.map_cons, List.map_nil, lk, Nat.reduceEqDiff, reduceIte]
  have h16 := i16w q2
  have g16 : wrap64 (IntKind.i16.wrap q2) = IntKind.i16.wrap q2 := w64 (by omega) (by omega)
  (repeat (first | refine Tr.seq ?_ | refine Tr.skip ?_ | refine Tr.label ?_ | refine Tr.block ?_ | refine Tr.scope ?_ | refine gs1 ?_ | refine gs2 ?_ | refine gs3 ?_ | refine Tr.exit ?_ | refine Tr.goto ?_ | refine Tr.ret ?_ | refine n1 ?_ | refine n2 ?_ | refine n3 ?_ | refine n4 ?_ | refine n5 ?_ | refine n6 ?_ | refine n7 ?_ | refine n8 ?_ | refine n9 (by decide) ?_))
  (first | refine r1 ?_ | refine r2 ?_ | refine r3 ?_); intro K hK; simp only [g16, go_sem, hP, hn]; (repeat (refine ⟨by first | trivial | omega | (simp <;> omega) | (simp +contextual; done) | (clear hK; grind), ?_⟩)); refine hK _ ?_; clear K hK
  generalize IntKind.i16.wrap q2 = b0 at *
  obtain ⟨bs, hbs, hbl, hbx⟩ : ∃ bs : List Int, bs = (List.replicate c (0 : Int)).set 0 b0 ∧ bs.length = c ∧ ∀ x ∈ bs, -32768 ≤ x ∧ x ≤ 32767 := by
    refine ⟨_, rfl, by simp, fun x hn => ?_⟩
    rcases List.mem_or_eq_of_mem_set hn with h | h
    · have := List.eq_of_mem_replicate h; omega
    · omega
  rw [← hbs]
  clear hbs h16 g16
  refine Tr.le (Le.freeze 40) ?_
  simp only [go_sem, hP, hn]
  refine Tr.le (Le.freeze 3001) ?_
  simp only [go_sem, hP, hn]
  refine Tr.le (Le.keep [5, 6, 7, 8, 9, 10]) ?_; simp only [List.map_cons, List.map_nil, lk, Nat.reduceEqDiff, reduceIte]
  have hmo : ∃ lo hi : Int, wrap64 (0 - q0 % 16384) = lo ∧ q1 % 16384 = hi ∧ MO c w lo hi ws bs := ⟨_, _, rfl, rfl, ⟨by omega, hw1, by rw [w64 (x := 0 - q0 % 16384) (by omega) (by omega)]; omega, by omega, hwl, hbl, hx, hbx⟩⟩
  obtain ⟨lo, hi, e1, e2, hM⟩ := hmo
  (repeat (first | refine Tr.seq ?_ | refine Tr.skip ?_ | refine Tr.label ?_ | refine Tr.block ?_ | refine Tr.scope ?_ | refine gs1 ?_ | refine gs2 ?_ | refine gs3 ?_ | refine Tr.exit ?_ | refine Tr.goto ?_ | refine Tr.ret ?_ | refine n1 ?_ | refine n2 ?_ | refine n3 ?_ | refine n4 ?_ | refine n5 ?_ | refine n6 ?_ | refine n7 ?_ | refine n8 ?_ | refine n9 (by decide) ?_))
  (first | refine r1 ?_ | refine r2 ?_ | refine r3 ?_); intro K hK; simp only [go_sem, hP, hn]
  rw [and14, and14, e1, e2]
  (repeat (refine ⟨by first | trivial | omega | (simp <;> omega) | (simp +contextual; done) | (clear hK; grind), ?_⟩))
  refine hK _ ?_; clear K hK
  refine Tr.le (Le.freeze 76) ?_
  simp only [go_sem, hP, hn]
  refine Tr.le (Le.keep [5, 6, 7, 8, 9, 10, 12]) ?_; simp only [List.map_cons, List.map_nil, lk, Nat.reduceEqDiff, reduceIte]
  clear e1 e2
  have cR := Ranges_c Tk w lo hi 1 [nM c ws bs] (by simp) (fun n hn => by
    obtain rfl := List.mem_singleton.1 hn
    have a1 : (nM c ws bs).ws.length = c * w := hM.wl
    have a2 : (nM c ws bs).bs.length = c := hM.bl
    have a3 := Nat.mul_le_mul hc10 hw1.2
    exact ⟨by simp [nM], by omega, by omega⟩) hM.ranges.2
  rw [hM.ranges.1] at cR
  obtain ⟨R1, hR1⟩ : ∃ R1, R1 = weighedR (nM c ws bs) lo hi w := ⟨_, rfl⟩
  rw [← hR1] at cR
  (repeat (first | refine Tr.seq ?_ | refine Tr.skip ?_ | refine Tr.label ?_ | refine Tr.block ?_ | refine Tr.scope ?_ | refine gs1 ?_ | refine gs2 ?_ | refine gs3 ?_ | refine Tr.exit ?_ | refine Tr.goto ?_ | refine Tr.ret ?_ | refine n1 ?_ | refine n2 ?_ | refine n3 ?_ | refine n4 ?_ | refine n5 ?_ | refine n6 ?_ | refine n7 ?_ | refine n8 ?_ | refine n9 (by decide) ?_))
  (first | refine r1 ?_ | refine r2 ?_ | refine r3 ?_); intro K hK; simp only [go_sem, hP, hn]
  (repeat (refine ⟨by first | trivial | omega | (simp <;> omega) | (simp +contextual; done) | (clear hK; grind), ?_⟩))
  refine CallN_cs (Hi := [] ) (by rw [hP, hT]; exact  cR) rfl rfl rfl trivial (by simp only [go_sem, hP, hn]; try trivial) (by simp only [go_sem, hP, hn]; try rfl) (by simp only [inH, go_sem, hP, hn]; try simp) (by rw [hn]; decide) ?_; simp only [go_sem, hP, hn]; (repeat (refine ⟨by first | trivial | omega | (simp <;> omega) | (simp +contextual; done) | (clear hK; grind), ?_⟩))
  refine hK _ ?_; clear K hK
  refine Tr.le (Le.keep [5, 6, 7, 8, 9, 10, 12, 13, 14]) ?_; simp only [List.map_cons, List.map_nil, lk, Nat.reduceEqDiff, reduceIte]
  (repeat (first | refine Tr.seq ?_ | refine Tr.skip ?_ | refine Tr.label ?_ | refine Tr.block ?_ | refine Tr.scope ?_ | refine gs1 ?_ | refine gs2 ?_ | refine gs3 ?_ | refine Tr.exit ?_ | refine Tr.goto ?_ | refine Tr.ret ?_ | refine n1 ?_ | refine n2 ?_ | refine n3 ?_ | refine n4 ?_ | refine n5 ?_ | refine n6 ?_ | refine n7 ?_ | refine n8 ?_ | refine n9 (by decide) ?_))
  (first | refine r1 ?_ | refine r2 ?_ | refine r3 ?_); intro K hK; simp only [go_sem, hP, hn]; (repeat (refine ⟨by first | trivial | omega | (simp <;> omega) | (simp +contextual; done) | (clear hK; grind), ?_⟩)); refine hK _ ?_; clear K hK
  (repeat (first | refine Tr.seq ?_ | refine Tr.skip ?_ | refine Tr.label ?_ | refine Tr.block ?_ | refine Tr.scope ?_ | refine gs1 ?_ | refine gs2 ?_ | refine gs3 ?_ | refine Tr.exit ?_ | refine Tr.goto ?_ | refine Tr.ret ?_ | refine n1 ?_ | refine n2 ?_ | refine n3 ?_ | refine n4 ?_ | refine n5 ?_ | refine n6 ?_ | refine n7 ?_ | refine n8 ?_ | refine n9 (by decide) ?_))
  refine Tr.cond rfl (fun hb => ?_) (fun hb => ?_)
  · simp at hb
  clear hb cR
  (repeat (first | refine Tr.seq ?_ | refine Tr.skip ?_ | refine Tr.label ?_ | refine Tr.block ?_ | refine Tr.scope ?_ | refine gs1 ?_ | refine gs2 ?_ | refine gs3 ?_ | refine Tr.exit ?_ | refine Tr.goto ?_ | refine Tr.ret ?_ | refine n1 ?_ | refine n2 ?_ | refine n3 ?_ | refine n4 ?_ | refine n5 ?_ | refine n6 ?_ | refine n7 ?_ | refine n8 ?_ | refine n9 (by decide) ?_))
  (first | refine r1 ?_ | refine r2 ?_ | refine r3 ?_); intro K hK; simp only [go_sem, hP, hn]; (repeat (refine ⟨by first | trivial | omega | (simp <;> omega) | (simp +contextual; done) | (clear hK; grind), ?_⟩)); refine hK _ ?_; clear K hK
  (repeat (first | refine Tr.seq ?_ | refine Tr.skip ?_ | refine Tr.label ?_ | refine Tr.block ?_ | refine Tr.scope ?_ | refine gs1 ?_ | refine gs2 ?_ | refine gs3 ?_ | refine Tr.exit ?_ | refine Tr.goto ?_ | refine Tr.ret ?_ | refine n1 ?_ | refine n2 ?_ | refine n3 ?_ | refine n4 ?_ | refine n5 ?_ | refine n6 ?_ | refine n7 ?_ | refine n8 ?_ | refine n9 (by decide) ?_))
  (first | refine r1 ?_ | refine r2 ?_ | refine r3 ?_); intro K hK; simp only [go_sem, hP, hn]; (repeat (refine ⟨by first | trivial | omega | (simp <;> omega) | (simp +contextual; done) | (clear hK; grind), ?_⟩)); refine hK _ ?_; clear K hK
  (repeat (first | refine Tr.seq ?_ | refine Tr.skip ?_ | refine Tr.label ?_ | refine Tr.block ?_ | refine Tr.scope ?_ | refine gs1 ?_ | refine gs2 ?_ | refine gs3 ?_ | refine Tr.exit ?_ | refine Tr.goto ?_ | refine Tr.ret ?_ | refine n1 ?_ | refine n2 ?_ | refine n3 ?_ | refine n4 ?_ | refine n5 ?_ | refine n6 ?_ | refine n7 ?_ | refine n8 ?_ | refine n9 (by decide) ?_))
  (first | refine r1 ?_ | refine r2 ?_ | refine r3 ?_); intro K hK; simp only [go_sem, hP, hn]; (repeat (refine ⟨by first | trivial | omega | (simp <;> omega) | (simp +contextual; done) | (clear hK; grind), ?_⟩)); refine hK _ ?_; clear K hK
  (repeat (first | refine Tr.seq ?_ | refine Tr.skip ?_ | refine Tr.label ?_ | refine Tr.block ?_ | refine Tr.scope ?_ | refine gs1 ?_ | refine gs2 ?_ | refine gs3 ?_ | refine Tr.exit ?_ | refine Tr.goto ?_ | refine Tr.ret ?_ | refine n1 ?_ | refine n2 ?_ | refine n3 ?_ | refine n4 ?_ | refine n5 ?_ | refine n6 ?_ | refine n7 ?_ | refine n8 ?_ | refine n9 (by decide) ?_))
  refine Tr.le (Le.keep [6, 7, 8, 9, 10, 12, 13, 15, 16, 17]) ?_; simp only [List.map_cons, List.map_nil, lk, Nat.reduceEqDiff, reduceIte]
  have hmet := hM.met
  rw [← hR1] at hmet
  obtain ⟨hle, hlat, hhat⟩ := hmet
  have hfr := fun (f g : List Int) (i : Int) => hM.fr (f := f) (g := g) (i := i)
  obtain ⟨eh, hehd⟩ : ∃ eh : Int → Int, eh = fun j => (nM c ws bs).pst (endV (nM c ws bs) lo hi w j).2 := ⟨_, rfl⟩
  obtain ⟨el, held⟩ : ∃ el : Int → Int, el = fun j => (nM c ws bs).pst (endV (nM c ws bs) lo hi w j).1 := ⟨_, rfl⟩
  have heh : ∀ j : Int, (nM c ws bs).pst (endV (nM c ws bs) lo hi w j).2 = eh j := fun j => by rw [hehd]
  have hel : ∀ j : Int, (nM c ws bs).pst (endV (nM c ws bs) lo hi w j).1 = el j := fun j => by rw [held]
  simp only [heh, hel] at hle hlat hhat hfr
  clear heh hel hehd held
  have hlw := hM.lo0
  have hhw := hM.hi0
  refine Tr.loop (fun q s => ∃ (i : Int) (lw hg : Bool), s = ⟨[(6, .d (.b false)), (7, .d (.b true)), (8, .d (.i .i64 w)), (9, .d (.i .i64 c)), (10, .ptr 10 0), (12, .ptr 12 0), (13, .d (.row e0R ([rgS lo hi, R1].map Rg.ds))), (15, .d (.b lw)), (16, .d (.b hg)), (17, .d (.i .i64 i))], [(10, .box 27 (nM c ws bs).cs), (12, .box 47 (gcs w lo hi 1 (.d (rowN [nM c ws bs]))))]⟩ ∧ 0 ≤ i ∧ i + q = c ∧ (hg = true ∨ ∀ j : Nat, (j : Int) < i → eh j ≠ R1.hi) ∧ (lw = true ∨ ∀ j : Nat, (j : Int) < i → el j ≠ R1.lo)) c ⟨_, (Le.mv (by simp only [go_sem, hP, hn]; first | done | (simp; done) | (simp [intC]; done) | (repeat (first | rfl | constructor))) (by simp only [go_sem, hP, hn]; first | done | (simp; done) | (simp [intC]; done) | (repeat (first | rfl | constructor)))), 0, false, false, rfl, by omega, by omega, .inr fun j hj => by omega, .inr fun j hj => by omega⟩ ?_
  rintro q s ⟨i, lw, hg, rfl, i0, iq, hgh, hgl⟩
  (repeat (first | refine Tr.seq ?_ | refine Tr.skip ?_ | refine Tr.label ?_ | refine Tr.block ?_ | refine Tr.scope ?_ | refine gs1 ?_ | refine gs2 ?_ | refine gs3 ?_ | refine Tr.exit ?_ | refine Tr.goto ?_ | refine Tr.ret ?_ | refine n1 ?_ | refine n2 ?_ | refine n3 ?_ | refine n4 ?_ | refine n5 ?_ | refine n6 ?_ | refine n7 ?_ | refine n8 ?_ | refine n9 (by decide) ?_))
  (first | refine r1 ?_ | refine r2 ?_ | refine r3 ?_); intro K hK; simp only [go_sem, hP, hn]; (repeat (refine ⟨by first | trivial | omega | (simp <;> omega) | (simp +contextual; done) | (clear hK; grind), ?_⟩)); refine hK _ ?_; clear K hK
  (repeat (first | refine Tr.seq ?_ | refine Tr.skip ?_ | refine Tr.label ?_ | refine Tr.block ?_ | refine Tr.scope ?_ | refine gs1 ?_ | refine gs2 ?_ | refine gs3 ?_ | refine Tr.exit ?_ | refine Tr.goto ?_ | refine Tr.ret ?_ | refine n1 ?_ | refine n2 ?_ | refine n3 ?_ | refine n4 ?_ | refine n5 ?_ | refine n6 ?_ | refine n7 ?_ | refine n8 ?_ | refine n9 (by decide) ?_))
  refine Tr.cond rfl (fun hb => ?_) (fun hb => ?_)
  · have hi1 : i < c := by simpa using hb
    clear hb
    (repeat (first | refine Tr.seq ?_ | refine Tr.skip ?_ | refine Tr.label ?_ | refine Tr.block ?_ | refine Tr.scope ?_ | refine gs1 ?_ | refine gs2 ?_ | refine gs3 ?_ | refine Tr.exit ?_ | refine Tr.goto ?_ | refine Tr.ret ?_ | refine n1 ?_ | refine n2 ?_ | refine n3 ?_ | refine n4 ?_ | refine n5 ?_ | refine n6 ?_ | refine n7 ?_ | refine n8 ?_ | refine n9 (by decide) ?_))
    (first | refine r1 ?_ | refine r2 ?_ | refine r3 ?_); intro K hK; simp only [go_sem, hP, hn]; (repeat (refine ⟨by first | trivial | omega | (simp <;> omega) | (simp +contextual; done) | (clear hK; grind), ?_⟩)); refine hK _ ?_; clear K hK
    (repeat (first | refine Tr.seq ?_ | refine Tr.skip ?_ | refine Tr.label ?_ | refine Tr.block ?_ | refine Tr.scope ?_ | refine gs1 ?_ | refine gs2 ?_ | refine gs3 ?_ | refine Tr.exit ?_ | refine Tr.goto ?_ | refine Tr.ret ?_ | refine n1 ?_ | refine n2 ?_ | refine n3 ?_ | refine n4 ?_ | refine n5 ?_ | refine n6 ?_ | refine n7 ?_ | refine n8 ?_ | refine n9 (by decide) ?_))
    (first | refine r1 ?_ | refine r2 ?_ | refine r3 ?_); intro K hK; simp only [go_sem, hP, hn]; (repeat (refine ⟨by first | trivial | omega | (simp <;> omega) | (simp +contextual; done) | (clear hK; grind), ?_⟩)); refine hK _ ?_; clear K hK
    (repeat (first | refine Tr.seq ?_ | refine Tr.skip ?_ | refine Tr.label ?_ | refine Tr.block ?_ | refine Tr.scope ?_ | refine gs1 ?_ | refine gs2 ?_ | refine gs3 ?_ | refine Tr.exit ?_ | refine Tr.goto ?_ | refine Tr.ret ?_ | refine n1 ?_ | refine n2 ?_ | refine n3 ?_ | refine n4 ?_ | refine n5 ?_ | refine n6 ?_ | refine n7 ?_ | refine n8 ?_ | refine n9 (by decide) ?_))
    (first | refine r1 ?_ | refine r2 ?_ | refine r3 ?_); intro K hK; simp only [go_sem, hP, hn]; (repeat (refine ⟨by first | trivial | omega | (simp <;> omega) | (simp +contextual; done) | (clear hK; grind), ?_⟩)); refine hK _ ?_; clear K hK
    (repeat (first | refine Tr.seq ?_ | refine Tr.skip ?_ | refine Tr.label ?_ | refine Tr.block ?_ | refine Tr.scope ?_ | refine gs1 ?_ | refine gs2 ?_ | refine gs3 ?_ | refine Tr.exit ?_ | refine Tr.goto ?_ | refine Tr.ret ?_ | refine n1 ?_ | refine n2 ?_ | refine n3 ?_ | refine n4 ?_ | refine n5 ?_ | refine n6 ?_ | refine n7 ?_ | refine n8 ?_ | refine n9 (by decide) ?_))
    refine Tr.le (Le.keep [6, 7, 8, 9, 10, 12, 13, 15, 16, 17, 18, 19, 20]) ?_; simp only [List.map_cons, List.map_nil, lk, Nat.reduceEqDiff, reduceIte]
    obtain ⟨o, ho⟩ : ∃ o : Int, i * (w : Int) = o := ⟨_, rfl⟩
    have ho0 : 0 ≤ o ∧ o + w ≤ ws.length ∧ o ≤ 40 := by
      have e : (ws.length : Int) = c * w := by rw [hwl]; simp
      have a : (i + 1) * (w : Int) ≤ c * w := Int.mul_le_mul_of_nonneg_right (by omega) (by omega)
      have b : 0 ≤ i * (w : Int) := Int.mul_nonneg i0 (by omega)
      have d := Nat.mul_le_mul hc10 hw1.2
      rw [Int.add_mul] at a
      omega
    have go : wrap64 (i * (w : Int)) = o := by rw [ho]; exact w64 (by omega) (by omega)
    refine Tr.loop (fun q s => ∃ (k : Int) (m1 m2 : List Int), s = ⟨[(6, .d (.b false)), (7, .d (.b true)), (8, .d (.i .i64 w)), (9, .d (.i .i64 c)), (10, .ptr 10 0), (12, .ptr 12 0), (13, .d (.row e0R ([rgS lo hi, R1].map Rg.ds))), (15, .d (.b lw)), (16, .d (.b hg)), (17, .d (.i .i64 i)), (18, .own 96), (19, .own 98), (20, .d (.i .i64 k))], [(96, .row 3 [.i .i64 0] (m1.map intC)), (98, .row 3 [.i .i64 0] (m2.map intC)), (10, .box 27 (nM c ws bs).cs), (12, .box 47 (gcs w lo hi 1 (.d (rowN [nM c ws bs]))))]⟩ ∧ 0 ≤ k ∧ k + q = w ∧ (m1.length = w ∧ m2.length = w) ∧ ((∀ x ∈ m1, lo ≤ x ∧ x ≤ hi) ∧ ∀ x ∈ m2, lo ≤ x ∧ x ≤ hi) ∧ ∀ j : Int, 0 ≤ j → j < k → rd m1 j = (if 0 ≤ rd ws (o + j) then hi else lo) ∧ rd m2 j = (if 0 ≤ rd ws (o + j) then lo else hi)) w ⟨_, (Le.mv (by simp only [go_sem, hP, hn]; first | done | (simp; done) | (simp [intC]; done) | (repeat (first | rfl | constructor))) (by simp only [go_sem, hP, hn]; first | done | (simp; done) | (simp [intC]; done) | (repeat (first | rfl | constructor)))), 0, List.replicate w 0, List.replicate w 0, rfl, by omega, by omega, by simp, ⟨fun x hx => by have := List.eq_of_mem_replicate hx; omega, fun x hx => by have := List.eq_of_mem_replicate hx; omega⟩, fun j h1 h2 => by omega⟩ ?_
    rintro p s ⟨k, m1, m2, rfl, k0, kp, ⟨hl1, hl2⟩, ⟨hx1, hx2⟩, hj⟩
    (repeat (first | refine Tr.seq ?_ | refine Tr.skip ?_ | refine Tr.label ?_ | refine Tr.block ?_ | refine Tr.scope ?_ | refine gs1 ?_ | refine gs2 ?_ | refine gs3 ?_ | refine Tr.exit ?_ | refine Tr.goto ?_ | refine Tr.ret ?_ | refine n1 ?_ | refine n2 ?_ | refine n3 ?_ | refine n4 ?_ | refine n5 ?_ | refine n6 ?_ | refine n7 ?_ | refine n8 ?_ | refine n9 (by decide) ?_))
    (first | refine r1 ?_ | refine r2 ?_ | refine r3 ?_); intro K hK; simp only [go_sem, hP, hn]; (repeat (refine ⟨by first | trivial | omega | (simp <;> omega) | (simp +contextual; done) | (clear hK; grind), ?_⟩)); refine hK _ ?_; clear K hK
    (repeat (first | refine Tr.seq ?_ | refine Tr.skip ?_ | refine Tr.label ?_ | refine Tr.block ?_ | refine Tr.scope ?_ | refine gs1 ?_ | refine gs2 ?_ | refine gs3 ?_ | refine Tr.exit ?_ | refine Tr.goto ?_ | refine Tr.ret ?_ | refine n1 ?_ | refine n2 ?_ | refine n3 ?_ | refine n4 ?_ | refine n5 ?_ | refine n6 ?_ | refine n7 ?_ | refine n8 ?_ | refine n9 (by decide) ?_))
    refine Tr.cond rfl (fun hb => ?_) (fun hb => ?_)
    · have hk : k < w := by simpa using hb
      clear hb
      have gk : wrap64 (o + k) = o + k := w64 (by omega) (by omega)
      (repeat (first | refine Tr.seq ?_ | refine Tr.skip ?_ | refine Tr.label ?_ | refine Tr.block ?_ | refine Tr.scope ?_ | refine gs1 ?_ | refine gs2 ?_ | refine gs3 ?_ | refine Tr.exit ?_ | refine Tr.goto ?_ | refine Tr.ret ?_ | refine n1 ?_ | refine n2 ?_ | refine n3 ?_ | refine n4 ?_ | refine n5 ?_ | refine n6 ?_ | refine n7 ?_ | refine n8 ?_ | refine n9 (by decide) ?_))
      (first | refine r1 ?_ | refine r2 ?_ | refine r3 ?_); intro K hK; simp only [go_sem, hP, hn]; (repeat (refine ⟨by first | trivial | omega | (simp <;> omega) | (simp +contextual; done) | (clear hK; grind), ?_⟩)); refine hK _ ?_; clear K hK
      (repeat (first | refine Tr.seq ?_ | refine Tr.skip ?_ | refine Tr.label ?_ | refine Tr.block ?_ | refine Tr.scope ?_ | refine gs1 ?_ | refine gs2 ?_ | refine gs3 ?_ | refine Tr.exit ?_ | refine Tr.goto ?_ | refine Tr.ret ?_ | refine n1 ?_ | refine n2 ?_ | refine n3 ?_ | refine n4 ?_ | refine n5 ?_ | refine n6 ?_ | refine n7 ?_ | refine n8 ?_ | refine n9 (by decide) ?_))
      (first | refine r1 ?_ | refine r2 ?_ | refine r3 ?_); intro K hK; simp only [go_sem, hP, hn]; (repeat (refine ⟨by first | trivial | omega | (simp <;> omega) | (simp +contextual; done) | (clear hK; grind), ?_⟩)); refine hK _ ?_; clear K hK
      (repeat (first | refine Tr.seq ?_ | refine Tr.skip ?_ | refine Tr.label ?_ | refine Tr.block ?_ | refine Tr.scope ?_ | refine gs1 ?_ | refine gs2 ?_ | refine gs3 ?_ | refine Tr.exit ?_ | refine Tr.goto ?_ | refine Tr.ret ?_ | refine n1 ?_ | refine n2 ?_ | refine n3 ?_ | refine n4 ?_ | refine n5 ?_ | refine n6 ?_ | refine n7 ?_ | refine n8 ?_ | refine n9 (by decide) ?_))
      (first | refine r1 ?_ | refine r2 ?_ | refine r3 ?_); intro K hK; simp only [go, gk, go_sem, hP, hn]; (repeat (refine ⟨by first | trivial | omega | (simp <;> omega) | (simp +contextual; done) | (clear hK; grind), ?_⟩)); refine hK _ ?_; clear K hK
      (repeat (first | refine Tr.seq ?_ | refine Tr.skip ?_ | refine Tr.label ?_ | refine Tr.block ?_ | refine Tr.scope ?_ | refine gs1 ?_ | refine gs2 ?_ | refine gs3 ?_ | refine Tr.exit ?_ | refine Tr.goto ?_ | refine Tr.ret ?_ | refine n1 ?_ | refine n2 ?_ | refine n3 ?_ | refine n4 ?_ | refine n5 ?_ | refine n6 ?_ | refine n7 ?_ | refine n8 ?_ | refine n9 (by decide) ?_))
      refine Tr.cond rfl (fun hb => ?_) (fun hb => ?_)
      · have h0 : 0 ≤ rd ws (o + k) := by simpa using hb
        clear hb
        (repeat (first | refine Tr.seq ?_ | refine Tr.skip ?_ | refine Tr.label ?_ | refine Tr.block ?_ | refine Tr.scope ?_ | refine gs1 ?_ | refine gs2 ?_ | refine gs3 ?_ | refine Tr.exit ?_ | refine Tr.goto ?_ | refine Tr.ret ?_ | refine n1 ?_ | refine n2 ?_ | refine n3 ?_ | refine n4 ?_ | refine n5 ?_ | refine n6 ?_ | refine n7 ?_ | refine n8 ?_ | refine n9 (by decide) ?_))
        (first | refine r1 ?_ | refine r2 ?_ | refine r3 ?_); intro K hK; simp only [go_sem, hP, hn]; (repeat (refine ⟨by first | trivial | omega | (simp <;> omega) | (simp +contextual; done) | (clear hK; grind), ?_⟩)); refine hK _ ?_; clear K hK
        (repeat (first | refine Tr.seq ?_ | refine Tr.skip ?_ | refine Tr.label ?_ | refine Tr.block ?_ | refine Tr.scope ?_ | refine gs1 ?_ | refine gs2 ?_ | refine gs3 ?_ | refine Tr.exit ?_ | refine Tr.goto ?_ | refine Tr.ret ?_ | refine n1 ?_ | refine n2 ?_ | refine n3 ?_ | refine n4 ?_ | refine n5 ?_ | refine n6 ?_ | refine n7 ?_ | refine n8 ?_ | refine n9 (by decide) ?_))
        (first | refine r1 ?_ | refine r2 ?_ | refine r3 ?_); intro K hK; simp only [go_sem, hP, hn]; (repeat (refine ⟨by first | trivial | omega | (simp <;> omega) | (simp +contextual; done) | (clear hK; grind), ?_⟩)); refine hK _ ?_; clear K hK
        (repeat (first | refine Tr.seq ?_ | refine Tr.skip ?_ | refine Tr.label ?_ | refine Tr.block ?_ | refine Tr.scope ?_ | refine gs1 ?_ | refine gs2 ?_ | refine gs3 ?_ | refine Tr.exit ?_ | refine Tr.goto ?_ | refine Tr.ret ?_ | refine n1 ?_ | refine n2 ?_ | refine n3 ?_ | refine n4 ?_ | refine n5 ?_ | refine n6 ?_ | refine n7 ?_ | refine n8 ?_ | refine n9 (by decide) ?_))
        (first | refine r1 ?_ | refine r2 ?_ | refine r3 ?_); intro K hK; simp only [go_sem, hP, hn]; (repeat (refine ⟨by first | trivial | omega | (simp <;> omega) | (simp +contextual; done) | (clear hK; grind), ?_⟩)); refine hK _ ?_; clear K hK
        rw [w64 (x := k + 1) (by omega) (by omega)]
        (repeat (first | refine Tr.seq ?_ | refine Tr.skip ?_ | refine Tr.label ?_ | refine Tr.block ?_ | refine Tr.scope ?_ | refine gs1 ?_ | refine gs2 ?_ | refine gs3 ?_ | refine Tr.exit ?_ | refine Tr.goto ?_ | refine Tr.ret ?_ | refine n1 ?_ | refine n2 ?_ | refine n3 ?_ | refine n4 ?_ | refine n5 ?_ | refine n6 ?_ | refine n7 ?_ | refine n8 ?_ | refine n9 (by decide) ?_))
        have e1 := fun j j0 j1 => (hj j j0 j1).1
        have e2 := fun j j0 j1 => (hj j j0 j1).2
        refine ⟨p - 1, _, by omega, ?_, k + 1, m1.set k.toNat hi, m2.set k.toNat lo, rfl, by omega, by omega, by simp [hl1, hl2], ⟨memM hx1 (by omega), memM hx2 (by omega)⟩, fun j j0 j1 => ⟨setM (lo := 0) (hi := 0) (w := 0) (P := fun j => if 0 ≤ rd ws (o + j) then hi else lo) k0 (by omega) e1 (by rw [if_pos h0]) j j0 j1, setM (lo := 0) (hi := 0) (w := 0) (P := fun j => if 0 ≤ rd ws (o + j) then lo else hi) k0 (by omega) e2 (by rw [if_pos h0]) j j0 j1⟩⟩
        simp only [set_set_]
        exact (Le.mv (by simp only [go_sem, hP, hn]; first | done | (simp; done) | (simp [intC]; done) | (repeat (first | rfl | constructor))) (by simp only [go_sem, hP, hn]; first | done | (simp; done) | (simp [intC]; done) | (repeat (first | rfl | constructor))))
      · have h0 : ¬ 0 ≤ rd ws (o + k) := by simpa using hb
        clear hb
        (repeat (first | refine Tr.seq ?_ | refine Tr.skip ?_ | refine Tr.label ?_ | refine Tr.block ?_ | refine Tr.scope ?_ | refine gs1 ?_ | refine gs2 ?_ | refine gs3 ?_ | refine Tr.exit ?_ | refine Tr.goto ?_ | refine Tr.ret ?_ | refine n1 ?_ | refine n2 ?_ | refine n3 ?_ | refine n4 ?_ | refine n5 ?_ | refine n6 ?_ | refine n7 ?_ | refine n8 ?_ | refine n9 (by decide) ?_))
        (first | refine r1 ?_ | refine r2 ?_ | refine r3 ?_); intro K hK; simp only [go_sem, hP, hn]; (repeat (refine ⟨by first | trivial | omega | (simp <;> omega) | (simp +contextual; done) | (clear hK; grind), ?_⟩)); refine hK _ ?_; clear K hK
        rw [w64 (x := k + 1) (by omega) (by omega)]
        (repeat (first | refine Tr.seq ?_ | refine Tr.skip ?_ | refine Tr.label ?_ | refine Tr.block ?_ | refine Tr.scope ?_ | refine gs1 ?_ | refine gs2 ?_ | refine gs3 ?_ | refine Tr.exit ?_ | refine Tr.goto ?_ | refine Tr.ret ?_ | refine n1 ?_ | refine n2 ?_ | refine n3 ?_ | refine n4 ?_ | refine n5 ?_ | refine n6 ?_ | refine n7 ?_ | refine n8 ?_ | refine n9 (by decide) ?_))
        have e1 := fun j j0 j1 => (hj j j0 j1).1
        have e2 := fun j j0 j1 => (hj j j0 j1).2
        refine ⟨p - 1, _, by omega, ?_, k + 1, m1.set k.toNat lo, m2.set k.toNat hi, rfl, by omega, by omega, by simp [hl1, hl2], ⟨memM hx1 (by omega), memM hx2 (by omega)⟩, fun j j0 j1 => ⟨setM (lo := 0) (hi := 0) (w := 0) (P := fun j => if 0 ≤ rd ws (o + j) then hi else lo) k0 (by omega) e1 (by rw [if_neg h0]) j j0 j1, setM (lo := 0) (hi := 0) (w := 0) (P := fun j => if 0 ≤ rd ws (o + j) then lo else hi) k0 (by omega) e2 (by rw [if_neg h0]) j j0 j1⟩⟩
        exact (Le.mv (by simp only [go_sem, hP, hn]; first | done | (simp; done) | (simp [intC]; done) | (repeat (first | rfl | constructor))) (by simp only [go_sem, hP, hn]; first | done | (simp; done) | (simp [intC]; done) | (repeat (first | rfl | constructor))))
    · obtain rfl : k = w := by
        have : ¬ k < w := by simpa using hb
        omega
      clear hb
      (repeat (first | refine Tr.seq ?_ | refine Tr.skip ?_ | refine Tr.label ?_ | refine Tr.block ?_ | refine Tr.scope ?_ | refine gs1 ?_ | refine gs2 ?_ | refine gs3 ?_ | refine Tr.exit ?_ | refine Tr.goto ?_ | refine Tr.ret ?_ | refine n1 ?_ | refine n2 ?_ | refine n3 ?_ | refine n4 ?_ | refine n5 ?_ | refine n6 ?_ | refine n7 ?_ | refine n8 ?_ | refine n9 (by decide) ?_))
      refine Tr.le (Le.freeze 96) ?_
      simp only [go_sem, hP, hn]
      refine Tr.le (Le.freeze 98) ?_
      simp only [go_sem, hP, hn]
      refine Tr.le (Le.keep [6, 7, 8, 9, 10, 12, 13, 15, 16, 17, 18, 19]) ?_; simp only [List.map_cons, List.map_nil, lk, Nat.reduceEqDiff, reduceIte]
      rw [← ho] at hj
      obtain ⟨f1, f2⟩ := hfr m1 m2 i i0 hi1 hj
      have c31 := rFrame_c Tk.m (nM c ws bs) [m1] w (hM.kok hl1 hx1)
      have c32 := rFrame_c Tk.m (nM c ws bs) [m2] w (hM.kok hl2 hx2)
      have l1 := frM_len hM m1
      have l2 := frM_len hM m2
      generalize frameV (nM c ws bs) [m1] w = A at *
      generalize frameV (nM c ws bs) [m2] w = B at *
      (repeat (first | refine Tr.seq ?_ | refine Tr.skip ?_ | refine Tr.label ?_ | refine Tr.block ?_ | refine Tr.scope ?_ | refine gs1 ?_ | refine gs2 ?_ | refine gs3 ?_ | refine Tr.exit ?_ | refine Tr.goto ?_ | refine Tr.ret ?_ | refine n1 ?_ | refine n2 ?_ | refine n3 ?_ | refine n4 ?_ | refine n5 ?_ | refine n6 ?_ | refine n7 ?_ | refine n8 ?_ | refine n9 (by decide) ?_))
      (first | refine r1 ?_ | refine r2 ?_ | refine r3 ?_); intro K hK; simp only [go_sem, hP, hn]
      (repeat (refine ⟨by first | trivial | omega | (simp <;> omega) | (simp +contextual; done) | (clear hK; grind), ?_⟩))
      refine CallN_frz 136 ?_; simp only [go_sem, hP, hn]
      refine CallN_cs (Hi := [] ) (by rw [hP, hT]; exact  c31) rfl rfl rfl trivial (by simp only [go_sem, hP, hn]; try trivial) (by simp only [go_sem, hP, hn]; try rfl) (by simp only [inH, go_sem, hP, hn]; try simp) (by rw [hn]; decide) ?_; simp only [go_sem, hP, hn]; (repeat (refine ⟨by first | trivial | omega | (simp <;> omega) | (simp +contextual; done) | (clear hK; grind), ?_⟩))
      refine hK _ ?_; clear K hK
      (repeat (first | refine Tr.seq ?_ | refine Tr.skip ?_ | refine Tr.label ?_ | refine Tr.block ?_ | refine Tr.scope ?_ | refine gs1 ?_ | refine gs2 ?_ | refine gs3 ?_ | refine Tr.exit ?_ | refine Tr.goto ?_ | refine Tr.ret ?_ | refine n1 ?_ | refine n2 ?_ | refine n3 ?_ | refine n4 ?_ | refine n5 ?_ | refine n6 ?_ | refine n7 ?_ | refine n8 ?_ | refine n9 (by decide) ?_))
      (first | refine r1 ?_ | refine r2 ?_ | refine r3 ?_); intro K hK; simp only [go_sem, hP, hn]
      (repeat (refine ⟨by first | trivial | omega | (simp <;> omega) | (simp +contextual; done) | (clear hK; grind), ?_⟩))
      refine CallN_frz 140 ?_; simp only [go_sem, hP, hn]
      refine CallN_cs (Hi := [] ) (by rw [hP, hT]; exact  c32) rfl rfl rfl trivial (by simp only [go_sem, hP, hn]; try trivial) (by simp only [go_sem, hP, hn]; try rfl) (by simp only [inH, go_sem, hP, hn]; try simp) (by rw [hn]; decide) ?_; simp only [go_sem, hP, hn]; (repeat (refine ⟨by first | trivial | omega | (simp <;> omega) | (simp +contextual; done) | (clear hK; grind), ?_⟩))
      refine hK _ ?_; clear K hK
      refine Tr.le (Le.keep [6, 7, 8, 9, 10, 12, 13, 15, 16, 17, 21, 22]) ?_; simp only [List.map_cons, List.map_nil, lk, Nat.reduceEqDiff, reduceIte]
      (repeat (first | refine Tr.seq ?_ | refine Tr.skip ?_ | refine Tr.label ?_ | refine Tr.block ?_ | refine Tr.scope ?_ | refine gs1 ?_ | refine gs2 ?_ | refine gs3 ?_ | refine Tr.exit ?_ | refine Tr.goto ?_ | refine Tr.ret ?_ | refine n1 ?_ | refine n2 ?_ | refine n3 ?_ | refine n4 ?_ | refine n5 ?_ | refine n6 ?_ | refine n7 ?_ | refine n8 ?_ | refine n9 (by decide) ?_))
      have hle1 := hle i.toNat (by omega)
      rw [Int.toNat_of_nonneg i0] at hle1
      have dd1 : decide (R1.hi < eh i) = false := decide_eq_false (by omega)
      have dd2 : decide (el i < R1.lo) = false := decide_eq_false (by omega)
      (first | refine d1 (.p true 0 (.p true 1 (.p true 2 (.p true 3 (.p true 4 (.p true 5 (.p true 6 (.p true 7 (.p true 8 (.p true 9 (.p true 10 (.p true 11 (.p true 12 (.p true 13 (.p true 14 (.p true 15 (.p true 16 (.p true 17 (.p true 18 (.p true 19 .nil)))))))))))))))))))) [] (by rw [hP]; kernel_rfl) (by kernel_rfl) (by simp only [go_sem, hP, hn]; try simp) (fun _ _ h => h) fun K hK => ?_ | refine d2 (.p true 0 (.p true 1 (.p true 2 (.p true 3 (.p true 4 (.p true 5 (.p true 6 (.p true 7 (.p true 8 (.p true 9 (.p true 10 (.p true 11 (.p true 12 (.p true 13 (.p true 14 (.p true 15 (.p true 16 (.p true 17 (.p true 18 (.p true 19 .nil)))))))))))))))))))) [] (by rw [hP]; kernel_rfl) (by kernel_rfl) (by simp only [go_sem, hP, hn]; try simp) (fun _ _ h => h) fun K hK => ?_ | refine d4 (.p true 0 (.p true 1 (.p true 2 (.p true 3 (.p true 4 (.p true 5 (.p true 6 (.p true 7 (.p true 8 (.p true 9 (.p true 10 (.p true 11 (.p true 12 (.p true 13 (.p true 14 (.p true 15 (.p true 16 (.p true 17 (.p true 18 (.p true 19 .nil)))))))))))))))))))) [] (by rw [hP]; kernel_rfl) (by kernel_rfl) (by simp only [go_sem, hP, hn]; try simp) (fun _ _ h => h) fun K hK => ?_); simp only [go_sem, hP, hn]
      simp only [f1, f2]
      (repeat (refine ⟨by first | trivial | omega | (simp <;> omega) | (simp +contextual; done) | (clear hK; grind), ?_⟩))
      refine hK _ ?_; clear K hK
      refine Tr.le (Le.keep [6, 7, 8, 9, 10, 12, 13, 15, 16, 17, 21, 22, 161]) ?_; simp only [List.map_cons, List.map_nil, lk, Nat.reduceEqDiff, reduceIte]
      (repeat (first | refine Tr.seq ?_ | refine Tr.skip ?_ | refine Tr.label ?_ | refine Tr.block ?_ | refine Tr.scope ?_ | refine gs1 ?_ | refine gs2 ?_ | refine gs3 ?_ | refine Tr.exit ?_ | refine Tr.goto ?_ | refine Tr.ret ?_ | refine n1 ?_ | refine n2 ?_ | refine n3 ?_ | refine n4 ?_ | refine n5 ?_ | refine n6 ?_ | refine n7 ?_ | refine n8 ?_ | refine n9 (by decide) ?_))
      rw [dd1, dd2]
      refine Tr.cond rfl (fun hb => ?_) (fun hb => ?_)
      · cases hb
      clear hb dd1 dd2
      (repeat (first | refine Tr.seq ?_ | refine Tr.skip ?_ | refine Tr.label ?_ | refine Tr.block ?_ | refine Tr.scope ?_ | refine gs1 ?_ | refine gs2 ?_ | refine gs3 ?_ | refine Tr.exit ?_ | refine Tr.goto ?_ | refine Tr.ret ?_ | refine n1 ?_ | refine n2 ?_ | refine n3 ?_ | refine n4 ?_ | refine n5 ?_ | refine n6 ?_ | refine n7 ?_ | refine n8 ?_ | refine n9 (by decide) ?_))
      (first | refine d1 (.p true 0 (.p true 1 (.p true 2 (.p true 3 (.p true 4 (.p true 5 (.p true 6 (.p true 7 (.p true 8 (.p true 9 (.p true 10 (.p true 11 (.p true 12 .nil))))))))))))) [] (by rw [hP]; kernel_rfl) (by kernel_rfl) (by simp only [go_sem, hP, hn]; try simp) (fun _ _ h => h) fun K hK => ?_ | refine d2 (.p true 0 (.p true 1 (.p true 2 (.p true 3 (.p true 4 (.p true 5 (.p true 6 (.p true 7 (.p true 8 (.p true 9 (.p true 10 (.p true 11 (.p true 12 .nil))))))))))))) [] (by rw [hP]; kernel_rfl) (by kernel_rfl) (by simp only [go_sem, hP, hn]; try simp) (fun _ _ h => h) fun K hK => ?_ | refine d4 (.p true 0 (.p true 1 (.p true 2 (.p true 3 (.p true 4 (.p true 5 (.p true 6 (.p true 7 (.p true 8 (.p true 9 (.p true 10 (.p true 11 (.p true 12 .nil))))))))))))) [] (by rw [hP]; kernel_rfl) (by kernel_rfl) (by simp only [go_sem, hP, hn]; try simp) (fun _ _ h => h) fun K hK => ?_); simp only [go_sem, hP, hn]
      simp only [f1, f2]
      (repeat (refine ⟨by first | trivial | omega | (simp <;> omega) | (simp +contextual; done) | (clear hK; grind), ?_⟩))
      refine hK _ ?_; clear K hK
      refine Tr.le (Le.keep [6, 7, 8, 9, 10, 12, 13, 15, 16, 17, 22]) ?_; simp only [List.map_cons, List.map_nil, lk, Nat.reduceEqDiff, reduceIte]
      (repeat (first | refine Tr.seq ?_ | refine Tr.skip ?_ | refine Tr.label ?_ | refine Tr.block ?_ | refine Tr.scope ?_ | refine gs1 ?_ | refine gs2 ?_ | refine gs3 ?_ | refine Tr.exit ?_ | refine Tr.goto ?_ | refine Tr.ret ?_ | refine n1 ?_ | refine n2 ?_ | refine n3 ?_ | refine n4 ?_ | refine n5 ?_ | refine n6 ?_ | refine n7 ?_ | refine n8 ?_ | refine n9 (by decide) ?_))
      (first | refine d1 (.p true 0 (.p true 1 (.p true 2 (.p true 3 (.p true 4 (.p true 5 (.p true 6 (.p true 7 (.p true 8 (.p true 9 (.p true 10 (.p true 11 (.p true 12 .nil))))))))))))) [] (by rw [hP]; kernel_rfl) (by kernel_rfl) (by simp only [go_sem, hP, hn]; try simp) (fun _ _ h => h) fun K hK => ?_ | refine d2 (.p true 0 (.p true 1 (.p true 2 (.p true 3 (.p true 4 (.p true 5 (.p true 6 (.p true 7 (.p true 8 (.p true 9 (.p true 10 (.p true 11 (.p true 12 .nil))))))))))))) [] (by rw [hP]; kernel_rfl) (by kernel_rfl) (by simp only [go_sem, hP, hn]; try simp) (fun _ _ h => h) fun K hK => ?_ | refine d4 (.p true 0 (.p true 1 (.p true 2 (.p true 3 (.p true 4 (.p true 5 (.p true 6 (.p true 7 (.p true 8 (.p true 9 (.p true 10 (.p true 11 (.p true 12 .nil))))))))))))) [] (by rw [hP]; kernel_rfl) (by kernel_rfl) (by simp only [go_sem, hP, hn]; try simp) (fun _ _ h => h) fun K hK => ?_); simp only [go_sem, hP, hn]
      simp only [f1, f2]
      (repeat (refine ⟨by first | trivial | omega | (simp <;> omega) | (simp +contextual; done) | (clear hK; grind), ?_⟩))
      refine hK _ ?_; clear K hK
      refine Tr.le (Le.keep [6, 7, 8, 9, 10, 12, 13, 15, 16, 17]) ?_; simp only [List.map_cons, List.map_nil, lk, Nat.reduceEqDiff, reduceIte]
      (repeat (first | refine Tr.seq ?_ | refine Tr.skip ?_ | refine Tr.label ?_ | refine Tr.block ?_ | refine Tr.scope ?_ | refine gs1 ?_ | refine gs2 ?_ | refine gs3 ?_ | refine Tr.exit ?_ | refine Tr.goto ?_ | refine Tr.ret ?_ | refine n1 ?_ | refine n2 ?_ | refine n3 ?_ | refine n4 ?_ | refine n5 ?_ | refine n6 ?_ | refine n7 ?_ | refine n8 ?_ | refine n9 (by decide) ?_))
      (first | refine r1 ?_ | refine r2 ?_ | refine r3 ?_); intro K hK; simp only [go_sem, hP, hn]; (repeat (refine ⟨by first | trivial | omega | (simp <;> omega) | (simp +contextual; done) | (clear hK; grind), ?_⟩)); refine hK _ ?_; clear K hK
      rw [w64 (x := i + 1) (by omega) (by omega)]
      (repeat (first | refine Tr.seq ?_ | refine Tr.skip ?_ | refine Tr.label ?_ | refine Tr.block ?_ | refine Tr.scope ?_ | refine gs1 ?_ | refine gs2 ?_ | refine gs3 ?_ | refine Tr.exit ?_ | refine Tr.goto ?_ | refine Tr.ret ?_ | refine n1 ?_ | refine n2 ?_ | refine n3 ?_ | refine n4 ?_ | refine n5 ?_ | refine n6 ?_ | refine n7 ?_ | refine n8 ?_ | refine n9 (by decide) ?_))
      refine ⟨q - 1, _, by omega, ?_, i + 1, (lw || (el i == R1.lo)), (hg || (eh i == R1.hi)), rfl, by omega, by omega, ?_, ?_⟩
      · exact (Le.mv (by simp only [go_sem, hP, hn]; first | done | (simp; done) | (simp [intC]; done) | (repeat (first | rfl | constructor))) (by simp only [go_sem, hP, hn]; first | done | (simp; done) | (simp [intC]; done) | (repeat (first | rfl | constructor))))
      · rcases hgh with rfl | h
        · exact .inl rfl
        · by_cases e : eh i = R1.hi
          · exact .inl (by simp [e])
          · exact .inr fun j hj2 => by
              rcases Int.lt_or_le (j : Int) i with h2 | h2
              · exact h j h2
              · have : (j : Int) = i := by omega
                rw [this]; exact e
      · rcases hgl with rfl | h
        · exact .inl rfl
        · by_cases e : el i = R1.lo
          · exact .inl (by simp [e])
          · exact .inr fun j hj2 => by
              rcases Int.lt_or_le (j : Int) i with h2 | h2
              · exact h j h2
              · have : (j : Int) = i := by omega
                rw [this]; exact e
  · have hi2 : (c : Int) ≤ i := by
      have : ¬ i < c := by simpa using hb
      omega
    obtain rfl : hg = true := by
      rcases hgh with e | e
      · exact e
      · obtain ⟨j, a, b⟩ := hhat
        exact absurd b (e j (by omega))
    obtain rfl : lw = true := by
      rcases hgl with e | e
      · exact e
      · obtain ⟨j, a, b⟩ := hlat
        exact absurd b (e j (by omega))
    clear hb
    (repeat (first | refine Tr.seq ?_ | refine Tr.skip ?_ | refine Tr.label ?_ | refine Tr.block ?_ | refine Tr.scope ?_ | refine gs1 ?_ | refine gs2 ?_ | refine gs3 ?_ | refine Tr.exit ?_ | refine Tr.goto ?_ | refine Tr.ret ?_ | refine n1 ?_ | refine n2 ?_ | refine n3 ?_ | refine n4 ?_ | refine n5 ?_ | refine n6 ?_ | refine n7 ?_ | refine n8 ?_ | refine n9 (by decide) ?_))
    refine Tr.le (Le.keep [6, 7, 12, 13, 15, 16]) ?_; simp only [List.map_cons, List.map_nil, lk, Nat.reduceEqDiff, reduceIte]
    (repeat (first | refine Tr.seq ?_ | refine Tr.skip ?_ | refine Tr.label ?_ | refine Tr.block ?_ | refine Tr.scope ?_ | refine gs1 ?_ | refine gs2 ?_ | refine gs3 ?_ | refine Tr.exit ?_ | refine Tr.goto ?_ | refine Tr.ret ?_ | refine n1 ?_ | refine n2 ?_ | refine n3 ?_ | refine n4 ?_ | refine n5 ?_ | refine n6 ?_ | refine n7 ?_ | refine n8 ?_ | refine n9 (by decide) ?_))
    (first | refine d1 (.p true 0 (.p true 1 (.p true 2 (.p true 3 (.p true 4 (.p true 5 (.p true 6 (.p true 7 (.p true 8 (.p true 9 (.p true 10 (.p true 11 (.p true 12 (.p true 13 (.p true 14 (.p true 15 (.p true 16 (.p true 17 (.p true 18 (.p true 19 (.p true 20 (.p true 21 (.p true 22 (.p true 23 (.p true 24 (.p true 25 .nil)))))))))))))))))))))))))) [] (by rw [hP]; kernel_rfl) (by kernel_rfl) (by simp only [go_sem, hP, hn]; try simp) (fun _ _ h => h) fun K hK => ?_ | refine d2 (.p true 0 (.p true 1 (.p true 2 (.p true 3 (.p true 4 (.p true 5 (.p true 6 (.p true 7 (.p true 8 (.p true 9 (.p true 10 (.p true 11 (.p true 12 (.p true 13 (.p true 14 (.p true 15 (.p true 16 (.p true 17 (.p true 18 (.p true 19 (.p true 20 (.p true 21 (.p true 22 (.p true 23 (.p true 24 (.p true 25 .nil)))))))))))))))))))))))))) [] (by rw [hP]; kernel_rfl) (by kernel_rfl) (by simp only [go_sem, hP, hn]; try simp) (fun _ _ h => h) fun K hK => ?_ | refine d4 (.p true 0 (.p true 1 (.p true 2 (.p true 3 (.p true 4 (.p true 5 (.p true 6 (.p true 7 (.p true 8 (.p true 9 (.p true 10 (.p true 11 (.p true 12 (.p true 13 (.p true 14 (.p true 15 (.p true 16 (.p true 17 (.p true 18 (.p true 19 (.p true 20 (.p true 21 (.p true 22 (.p true 23 (.p true 24 (.p true 25 .nil)))))))))))))))))))))))))) [] (by rw [hP]; kernel_rfl) (by kernel_rfl) (by simp only [go_sem, hP, hn]; try simp) (fun _ _ h => h) fun K hK => ?_); simp only [go_sem, hP, hn]
    (repeat (refine ⟨by first | trivial | omega | (simp <;> omega) | (simp +contextual; done) | (clear hK; grind), ?_⟩))
    refine hK _ ?_; clear K hK
    (repeat (first | ((first | refine r1 ?_ | refine r2 ?_ | refine r3 ?_); intro K hK; simp only [go_sem, hP, hn]; (repeat (refine ⟨by first | trivial | omega | (simp <;> omega) | (simp +contextual; done) | (clear hK; grind), ?_⟩)); refine hK _ ?_; clear K hK) | refine Tr.seq ?_ | refine Tr.skip ?_ | refine Tr.label ?_ | refine Tr.block ?_ | refine Tr.scope ?_ | refine gs1 ?_ | refine gs2 ?_ | refine gs3 ?_ | refine Tr.exit ?_ | refine Tr.goto ?_ | refine Tr.ret ?_ | refine n1 ?_ | refine n2 ?_ | refine n3 ?_ | refine n4 ?_ | refine n5 ?_ | refine n6 ?_ | refine n7 ?_ | refine n8 ?_ | refine n9 (by decide) ?_))
    simp only [RetG, go_sem]; (repeat (with_reducible refine And.intro ?_ ?_; (· first | trivial | omega | (simp <;> omega) | (simp +contextual; done) | (clear hK; grind))))
    simp
end
end Go.Proofs.YtgijboakaodcgaaDoor.Aw
