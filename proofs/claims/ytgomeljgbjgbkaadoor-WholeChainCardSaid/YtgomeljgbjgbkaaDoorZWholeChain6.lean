/- The abstract walk, and contracts of Go functions: each call returns what the Lean function named tells. Conditions: those that each theorem names, none else. -/
import Derived.Test.YtgomeljgbjgbkaaDoorZWholeChain5
set_option linter.unusedVariables false
set_option linter.unusedSimpArgs false
set_option linter.unusedSectionVars false
set_option maxRecDepth 100000
set_option maxHeartbeats 4000000
namespace Go.Proofs.YtgomeljgbjgbkaaDoor.Aw
open Go.RowKit
/-! the plain law of kernels -/
theorem scale32 (x m s : Int) : in32 (scaleV x m s) := by
  unfold scaleV
  split
  · exact clamp32 _
  · decide
theorem pst32 (n : Nd) (x : Int) (hl : -2147483648 ≤ n.low) (hm : n.low ≤ n.high) (hh : n.high ≤ 2147483647) : in32 (n.pst x) := by
  unfold Nd.pst
  split
  · have := clampV_in (x := if (Go.bits .and .i64 n.post 1 != 0) = true then scaleV (clampV x (-2147483648) 2147483647) n.mult n.shift else clampV x (-2147483648) 2147483647) hm
    unfold in32; omega
  · split
    · exact scale32 _ _ _
    · exact clamp32 _
theorem mostV_b (xs : List Int) (h : 1 ≤ xs.length) : 0 ≤ mostV xs ∧ mostV xs < xs.length := mostN_b xs h _ (Nat.le_refl _)
/-- another Post, another Bias, and what they need -/
def Nd.wq (n : Nd) (bs : List Int) (mu sh lo hi po : Int) : Nd := { n with bs := bs, mult := mu, shift := sh, low := lo, high := hi, post := po }
def Nd.wp (n : Nd) (mu sh lo hi po : Int) : Nd := n.wq n.bs mu sh lo hi po
theorem rchk_postq {n : Nd} {l bs : List Int} {mu sh lo hi po : Int} (h : n.rchk l = 0) (hw : rWeighs n.k = true) (hbl : bs.length = n.bs.length) (h21 : ∀ v m, n.s21 v m = false → (n.wq bs mu sh lo hi po).s21 v m = false) (h9 : 0 ≤ po ∧ po ≤ 3) (h12 : (n.wq bs mu sh lo hi po).e12 = true) (h27 : (n.wq bs mu sh lo hi po).s27 = true) : (n.wq bs mu sh lo hi po).rchk l = 0 := by
  obtain ⟨c1, c7, c9, he, hs, hL⟩ := rchk_unpack h
  have d1 : (n.wq bs mu sh lo hi po).chk1 l = false := c1
  have d7 : (n.wq bs mu sh lo hi po).r7 l = false := c7
  have d9 : (n.wq bs mu sh lo hi po).r9 = false := by
    show (decide (po < 0) || decide (3 < po) || po != 0 && !rWeighs n.k) = false
    rw [hw, decide_eq_false (by omega), decide_eq_false (by omega)]; simp
  have de : (n.wq bs mu sh lo hi po).else0 = true := by
    show (if n.e6 = true then false else if n.e8 = true then false else if (n.wq bs mu sh lo hi po).e10 = true then false else (n.wq bs mu sh lo hi po).e12) = true
    unfold Nd.else0 at he
    rw [h12]
    split at he
    · cases he
    · rename_i q1
      rw [if_neg q1]
      split at he
      · cases he
      · rename_i q2
        rw [if_neg q2]
        split at he
        · cases he
        · rename_i q3
          rw [if_neg (by rw [show (n.wq bs mu sh lo hi po).e10 = n.e10 by unfold Nd.e10; rw [show (n.wq bs mu sh lo hi po).bs.length = n.bs.length from hbl]; rfl]; exact q3)]
  have ds : (n.wq bs mu sh lo hi po).sized (rd l 0) = true := by
    show (if n.s4 = true then false else if n.s8 = true then false else if n.s10 = true then false else if n.s13 = true then false else
      if rWeighs n.k = true then (if ((n.wq bs mu sh lo hi po).s21 (rd l 0) (if (n.k == 2) = true then rd l 0 else n.wid)) = true then false else (n.wq bs mu sh lo hi po).s27) else (n.wq bs mu sh lo hi po).s27) = true
    unfold Nd.sized at hs
    rw [h27]
    rw [if_pos hw] at hs ⊢
    split at hs
    · cases hs
    · rename_i q1
      rw [if_neg q1]
      split at hs
      · cases hs
      · rename_i q2
        rw [if_neg q2]
        split at hs
        · cases hs
        · rename_i q3
          rw [if_neg q3]
          split at hs
          · cases hs
          · rename_i q4
            rw [if_neg q4]
            generalize (if (n.k == 2) = true then rd l 0 else n.wid) = mm at hs ⊢
            split at hs
            · cases hs
            · rename_i q5
              rw [if_neg (by rw [h21 _ _ (by simpa using q5)]; decide)]
  have dL : (n.wq bs mu sh lo hi po).chkL (rd l 0) 0 l = 0 := by
    have : ∀ (v s : Int) (l : List Int), (n.wq bs mu sh lo hi po).chkL v s l = n.chkL v s l := by
      intro v s l
      induction l generalizing s with
      | nil => rfl
      | cons x l ih => simp only [Nd.chkL]; rw [ih]; rfl
    exact (this _ _ _).trans hL
  unfold Nd.rchk
  rw [d1, d7, d9, de, ds, dL]
  rfl
theorem rchk_post {n : Nd} {l : List Int} {mu sh lo hi po : Int} (h : n.rchk l = 0) (hw : rWeighs n.k = true) (h9 : 0 ≤ po ∧ po ≤ 3) (h12 : (n.wp mu sh lo hi po).e12 = true) (h27 : (n.wp mu sh lo hi po).s27 = true) : (n.wp mu sh lo hi po).rchk l = 0 :=
  rchk_postq h hw rfl (fun _ _ h => h) h9 h12 h27
theorem KOk.wp {n : Nd} {fs : List (List Int)} {w : Nat} {mu sh lo hi po : Int} (h : KOk n fs w) (hw : rWeighs n.k = true) (h9 : 0 ≤ po ∧ po ≤ 3) (h12 : (n.wp mu sh lo hi po).e12 = true) (h27 : (n.wp mu sh lo hi po).s27 = true) : KOk (n.wp mu sh lo hi po) fs w :=
  ⟨h.w0, h.m0, h.len, h.num, h.win, h.many, h.one, rchk_post h.chk hw h9 h12 h27, h.il, h.wl, h.bl⟩
theorem weighed_num {n : Nd} {fs : List (List Int)} {w : Nat} (hl : -2147483648 ≤ n.low) (hm : n.low ≤ n.high) (hh : n.high ≤ 2147483647) : ∀ b, ∀ x ∈ weighedN n fs w b, in32 x
  | 0, x, hx => by simp [weighedN] at hx
  | b + 1, x, hx => by
    unfold weighedN at hx
    rcases List.mem_append.1 hx with h | h
    · exact weighed_num hl hm hh b x h
    · obtain rfl := List.mem_singleton.1 h; exact pst32 n _ hl hm hh
theorem s27_iff {n : Nd} (h : n.s27 = true) : (0 ≤ n.mult ∧ n.mult ≤ 32767) ∧ (0 ≤ n.shift ∧ n.shift ≤ 30) ∧ -2147483648 ≤ n.low ∧ n.low ≤ n.high ∧ n.high ≤ 2147483647 := by
  unfold Nd.s27 at h
  simp only [Bool.and_eq_true, inB_iff, decide_eq_true_eq] at h
  omega
theorem KOk.s27 {n : Nd} {fs : List (List Int)} {w : Nat} (h : KOk n fs w) : n.s27 = true := by
  have hs := h.sized
  unfold Nd.sized at hs
  repeat' (split at hs <;> try (cases hs; done))
  all_goals exact hs
end Go.Proofs.YtgomeljgbjgbkaaDoor.Aw
namespace Go.Proofs.YtgomeljgbjgbkaaDoor.Aw
open Go.RowKit
attribute [local go_sem_proc] Nat.reduceAdd Nat.reduceMul Nat.reduceSub Nat.reduceEqDiff Nat.reduceLeDiff Nat.reduceBEq Nat.reduceBNe Int.reduceToNat reduceIte reduceCtorEq
attribute [local go_sem] initT SQ so pe he ev lk constS stp stc gdS nth pickS pickD loadS cellsAt okAt fieldAddrS fieldS partS indexAddrS indexS extractS binS binD binI isShift unS convS lenS sliceS bndI bndC mmS mm2 mmD builtS fillS okCells cellsS splS solid aliveL alive okS boxS allocS makeS bsliceS elemsOf dcells stF frzW storeS frzA frz frzT frzS frzL frzO frzH appS srcS appVC killS killT killC killH killO k1 k2 S.has S.hasL St.add St.upd dropH lh cond_or cond_and rw_intC rw_intC0 rw_set rw_app rw_apps rw_rep rw_slice wr64 cond_true cond_false true_and and_true List.map_cons List.map_nil List.length_cons List.length_nil List.drop_succ_cons List.drop_zero List.take_succ_cons List.take_zero List.nil_append List.cons_append List.getD_cons_zero List.getD_cons_succ List.headD_cons List.length_map ite_true ite_false if_true if_false Bool.false_eq_true and_self forall_const List.drop_nil List.take_nil List.append_nil Option.map_some Option.map_none List.mapM_cons List.mapM_nil Option.bind_eq_bind Option.bind_some Option.pure_def knows resL resV oneS freshS freshL cv cvL stpL stcL or_true true_or or_false false_or List.all_cons List.all_nil Bool.and_self Bool.or_self Bool.true_and Bool.and_true Bool.or_false Bool.false_or implies_true flatD allm_nil allm_cons List.getElem?_cons_zero List.getElem?_cons_succ Nd.cs Nd.ds ml mln Option.isSome_some Option.isSome_none eq_self Int.toNat_natCast AP ldOk isLd inL subL crt chg chgS chgP idxs aliveW Option.toList_some Option.toList_none Option.toList RetG Nd.win frzA offK keepH aliveK nkH closedH closedO keysK inH St.upd rowO List.contains_cons List.contains_nil Bool.or_self Option.isNone_none Option.isNone_some Bool.not_true Bool.not_false gcs rowN e0N frzC
attribute [local go_sem] sz2 ag2 ok2 kk2 iu2 zc2 zd2 by2 sz3 ag3 ok3 kk3 iu3 zc3 zd3 by3 sz4 ag4 ok4 bo4 zc4 zd4 by4 sz5 ag5 ok5 kk5 iu5 zc5 zd5 by5 sz9 ag9 ok9 st9 zc9 zd9 by9 sz12 ag12 ok12 kk12 iu12 zc12 zd12 by12 sz15 ag15 ok15 zc15 by15 sz16 ag16 ok16 zc16 by16 sz21 ag21 ok21 kk21 iu21 zc21 zd21 by21 sz22 ag22 ok22 sl22 zc22 zd22 by22 sz24 ag24 ok24 sl24 zc24 zd24 by24 sz25 ag25 ok25 zc25 zd25 pl25 by25 fl25_0 fl25_1 fl25_2 fl25_3 fl25_4 sz26 ag26 ok26 zc26 zd26 pl26 by26 fl26_0 fl26_1 fl26_2 fl26_3 fl26_4 sz30 ag30 ok30 sl30 ar30 zc30 zd30 pl30 by30 sz31 ag31 ok31 sl31 ar31 zc31 zd31 pl31 by31 sz32 ag32 ok32 sl32 zc32 zd32 by32 sz36 ag36 ok36 kk36 iu36 zc36 zd36 by36 sz37 ag37 ok37 zc37 zd37 pl37 by37 fl37_0 fl37_1 fl37_2 fl37_3 sz38 ag38 ok38 zc38 zd38 pl38 by38 fl38_0 fl38_1 fl38_2 fl38_3 sz40 ag40 ok40 sl40 zc40 zd40 by40 sz41 ag41 ok41 zc41 zd41 pl41 by41 fl41_0 fl41_1 sz42 ag42 ok42 zc42 zd42 pl42 by42 fl42_0 fl42_1 sz44 ag44 ok44 kk44 iu44 zc44 zd44 by44 sz49 ag49 ok49 zc49 zd49 pl49 by49 fl49_0 fl49_1 fl49_2 fl49_3 fl49_4 fl49_5 fl49_6 fl49_7 fl49_8 fl49_9 fl49_10 fl49_11 fl49_12 fl49_13 fl49_14 sz50 ag50 ok50 zc50 zd50 pl50 by50 fl50_0 fl50_1 fl50_2 fl50_3 fl50_4 fl50_5 fl50_6 fl50_7 fl50_8 fl50_9 fl50_10 fl50_11 fl50_12 fl50_13 fl50_14 sz55 ag55 ok55 zc55 zd55 pl55 by55 fl55_0 fl55_1 fl55_2 sz56 ag56 ok56 zc56 zd56 pl56 by56 fl56_0 fl56_1 fl56_2 sz65 ag65 ok65 sl65 zc65 zd65 by65 sz68 ag68 ok68 zc68 by68 sz81 ag81 ok81 zc81 zd81 pl81 by81 fl81_0 fl81_1 fl81_2 fl81_3 sz82 ag82 ok82 zc82 zd82 pl82 by82 fl82_0 fl82_1 fl82_2 fl82_3 sz87 ag87 ok87 zc87 by87 sz88 ag88 ok88 zc88 zd88 pl88 by88 fl88_0 fl88_1 fl88_2 sz89 ag89 ok89 zc89 zd89 pl89 by89 fl89_0 fl89_1 fl89_2 sz92 ag92 ok92 zc92 by92 sz93 ag93 ok93 zc93 zd93 pl93 by93 fl93_0 fl93_1 sz94 ag94 ok94 zc94 zd94 pl94 by94 fl94_0 fl94_1 sz98 ag98 ok98 zc98 zd98 pl98 by98 fl98_0 fl98_1 fl98_2 sz99 ag99 ok99 zc99 zd99 pl99 by99 fl99_0 fl99_1 fl99_2 sz112 ag112 ok112 sl112 ar112 zc112 zd112 pl112 by112 sz113 ag113 ok113 sl113 ar113 zc113 zd113 pl113 by113 sz124 ag124 ok124 zc124 zd124 pl124 by124 fl124_0 fl124_1 sz125 ag125 ok125 sl125 ar125 zc125 zd125 pl125 by125 sz126 ag126 ok126 zc126 by126 sz130 ag130 ok130 zc130 by130 sz132 ag132 ok132 zc132 zd132 pl132 by132 fl132_0 fl132_1 sz133 ag133 ok133 zc133 zd133 pl133 by133 fl133_0 fl133_1 sz151 ag151 ok151 kk151 iu151 zc151 zd151 by151 sz155 ag155 ok155 zc155 by155
set_option maxRecDepth 100000
/-! all frames of all nodes, in plain lists -/
def nodeF (n : Nd) (ins : List (List (List Int))) (w : Nat) : List (List Int) := (List.range (n.rCount (ins.map fun s => (s.length : Int))).toNat).map fun i => frameV n (inpF n ins w (i : Nat)) w
def frF (ns : List Nd) (W : List Int) (u : Int → List (List Int)) (i : Int) : List (List Int) := nodeF (nd ns (i - 1)) ((nd ns (i - 1)).inn.map u) (rd W (rd (nd ns (i - 1)).inn 0)).toNat
theorem frF_loc {ns : List Nd} {W : List Int} (u v : Int → List (List Int)) (i : Int) (h : ∀ j ∈ (nd ns (i - 1)).inn, u j = v j) : frF ns W u i = frF ns W v i := by
  unfold frF; rw [List.map_congr_left h]
structure SG (w : Int) (b : Nat) (s : List (List Int)) : Prop where
  wid : ∀ f ∈ s, (f.length : Int) = w
  num : ∀ f ∈ s, ∀ x ∈ f, in32 x
  len : s.length ≤ b
theorem SG.at_w {w : Int} {b : Nat} {s : List (List Int)} (h : SG w b s) (hw : 0 ≤ w) (t : Int) : ((atV s t w.toNat).length : Int) = w ∧ ∀ x ∈ atV s t w.toNat, in32 x := by
  unfold atV
  split
  · refine ⟨by rw [List.length_replicate]; omega, fun x hx => ?_⟩
    have := (List.mem_replicate.1 hx).2
    subst this
    exact ⟨by decide, by decide⟩
  · have hm := fr_mem (fs := s) (i := t) (by omega) (by omega)
    exact ⟨h.wid _ hm, h.num _ hm⟩
theorem mean32 (xs : List Int) (h0 : 1 ≤ xs.length) (h : ∀ x ∈ xs, in32 x) : in32 (meanV xs) := by
  obtain ⟨h1, h2⟩ := sum32 xs h
  unfold meanV divV
  have hl : (1 : Int) ≤ xs.length := by omega
  generalize (xs.length : Int) = m at *
  generalize xs.sum = s at *
  rw [if_neg (by omega)]
  refine ⟨(Int.le_ediv_iff_mul_le (by omega)).2 (by omega), ?_⟩
  have : (2 * s + m) / (2 * m) < 2147483648 := (Int.ediv_lt_iff_lt_mul (by omega)).2 (by omega)
  omega
/-- the frames that a node's frame is told from are as they should be -/
structure NI (n : Nd) (W : Int → Int) (fs : List (List Int)) : Prop where
  h0 : 1 ≤ fs.length ∧ fs.length ≤ 4096
  many : (fs.length : Int) = manyV n fs
  wds : wdsV n fs = n.inn.map W
  num : ∀ f ∈ fs, ∀ x ∈ f, in32 x
  one : rMany n.k = false → ∀ f ∈ fs, (f.length : Int) = W (rd n.inn 0)
section
variable {N : Int} {n : Nd} {W R : Int → Int} {rk : Int → Nat} {i : Int} (hn : NodeG N n W R rk i)
include hn
theorem NodeG.rd0 : rd (n.inn.map W) 0 = W (rd n.inn 0) := rd_map hn.l1
theorem NodeG.w0 : 1 ≤ W (rd n.inn 0) ∧ W (rd n.inn 0) ≤ 16 := by
  obtain ⟨c1, _⟩ := rchk_unpack hn.chk
  exact chk1_all c1 _ (List.mem_map_of_mem (rd_mem (by omega) (by have := hn.l1; omega)))
theorem NodeG.one_inn (hm : rMany n.k = false) : ∃ a, n.inn = [a] := by
  obtain ⟨_, h7, _⟩ := rchk_unpack hn.chk
  unfold Nd.r7 at h7
  rw [hm] at h7
  rcases inn12 hn with h | ⟨a, b, h⟩
  · exact h
  · rw [h] at h7; simp at h7
theorem NI.right {fs : List (List Int)} (h : NI n W fs) : rightV n fs = true := by
  unfold rightV
  have e0 : ((fs.length : Int) == 0) = false := by
    have := h.h0
    cases e : ((fs.length : Int) == 0) with
    | false => rfl
    | true => have := of_decide_eq_true e; omega
  have e1 : ((fs.length : Int) != manyV n fs) = false := by simpa using h.many
  have e2 : (n.rchk (wdsV n fs) != 0) = false := by rw [h.wds, hn.chk]; rfl
  rw [e0, e1, e2]
  simp only [Bool.not_false, Bool.or_self, Bool.true_and]
  refine List.all_eq_true.2 fun f hf => ?_
  unfold frOk
  have e3 : f.all fits32 = true := List.all_eq_true.2 fun x hx => (fits32_iff x).2 (h.num f hf x hx)
  rw [e3, Bool.and_true, h.wds]
  cases hm : rMany n.k with
  | true =>
    have h2 := rMany_chk hn.chk hm
    have h3 : (((n.inn.map W).length : Int) == 1) = false := by
      cases e : (((n.inn.map W).length : Int) == 1) with
      | false => rfl
      | true => have := of_decide_eq_true e; omega
    rw [h3]; rfl
  | false =>
    rw [hn.rd0, h.one hm f hf]; simp
theorem NI.w {fs : List (List Int)} (h : NI n W fs) : (fr fs 0).length = (W (rd n.inn 0)).toNat := by
  have hf0 : fr fs 0 ∈ fs := fr_mem (by decide) (by have := h.h0; omega)
  cases hm : rMany n.k with
  | false => have := h.one hm _ hf0; omega
  | true =>
    have e := h.wds
    unfold wdsV at e
    rw [if_pos hm] at e
    have e2 : rd (fs.map fun f => (f.length : Int)) 0 = rd (n.inn.map W) 0 := congrArg (fun l => rd l 0) e
    rw [hn.rd0] at e2
    have e3 : rd (fs.map fun f => (f.length : Int)) 0 = (fr fs 0).length := by
      have := h.h0
      cases fs with
      | nil => simp at this
      | cons x l => rfl
    omega
theorem NI.fok {fs : List (List Int)} (h : NI n W fs) : FOk n fs (W (rd n.inn 0)).toNat := by
  rw [← h.w hn]
  exact right_fok h.h0.2 (h.right hn)
omit hn in
theorem sized_s27 {v : Int} (hs : n.sized v = true) : n.s27 = true := by
  unfold Nd.sized at hs
  repeat' (split at hs <;> try (cases hs; done))
  all_goals exact hs
omit hn in
theorem sized_wid {v : Int} (hs : n.sized v = true) (hk : n.k = 1 ∨ n.k = 6) : (n.bs.length : Int) = n.wid := by
  have hw : rWeighs n.k = true := by rcases hk with e | e <;> (rw [e]; rfl)
  have h2 : (n.k == 2) = false := by rcases hk with e | e <;> (rw [e]; rfl)
  unfold Nd.sized at hs
  rw [if_pos hw, h2] at hs
  simp only [Bool.false_eq_true, if_false] at hs
  have h21 : n.s21 v n.wid = false := by
    cases e : n.s21 v n.wid with
    | false => rfl
    | true => rw [e] at hs; simp at hs
  unfold Nd.s21 at h21
  simp only [Bool.or_eq_false_iff, bne_eq_false_iff_eq] at h21
  exact h21.1.1.2
omit hn in
theorem each_num {fs : List (List Int)} {w : Nat} (h : KOk n fs w) {g : List Int → Int} (hg : ∀ xs : List Int, xs.length = fs.length → (∀ x ∈ xs, in32 x) → in32 (g xs)) : ∀ x ∈ eachL g fs w, in32 x := by
  intro x hx
  unfold eachL at hx
  obtain ⟨k, hk, rfl⟩ := List.mem_map.1 hx
  have hk := List.mem_range.1 hk
  exact hg _ (col_len _ _) (h.col (by omega) (by omega))
/-- what comes of them is as wide as it should be, of words -/
theorem NI.out {fs : List (List Int)} (h : NI n W fs) : ((frameV n fs (W (rd n.inn 0)).toNat).length : Int) = W i ∧ ∀ x ∈ frameV n fs (W (rd n.inn 0)).toNat, in32 x := by
  have hF := h.fok hn
  have hw := hn.w0
  have hrd := hn.rd0
  obtain ⟨c1, c7, c9, he, hs, hL⟩ := rchk_unpack hn.chk
  have h27 := s27_iff (sized_s27 hs)
  have hwd := hn.wd
  unfold Nd.rwide at hwd
  rw [hn.chk, if_neg (by decide)] at hwd
  rw [hrd] at hwd
  generalize hww : (W (rd n.inn 0)).toNat = w at *
  unfold frameV
  by_cases h8 : n.k = 8
  · rw [if_neg (by rw [h8]; decide), if_neg (by omega), if_neg (by omega), if_neg (by omega), if_neg (by omega), if_neg (by omega), if_neg (by omega)]
    rw [if_neg (by rw [h8]; decide), if_neg (by rw [h8]; decide), if_neg (by rw [h8]; decide)] at hwd
    have e := h.wds
    unfold wdsV at e
    rw [if_pos (show rMany n.k = true by rw [h8]; rfl)] at e
    refine ⟨?_, fun x hx => ?_⟩
    · rw [hwd, ← e]
      have hm : rMany n.k = true := by rw [h8]; rfl
      have hall := chk1_all c1
      rw [← e] at hall
      have hlen : fs.length = n.inn.length := by
        have := congrArg List.length e
        simpa using this
      have hl2 := hn.l2
      have hl1 := hn.l1
      clear e hF h
      match fs, hlen with
      | [f], _ => simp [sumL]; have := hall f.length (by simp); rw [w64 (by omega) (by omega)]
      | [f, g], _ =>
        have h1 := hall f.length (by simp)
        have h2 := hall g.length (by simp)
        simp only [List.flatten_cons, List.flatten_nil, List.append_nil, List.length_append, List.map_cons, List.map_nil, sumL]
        rw [w64 (x := 0 + (f.length : Int)) (by omega) (by omega), w64 (by omega) (by omega)]
        omega
      | [], e => simp at e; omega
      | _ :: _ :: _ :: _, e => simp at e; omega
    · obtain ⟨f, hf, hx⟩ := List.mem_flatten.1 hx
      exact h.num f hf x hx
  · have hK := hF.kok h8
    by_cases hwe : rWeighs n.k = true
    · rw [if_pos hwe]
      unfold weighedV
      rw [weighedN_len]
      refine ⟨?_, weighed_num h27.2.2.1 h27.2.2.2.1 h27.2.2.2.2 _⟩
      have hc : n.k = 1 ∨ n.k = 2 ∨ n.k = 6 := by unfold rWeighs at hwe; simpa [or_assoc] using hwe
      by_cases h2 : n.k = 2
      · have := (hK.wok hwe).dp h2
        rw [if_neg (by rw [h2]; decide), if_neg (by rw [h2]; decide), if_pos (by rw [h2]; decide)] at hwd
        omega
      · rw [if_pos (by simp; omega)] at hwd
        rw [hwd]
        exact sized_wid hs (by omega)
    · rw [if_neg hwe]
      have hwe2 : ¬ (n.k == 1 || n.k == 6) = true := fun e => hwe (by unfold rWeighs; simp at e ⊢; omega)
      rw [if_neg hwe2] at hwd
      by_cases h11 : n.k = 11
      · rw [if_neg (by omega), if_neg (by omega), if_neg (by omega), if_neg (by omega), if_neg (by omega), if_pos h11]
        rw [if_pos (by rw [h11]; decide)] at hwd
        refine ⟨by rw [hwd]; rfl, fun x hx => ?_⟩
        obtain rfl := List.mem_singleton.1 hx
        have := h.w hn
        have := mostV_b (fr fs 0) (by omega)
        exact ⟨by omega, by omega⟩
      · rw [if_neg (by simpa using h11), if_pos (by simpa using h8)] at hwd
        have hlen := hK.m0.1
        have hwW : ((w : Nat) : Int) = W i := by omega
        have h0 : ∀ xs : List Int, xs.length = fs.length → (∀ x ∈ xs, in32 x) → in32 (rd xs 0) := fun xs hx hxs => hxs _ (rd_mem (by decide) (by omega))
        rw [if_neg h11]
        split
        · exact ⟨by rw [eachL_len]; exact hwW, each_num hK fun xs hx hxs => by
            have := mostV_b xs (by omega)
            exact hxs _ (rd_mem this.1 this.2)⟩
        split
        · exact ⟨by rw [eachL_len]; exact hwW, each_num hK fun xs hx hxs => mean32 xs (by omega) hxs⟩
        split
        · exact ⟨by rw [eachL_len]; exact hwW, each_num hK fun xs hx hxs => add_in xs⟩
        split
        · exact ⟨by rw [eachL_len]; exact hwW, each_num hK fun xs hx hxs => by
            have := clampV_in (x := rd xs 0) h27.2.2.2.1
            exact ⟨by omega, by omega⟩⟩
        split
        · exact ⟨by rw [eachL_len]; exact hwW, each_num hK fun xs hx hxs => scale32 _ _ _⟩
        · exfalso
          obtain ⟨k1, k2, _⟩ := hK.unpack
          unfold rWeighs at hwe
          simp at hwe
          omega
/-- which frames go into a frame -/
theorem NodeG.ni {u : Int → List (List Int)} {b : Nat} (hb : b ≤ 4096) (hu : ∀ j ∈ n.inn, SG (W j) b (u j)) {k : Int} (k0 : 0 ≤ k) (k1 : k < n.rCount ((n.inn.map u).map fun s => (s.length : Int))) :
    NI n W (inpF n (n.inn.map u) (W (rd n.inn 0)).toNat k) := by
  have hw := hn.w0
  obtain ⟨c1, c7, c9, he, hs, hL⟩ := rchk_unpack hn.chk
  have hone : ∀ fs : List (List Int), 1 ≤ fs.length → rMany n.k = false → (∀ f ∈ fs, (f.length : Int) = W (rd n.inn 0)) → wdsV n fs = n.inn.map W := fun fs h1 hm hf => by
    obtain ⟨a, ha⟩ := hn.one_inn hm
    unfold wdsV
    rw [hm, if_neg (by decide), hf _ (fr_mem (by decide) (by omega)), ha]; rfl
  by_cases hwin : rWin n.k = true
  · have hsz := win_size hs hwin
    have hm : rMany n.k = false := by
      unfold rWin at hwin; unfold rMany
      simp only [Bool.or_eq_true, beq_iff_eq] at hwin
      simp only [Bool.or_eq_false_iff, beq_eq_false_iff_ne]
      omega
    obtain ⟨a, ha⟩ := hn.one_inn hm
    have hua := hu a (by rw [ha]; simp)
    have hWa : W (rd n.inn 0) = W a := by rw [ha]; rfl
    have hat := fun t => hua.at_w (t := t) (by omega)
    have hin : inF (n.inn.map u) 0 = u a := by rw [ha]; rfl
    unfold inpF
    rw [if_pos hwin, hin, hWa]
    have hf : ∀ f ∈ (List.range n.size.toNat).map (fun j => atV (u a) (wrap64 (n.rFirst k + wrap64 ((j : Nat) * gapV n))) (W a).toNat), (f.length : Int) = W (rd n.inn 0) ∧ ∀ x ∈ f, in32 x := fun f hf => by
      obtain ⟨j, _, rfl⟩ := List.mem_map.1 hf
      rw [hWa]; exact hat _
    have hlen : ((List.range n.size.toNat).map (fun j => atV (u a) (wrap64 (n.rFirst k + wrap64 ((j : Nat) * gapV n))) (W a).toNat)).length = n.size.toNat := by simp
    generalize (List.range n.size.toNat).map (fun j => atV (u a) (wrap64 (n.rFirst k + wrap64 ((j : Nat) * gapV n))) (W a).toNat) = fs at *
    exact ⟨by omega, by unfold manyV; rw [if_pos hwin]; omega, hone fs (by omega) hm fun f h => (hf f h).1, fun f h => (hf f h).2, fun _ f h => (hf f h).1⟩
  · have hwin : rWin n.k = false := by simpa using hwin
    unfold Nd.rCount at k1
    rw [hwin, Bool.false_and, if_neg (by decide)] at k1
    unfold inpF
    rw [if_neg (by rw [hwin]; decide)]
    by_cases h5 : n.k = 5
    · have hm : rMany n.k = false := by rw [h5]; rfl
      obtain ⟨a, ha⟩ := hn.one_inn hm
      have hua := hu a (by rw [ha]; simp)
      have hWa : W (rd n.inn 0) = W a := by rw [ha]; rfl
      have hin : inF (n.inn.map u) 0 = u a := by rw [ha]; rfl
      rw [if_pos h5, hin]
      have hpos : 1 ≤ (u a).length := by
        rw [ha] at k1
        simp only [List.map_cons, List.map_nil] at k1
        rw [fewest1 (by omega)] at k1
        by_cases e : (u a).length = 0
        · rw [e] at k1; simp at k1; omega
        · omega
      have hul := hua.len
      exact ⟨by omega, by unfold manyV; rw [hwin, if_neg (by decide), h5, if_pos (by decide)], hone _ hpos hm fun f h => by rw [hWa]; exact hua.wid f h, hua.num, fun _ f h => by rw [hWa]; exact hua.wid f h⟩
    · rw [if_neg h5]
      rw [show (n.k == 5) = false by simpa using h5, Bool.false_and, if_neg (by decide)] at k1
      have hk : ∀ j ∈ n.inn, k < (u j).length := by
        rcases inn12 hn with ⟨a, ha⟩ | ⟨a, c, ha⟩
        · rw [ha] at k1 ⊢
          simp only [List.map_cons, List.map_nil] at k1
          rw [fewest1 (by omega)] at k1
          intro j hj
          obtain rfl := List.mem_singleton.1 hj
          exact k1
        · rw [ha] at k1 ⊢
          simp only [List.map_cons, List.map_nil] at k1
          rw [fewest2 (by omega) (by omega)] at k1
          intro j hj
          unfold mn at k1
          split at k1 <;> rcases List.mem_cons.1 hj with rfl | hj <;> (try obtain rfl := List.mem_singleton.1 hj) <;> omega
      have hmem : ∀ j ∈ n.inn, fr (u j) k ∈ u j := fun j hj => fr_mem k0 (hk j hj)
      have hml : ((n.inn.map u).map fun s => fr s k) = n.inn.map fun j => fr (u j) k := by rw [List.map_map]; rfl
      have hl1 := hn.l1
      have hl2 := hn.l2
      rw [hml]
      refine ⟨by rw [List.length_map]; omega, ?_, ?_, fun f hf => ?_, fun hm f hf => ?_⟩
      · unfold manyV
        rw [hwin, if_neg (by decide), show (n.k == 5) = false by simpa using h5, if_neg (by decide), List.length_map]
        cases hm : rMany n.k with
        | true => rfl
        | false =>
          obtain ⟨a, ha⟩ := hn.one_inn hm
          rw [ha]; rfl
      · cases hm : rMany n.k with
        | true =>
          unfold wdsV
          rw [if_pos hm, List.map_map]
          exact List.map_congr_left fun j hj => (hu j hj).wid _ (hmem j hj)
        | false =>
          refine hone _ (by rw [List.length_map]; omega) hm fun f hf => ?_
          obtain ⟨j, hj, rfl⟩ := List.mem_map.1 hf
          obtain ⟨a, ha⟩ := hn.one_inn hm
          have : j = rd n.inn 0 := by rw [ha] at hj ⊢; exact List.mem_singleton.1 hj
          rw [← this]
          exact (hu j hj).wid _ (hmem j hj)
      · obtain ⟨j, hj, rfl⟩ := List.mem_map.1 hf
        exact (hu j hj).num _ (hmem j hj)
      · obtain ⟨j, hj, rfl⟩ := List.mem_map.1 hf
        obtain ⟨a, ha⟩ := hn.one_inn hm
        have : j = rd n.inn 0 := by rw [ha] at hj ⊢; exact List.mem_singleton.1 hj
        rw [← this]
        exact (hu j hj).wid _ (hmem j hj)
/-- how many come -/
theorem NodeG.cnt {l : List Int} {b : Nat} (hb : b ≤ 4000) (hl : l.length = n.inn.length) (h : ∀ x ∈ l, 0 ≤ x ∧ x ≤ b) : 0 ≤ n.rCount l ∧ n.rCount l ≤ b + 10 := by
  have hw := hn.wf
  have hf : 0 ≤ fewestV l ∧ fewestV l ≤ b := by
    rcases inn12 hn with ⟨a, ha⟩ | ⟨a, c, ha⟩
    · rw [ha] at hl
      match l, hl with
      | [x], _ => have := h x (by simp); rw [fewest1 this.1]; exact this
    · rw [ha] at hl
      match l, hl with
      | [x, y], _ =>
        have h1 := h x (by simp)
        have h2 := h y (by simp)
        rw [fewest2 h1.1 h2.1]
        unfold mn
        split <;> omega
  have hr := hw.rt
  have hsp := hw.sp
  have hst := hw.st
  unfold Nd.rCount
  split
  · rw [w64 (x := fewestV l + n.rRight) (by omega) (by omega), hw.ends (by omega) (by omega)]
    split
    · omega
    · have hlf := hw.lf
      have d1 := Int.ediv_nonneg (a := fewestV l + n.rRight - 1 - (n.rSpan - 1 - n.rLeft)) (b := n.rStp) (by omega) (by omega)
      have d2 := Int.ediv_le_self (a := fewestV l + n.rRight - 1 - (n.rSpan - 1 - n.rLeft)) n.rStp (by omega)
      omega
  split
  · omega
  · omega
theorem NodeG.lens {u : Int → List (List Int)} {b : Nat} (hu : ∀ j ∈ n.inn, (u j).length ≤ b) : ((n.inn.map u).map fun s => (s.length : Int)).length = n.inn.length ∧ ∀ x ∈ (n.inn.map u).map (fun s => (s.length : Int)), 0 ≤ x ∧ x ≤ b := by
  refine ⟨by simp, fun x hx => ?_⟩
  obtain ⟨s, hs, rfl⟩ := List.mem_map.1 hx
  obtain ⟨j, hj, rfl⟩ := List.mem_map.1 hs
  have := hu j hj
  omega
theorem NodeG.sg {u : Int → List (List Int)} {b : Nat} (hb : b ≤ 4000) (hu : ∀ j ∈ n.inn, SG (W j) b (u j)) : SG (W i) (b + 10) (nodeF n (n.inn.map u) (W (rd n.inn 0)).toNat) := by
  obtain ⟨l1, l2⟩ := hn.lens (u := u) (b := b) fun j hj => (hu j hj).len
  have hc := hn.cnt hb l1 l2
  have key : ∀ f ∈ nodeF n (n.inn.map u) (W (rd n.inn 0)).toNat, (f.length : Int) = W i ∧ ∀ x ∈ f, in32 x := fun f hf => by
    unfold nodeF at hf
    obtain ⟨k, hk, rfl⟩ := List.mem_map.1 hf
    have hk := List.mem_range.1 hk
    exact (hn.ni (k := (k : Nat)) (by omega) hu (by omega) (by omega)).out hn
  refine ⟨fun f hf => (key f hf).1, fun f hf => (key f hf).2, ?_⟩
  unfold nodeF
  rw [List.length_map, List.length_range]
  omega
end
set_option maxRecDepth 100000
/-! a frame hangs on the frames of its reach alone -/
theorem GG.lo_eq {wd : Int} {ns : List Nd} {W R : Int → Int} {rk : Int → Nat} (h : GG wd ns W R rk) {R2 : List Int} : rd (loL ns R2) 0 = 0 ∧ ∀ i : Int, 1 ≤ i → i ≤ ns.length → rd (loL ns R2) i = loF ns R2 (rd (loL ns R2)) 0 i := by
  obtain ⟨a, b⟩ := h.ordL (d := (0 : Int)) (f := loF ns R2) loF_loc (List.replicate (ns.length + 1) 0) (by simp)
  have e : ∀ x : Int, ga (0 : Int) (List.replicate (ns.length + 1) 0) x = 0 := fun x => by
    unfold ga
    rw [List.getD_eq_getElem?_getD, List.getElem?_replicate]
    split <;> rfl
  refine ⟨?_, fun i i1 i2 => ?_⟩
  · rw [e] at a; exact a
  · have := b i i1 i2
    rw [e] at this
    exact this
theorem least1 (a : Int) : leastL [a] = a := by
  unfold leastL
  simp [mn, rd]
theorem least2 (a b : Int) : leastL [a, b] = mn a b := by
  unfold leastL
  simp [mn, rd]
theorem fr_out {s : List (List Int)} {k : Int} (h : (s.length : Int) ≤ k) : fr s k = [] := by
  unfold fr
  rw [List.getD_eq_getElem?_getD, List.getElem?_eq_none (by omega)]; rfl
theorem fr_range {C : Nat} {g : Nat → List Int} {k : Int} (h0 : 0 ≤ k) (h1 : k < C) : fr ((List.range C).map g) k = g k.toNat := by
  unfold fr
  rw [List.getD_eq_getElem?_getD, List.getElem?_map, List.getElem?_range (by omega)]; rfl
theorem inpF_win {n : Nd} {w : Nat} {a b : List (List Int)} {k : Int} (hwin : rWin n.k = true) (hl : a.length = b.length) (h : ∀ j : Nat, j < n.size.toNat → ∀ t : Int, t = wrap64 (n.rFirst k + wrap64 ((j : Nat) * gapV n)) → 0 ≤ t → t < a.length → fr a t = fr b t) :
    inpF n [a] w k = inpF n [b] w k := by
  unfold inpF
  rw [if_pos hwin, if_pos hwin]
  refine List.map_congr_left fun j hj => ?_
  have hj := List.mem_range.1 hj
  have hin : ∀ x : List (List Int), inF [x] 0 = x := fun x => rfl
  rw [hin, hin]
  generalize ht : wrap64 (n.rFirst k + wrap64 ((j : Nat) * gapV n)) = t
  have := h j hj t ht.symm
  unfold atV
  rw [hl]
  split
  · rfl
  · exact this (by omega) (by omega)
/-- where a window's frames stand -/
theorem win_at {n : Nd} {v : Int} (hs : n.sized v = true) (hw : WF n) (hwin : rWin n.k = true) {k : Int} (k0 : 0 ≤ k) (k1 : k ≤ 1000000) {j : Nat} (hj : j < n.size.toNat) :
    ∃ m : Int, wrap64 (n.rFirst k + wrap64 ((j : Nat) * gapV n)) = k * n.rStp - n.rLeft + m ∧ 0 ≤ m ∧ m ≤ n.rSpan - 1 := by
  have hsz := win_size hs hwin
  have hst := hw.st
  have hsp := hw.sp
  have hlf := hw.lf
  have m1 := mul_le k 1000000 n.rStp 3 k0 k1 (by omega) hst.2
  have hm : ∃ m : Int, wrap64 ((j : Nat) * gapV n) = m ∧ 0 ≤ m ∧ m ≤ n.rSpan - 1 := by
    by_cases h12 : n.k = 12
    · have e1 : gapV n = 1 := by unfold gapV; rw [h12]; rfl
      have e2 : n.rSpan = n.size := by unfold Nd.rSpan; rw [h12]; rfl
      rw [e1, Int.mul_one, e2, w64 (by omega) (by omega)]
      exact ⟨_, rfl, by omega, by omega⟩
    · have hb12 : (n.k == 12) = false := by simpa using h12
      have h4 : rFour n.k = true := by
        rw [rWin_four, hb12, Bool.or_false] at hwin; exact hwin
      have e1 : gapV n = n.gap := by unfold gapV; rw [hb12]; rfl
      have h8 : n.s8 = false := by
        unfold Nd.sized at hs
        cases e : n.s8 with
        | false => rfl
        | true => rw [e] at hs; simp at hs
      unfold Nd.s8 at h8
      rw [h4] at h8
      simp only [Bool.true_and, Bool.or_eq_false_iff, Bool.not_eq_false', inB_iff] at h8
      have hg := h8.2
      have m2 := mul_le (n.size - 1) 7 n.gap 4 (by omega) (by omega) (by omega) hg.2
      have e2 : n.rSpan = (n.size - 1) * n.gap + 1 := by
        unfold Nd.rSpan
        rw [hb12, hwin, if_neg (by decide), if_neg (by decide), w64 (x := n.size - 1) (by omega) (by omega), w64 (x := (n.size - 1) * n.gap) (by omega) (by omega), w64 (by omega) (by omega)]
      have m3 := mul_le (j : Int) (n.size - 1) n.gap n.gap (by omega) (by omega) (by omega) (by omega)
      rw [e1, e2, w64 (by omega) (by omega)]
      exact ⟨_, rfl, by omega, by omega⟩
  obtain ⟨m, e, h0, h1⟩ := hm
  refine ⟨m, ?_, h0, h1⟩
  rw [e]
  unfold Nd.rFirst
  rw [w64 (x := k * n.rStp) (by omega) (by omega), w64 (x := k * n.rStp - n.rLeft) (by omega) (by omega), w64 (by omega) (by omega)]
/-- the frames of all nodes, as they go along -/
structure FX (ns : List Nd) (W2 : List Int) (A : Int → List (List Int)) : Prop where
  fx : ∀ i : Int, 1 ≤ i → i ≤ ns.length → A i = frF ns W2 A i
  le : ∀ i : Int, 0 ≤ i → i ≤ ns.length → (A i).length ≤ 65536
section
variable {wd lo hi out : Int} {ns : List Nd} {W R : Int → Int} {rk : Int → Nat} {W2 R2 : List Int} (h : GF wd lo hi out ns W R rk W2 R2)
include h
theorem GF.reach {A B : Int → List (List Int)} (hA : FX ns W2 A) (hB : FX ns W2 B) (h0 : (A 0).length = (B 0).length) : ∀ (r : Nat), r ≤ 12 → ∀ i : Int, 0 ≤ i → i ≤ ns.length → rk i ≤ r → (A i).length = (B i).length ∧
    (0 < R i → (-(r * 10000000) ≤ rd (loL ns R2) i ∧ rd (loL ns R2) i ≤ 0) ∧ ∀ k : Int, 0 ≤ k → (∀ t : Int, 0 ≤ t → t < (A 0).length → k * R i + rd (loL ns R2) i ≤ t → t ≤ k * R i + rd (hiL ns R2) i → fr (A 0) t = fr (B 0) t) → fr (A i) k = fr (B i) k)
  | r, hr, i, i0, i1, hk => by
    obtain ⟨u0, u⟩ := h.gg.lo_eq (R2 := R2)
    obtain ⟨v0, v⟩ := h.gg.hi_eq (fun x a b => (h.eq x a b).2)
    rcases Int.lt_or_le 0 i with i2 | i2
    · have hn := (h.gg.node i i2 i1).1
      have hw := hn.wf
      obtain ⟨e, hst⟩ := hn.rate_v
      have hu := u i i2 i1
      have hv := v i i2 i1
      have hRi := (h.eq i i0 i1).2
      have hin := hn.inn
      have fA := hA.fx i i2 i1
      have fB := hB.fx i i2 i1
      have lA := hA.le i i0 i1
      match r, hr, hk with
      | 0, _, hk =>
        have := hin _ (rd_mem (l := (nd ns (i - 1)).inn) (j := 0) (by omega) (by have := hn.l1; omega))
        omega
      | r + 1, hr, hk =>
        have ih : ∀ j ∈ (nd ns (i - 1)).inn, (A j).length = (B j).length ∧ (0 < R j → (-(r * 10000000) ≤ rd (loL ns R2) j ∧ rd (loL ns R2) j ≤ 0) ∧ ∀ k : Int, 0 ≤ k → (∀ t : Int, 0 ≤ t → t < (A 0).length → k * R j + rd (loL ns R2) j ≤ t → t ≤ k * R j + rd (hiL ns R2) j → fr (A 0) t = fr (B 0) t) → fr (A j) k = fr (B j) k) := fun j hj => by
          have := hin j hj
          exact GF.reach hA hB h0 r (by omega) j this.1 this.2.1 (by omega)
        have hRj : ∀ j ∈ (nd ns (i - 1)).inn, (0 ≤ R j ∧ R j ≤ 531441) ∧ (0 < R j → 0 ≤ rd (hiL ns R2) j ∧ rd (hiL ns R2) j ≤ 120000000) := fun j hj => by
          have := hin j hj
          have h1 := h.wants (N := 0) (by omega) j this.1 this.2.1
          rw [(h.eq j this.1 this.2.1).2] at h1
          exact ⟨h1.1, h1.2.1⟩
        have hj0 := rd_mem (l := (nd ns (i - 1)).inn) (j := 0) (by omega) (by have := hn.l1; omega)
        have hsame := fun j hj => hn.same j hj _ hj0
        have h12 := inn12 hn
        obtain ⟨_, _, _, _, hs, _⟩ := rchk_unpack hn.chk
        have hR0 : rd R2 (rd (nd ns (i - 1)).inn 0) = R (rd (nd ns (i - 1)).inn 0) := by
          have := hin _ hj0
          exact (h.eq _ this.1 this.2.1).2
        have hlen : ((nd ns (i - 1)).inn.map A).map (fun s => (s.length : Int)) = ((nd ns (i - 1)).inn.map B).map (fun s => (s.length : Int)) := by
          rw [List.map_map, List.map_map]
          exact List.map_congr_left fun j hj => by
            have := (ih j hj).1
            show ((A j).length : Int) = (B j).length
            rw [this]
        unfold frF at fA fB
        unfold loF at hu
        unfold hiF at hv
        rw [hRi, hR0] at hu hv
        clear u v u0 v0 hin hR0 hRi
        generalize nd ns (i - 1) = n at *
        generalize (rd W2 (rd n.inn 0)).toNat = w at *
        unfold nodeF at fA fB
        rw [← hlen] at fB
        generalize hC : n.rCount ((n.inn.map A).map fun s => (s.length : Int)) = C at *
        have hlA : (A i).length = C.toNat := by rw [fA]; simp
        have hlB : (B i).length = C.toNat := by rw [fB]; simp
        refine ⟨by omega, fun hp => ?_⟩
        generalize hra : R (rd n.inn 0) = ra at *
        have hr0 := hRj _ hj0
        rw [hra] at hr0
        have k5 : n.k ≠ 5 := fun e5 => by
          rw [e5] at e
          have e : R i = 0 := e
          omega
        rw [if_neg (by simpa using k5)] at e
        have mm := mul_le ra 531441 n.rStp 3 hr0.1.1 hr0.1.2 (by have := hw.st; omega) hw.st.2
        rw [w64 (x := ra * n.rStp) (by omega) (by omega)] at e
        have hpa : 0 < ra := by
          rcases Int.lt_or_le 0 ra with h | h
          · exact h
          · have : ra = 0 := by omega
            rw [this, Int.zero_mul] at e; omega
        have hl := hw.lf
        have hsp := hw.sp
        have hst2 := hw.st
        rw [if_neg (by simp; omega)] at hu hv
        have ml := mul_le ra 531441 n.rLeft 9 hr0.1.1 hr0.1.2 hl.1 (by omega)
        have mh := mul_le ra 531441 (n.rSpan - 1 - n.rLeft) 9 hr0.1.1 hr0.1.2 (by omega) (by omega)
        have hlo : ∀ j ∈ n.inn, leastL (n.inn.map (rd (loL ns R2))) ≤ rd (loL ns R2) j := by
          rcases h12 with ⟨a, ea⟩ | ⟨a, b, ea⟩
          · rw [ea]; intro j hj; obtain rfl := List.mem_singleton.1 hj
            simp only [List.map_cons, List.map_nil, least1]; omega
          · rw [ea]; intro j hj
            simp only [List.map_cons, List.map_nil, least2]
            unfold mn
            split <;> rcases List.mem_cons.1 hj with rfl | hj <;> (try obtain rfl := List.mem_singleton.1 hj) <;> omega
        have hhi : ∀ j ∈ n.inn, rd (hiL ns R2) j ≤ mostL (n.inn.map (rd (hiL ns R2))) := by
          rcases h12 with ⟨a, ea⟩ | ⟨a, b, ea⟩
          · rw [ea]; intro j hj; obtain rfl := List.mem_singleton.1 hj
            simp only [List.map_cons, List.map_nil, most1]; omega
          · rw [ea]; intro j hj
            simp only [List.map_cons, List.map_nil, most2]
            unfold mx
            split <;> rcases List.mem_cons.1 hj with rfl | hj <;> (try obtain rfl := List.mem_singleton.1 hj) <;> omega
        have hlm : -(r * 10000000) ≤ leastL (n.inn.map (rd (loL ns R2))) ∧ leastL (n.inn.map (rd (loL ns R2))) ≤ 0 := by
          have hb : ∀ j ∈ n.inn, -(r * 10000000) ≤ rd (loL ns R2) j ∧ rd (loL ns R2) j ≤ 0 := fun j hj => ((ih j hj).2 (by rw [hsame j hj]; omega)).1
          rcases h12 with ⟨a, ea⟩ | ⟨a, b, ea⟩
          · rw [ea] at hb ⊢
            have := hb a (by simp)
            simp only [List.map_cons, List.map_nil, least1]; omega
          · rw [ea] at hb ⊢
            have := hb a (by simp)
            have := hb b (by simp)
            simp only [List.map_cons, List.map_nil, least2]
            unfold mn
            split <;> omega
        have hhm : 0 ≤ mostL (n.inn.map (rd (hiL ns R2))) ∧ mostL (n.inn.map (rd (hiL ns R2))) ≤ 120000000 := by
          have hb : ∀ j ∈ n.inn, 0 ≤ rd (hiL ns R2) j ∧ rd (hiL ns R2) j ≤ 120000000 := fun j hj => (hRj j hj).2 (by rw [hsame j hj]; omega)
          rcases h12 with ⟨a, ea⟩ | ⟨a, b, ea⟩
          · rw [ea] at hb ⊢
            have := hb a (by simp)
            simp only [List.map_cons, List.map_nil, most1]; omega
          · rw [ea] at hb ⊢
            have := hb a (by simp)
            have := hb b (by simp)
            simp only [List.map_cons, List.map_nil, most2]
            unfold mx
            split <;> omega
        generalize leastL (n.inn.map (rd (loL ns R2))) = L at *
        generalize mostL (n.inn.map (rd (hiL ns R2))) = H at *
        rw [w64 (x := ra * n.rLeft) (by omega) (by omega), w64 (by omega) (by omega)] at hu
        rw [w64 (x := n.rSpan - 1) (by omega) (by omega), w64 (x := n.rSpan - 1 - n.rLeft) (by omega) (by omega), w64 (x := ra * _) (by omega) (by omega), w64 (by omega) (by omega)] at hv
        refine ⟨⟨by simp only [Int.natCast_add]; omega, by omega⟩, fun k k0 hf => ?_⟩
        rcases Int.lt_or_le k C with hkC | hkC
        · have key : inpF n (n.inn.map A) w k = inpF n (n.inn.map B) w k := by
            rw [hu, hv, e] at hf
            by_cases hwin : rWin n.k = true
            · have hm : rMany n.k = false := by
                unfold rWin at hwin; unfold rMany
                simp only [Bool.or_eq_true, beq_iff_eq] at hwin
                simp only [Bool.or_eq_false_iff, beq_eq_false_iff_ne]
                omega
              obtain ⟨a, ha⟩ := hn.one_inn hm
              have iha := ih a (by rw [ha]; simp)
              have hsa := hsame a (by rw [ha]; simp)
              have hla := hlo a (by rw [ha]; simp)
              have hha := hhi a (by rw [ha]; simp)
              rw [ha]
              refine inpF_win hwin iha.1 fun j hj t ht t0 t1 => ?_
              obtain ⟨m, hm1, hm2, hm3⟩ := win_at hs hw hwin k0 (by omega) hj
              rw [hm1] at ht
              have p1 := mul_le ra ra m (n.rSpan - 1) (by omega) (Int.le_refl _) hm2 hm3
              have p2 : ra * (n.rSpan - 1 - n.rLeft) = ra * (n.rSpan - 1) - ra * n.rLeft := Int.mul_sub ..
              have p3 : t * ra = k * (ra * n.rStp) - ra * n.rLeft + ra * m := by
                rw [ht, Int.add_mul, Int.sub_mul, Int.mul_assoc, Int.mul_comm n.rStp, Int.mul_comm n.rLeft, Int.mul_comm m]
              refine (iha.2 (by omega)).2 t t0 fun t' a1 a2 a3 a4 => hf t' a1 a2 ?_ ?_
              · rw [hsa, p3] at a3; omega
              · rw [hsa, p3] at a4; omega
            · have hwin : rWin n.k = false := by simpa using hwin
              obtain ⟨o1, o2, o3, _⟩ := hw.one hwin
              rw [o1, o2, o3, Int.mul_one, show (1 : Int) - 1 - 0 = 0 by decide, Int.mul_zero] at hf
              have hX : ∀ X, inpF n X w k = X.map fun s => fr s k := fun X => by
                unfold inpF
                rw [if_neg (by rw [hwin]; decide), if_neg k5]
              rw [hX, hX, List.map_map, List.map_map]
              refine List.map_congr_left fun j hj => ?_
              have ihj := ih j hj
              have hsa := hsame j hj
              have hla := hlo j hj
              have hha := hhi j hj
              refine (ihj.2 (by omega)).2 k k0 fun t' a1 a2 a3 a4 => hf t' a1 a2 ?_ ?_
              · rw [hsa] at a3; omega
              · rw [hsa] at a4; omega
          rw [fA, fB, fr_range k0 (by omega), fr_range k0 (by omega), Int.toNat_of_nonneg k0, key]
        · rw [fr_out (by omega), fr_out (by omega)]
    · obtain rfl : i = 0 := by omega
      rw [h.gg.R0, u0, v0]
      refine ⟨h0, fun _ => ⟨by omega, fun k k0 hf => ?_⟩⟩
      rcases Int.lt_or_le k (A 0).length with hkl | hkl
      · exact hf k k0 hkl (by omega) (by omega)
      · rw [fr_out hkl, fr_out (by omega)]
end
/-! frames of a graph's input -/
structure Fin18 (wd lo hi many : Int) (fs : List (List Int)) : Prop where
  len : (fs.length : Int) = many
  wid : ∀ f ∈ fs, (f.length : Int) = wd
  num : ∀ f ∈ fs, ∀ x ∈ f, lo ≤ x ∧ x ≤ hi
theorem num18 {lo hi x i : Int} (h : lo ≤ hi) (hl : -32768 ≤ lo ∧ hi ≤ 32767) (hi0 : 0 ≤ i ∧ i ≤ 1000) : lo ≤ wrap64 (lo + Int.tmod (wrap64 (wrap64 (Int.tmod x (wrap64 (wrap64 (hi - lo) + 1)) + wrap64 (wrap64 (hi - lo) + 1)) + i)) (wrap64 (wrap64 (hi - lo) + 1))) ∧ wrap64 (lo + Int.tmod (wrap64 (wrap64 (Int.tmod x (wrap64 (wrap64 (hi - lo) + 1)) + wrap64 (wrap64 (hi - lo) + 1)) + i)) (wrap64 (wrap64 (hi - lo) + 1))) ≤ hi := by
  rw [w64 (x := hi - lo) (by omega) (by omega), w64 (x := hi - lo + 1) (by omega) (by omega)]
  have h1 := Int.lt_tmod_of_pos x (show 0 < hi - lo + 1 by omega)
  have h2 := Int.tmod_lt_of_pos x (show 0 < hi - lo + 1 by omega)
  generalize Int.tmod x (hi - lo + 1) = y at *
  rw [w64 (x := y + (hi - lo + 1)) (by omega) (by omega), w64 (x := y + (hi - lo + 1) + i) (by omega) (by omega)]
  have h3 := Int.tmod_nonneg (hi - lo + 1) (show 0 ≤ y + (hi - lo + 1) + i by omega)
  have h4 := Int.tmod_lt_of_pos (y + (hi - lo + 1) + i) (show 0 < hi - lo + 1 by omega)
  generalize Int.tmod (y + (hi - lo + 1) + i) (hi - lo + 1) = z at *
  rw [w64 (by omega) (by omega)]
  omega
theorem Made18_c {T : World → Prop} (Tm : TP T) (wd lo hi out many : Int) (ns : List Nd) (xs : List Int) (hwd : 1 ≤ wd ∧ wd ≤ 16) (hlh : lo ≤ hi) (hl : -32768 ≤ lo ∧ hi ≤ 32767) (hm : 0 ≤ many ∧ many ≤ 1000) :
    Cg Go.Proofs.Tryd.prog T 14 [] [.agg (gcs wd lo hi out (.d (rowN ns))), .d (.i .i64 many), .d (.row [.i .i64 0] (xs.map intC))] (fun r H => H = [] ∧ ∃ fs, Fin18 wd lo hi many fs ∧ r = .d (frD fs)) := by
  refine Cg_of [] Tm Go.Proofs.Tryd.func14 rfl rfl Go.Proofs.Tryd.ntmps14 (by simp) rfl (rs := [.tmp 6]) rfl fun E hP hn hT hpn => ?_
  (repeat (first | refine TS.imp ?_ | refine n9 (by decide) ?_))
  refine TR.imp ?_; intro K hK; simp only [go_sem, hP, hn]; (repeat refine vc ?_); refine hK _ ?_; clear K hK
  (repeat (first | refine TS.imp ?_ | refine n9 (by decide) ?_))
  refine TR.imp ?_; intro K hK; simp only [go_sem, hP, hn]; (repeat refine vc ?_); refine hK _ ?_; clear K hK
  (repeat (first | refine TS.imp ?_ | refine n9 (by decide) ?_))
  refine TR.imp ?_; intro K hK; simp only [go_sem, hP, hn]; (repeat refine vc ?_); refine hK _ ?_; clear K hK
  (repeat (first | refine TS.imp ?_ | refine n9 (by decide) ?_))
  refine Tr.le (Le.nilslot 3007 7 22 [.nil] rfl (by rw [hpn] <;> rfl) rfl rfl) ?_
  simp only [go_sem, hP, hn]
  refine Tr.loop (fun q s => ∃ (i : Int) (F : List (List Int)), s = ⟨[(1, .d (.i .i64 many)), (2, .d (.row [.i .i64 0] (xs.map intC))), (3, .ptr 3 0), (7, .own 3007), (8, .d (.i .i64 i))], [(3, .box 26 (gcs wd lo hi out (.d (rowN ns)))), (3007, .row 22 [.nil] (F.map frE))]⟩ ∧ 0 ≤ i ∧ i + q = many ∧ Fin18 wd lo hi i F) many.toNat ⟨_, ?_, 0, [], rfl, by omega, by omega, ⟨rfl, by simp, by simp⟩⟩ ?_
  · exact (Le.mv (by simp only [go_sem, hP, hn]; first | done | (simp; done) | (simp [intC]; done) | (repeat (first | rfl | constructor))) (by simp only [go_sem, hP, hn]; first | done | (simp; done) | (simp [intC]; done) | (repeat (first | rfl | constructor))))
  rintro q s ⟨i, F, rfl, i0, iq, hF⟩
  (repeat (first | refine TS.imp ?_ | refine n9 (by decide) ?_))
  refine TR.imp ?_; intro K hK; simp only [go_sem, hP, hn]; (repeat refine vc ?_); refine hK _ ?_; clear K hK
  (repeat (first | refine TS.imp ?_ | refine n9 (by decide) ?_))
  refine Tr.cond rfl (fun hb => ?_) (fun hb => ?_)
  · have hi1 : i < many := of_decide_eq_true hb
    clear hb
    have w1 : wrap64 (i + 1) = i + 1 := w64 (by omega) (by omega)
    have hF0 := hF.len
    (repeat (first | refine TS.imp ?_ | refine n9 (by decide) ?_))
    refine TR.imp ?_; intro K hK; simp only [go_sem, hP, hn]; (repeat refine vc ?_); refine hK _ ?_; clear K hK
    (repeat (first | refine TS.imp ?_ | refine n9 (by decide) ?_))
    refine TR.imp ?_; intro K hK; simp only [go_sem, hP, hn]; (repeat refine vc ?_); refine hK _ ?_; clear K hK
    (repeat (first | refine TS.imp ?_ | refine n9 (by decide) ?_))
    refine Tr.loop (fun p s => ∃ (k : Int) (f : List Int), s = ⟨[(1, .d (.i .i64 many)), (2, .d (.row [.i .i64 0] (xs.map intC))), (3, .ptr 3 0), (7, .own 3007), (8, .d (.i .i64 i)), (9, .own 19), (10, .d (.i .i64 k))], [(3, .box 26 (gcs wd lo hi out (.d (rowN ns)))), (3007, .row 22 [.nil] (F.map frE)), (19, .row 3 [.i .i64 0] (f.map intC))]⟩ ∧ 0 ≤ k ∧ k + p = wd ∧ (f.length : Int) = wd ∧ ∀ x ∈ f.take k.toNat, lo ≤ x ∧ x ≤ hi) wd.toNat ⟨_, (Le.mv (by simp only [go_sem, hP, hn]; first | done | (simp; done) | (simp [intC]; done) | (repeat (first | rfl | constructor))) (by simp only [go_sem, hP, hn]; first | done | (simp; done) | (simp [intC]; done) | (repeat (first | rfl | constructor)))), 0, List.replicate wd.toNat 0, rfl, by omega, by omega, by simp; omega, by simp⟩ ?_
    rintro p s ⟨k, f, rfl, k0, kp, hf, hft⟩
    (repeat (first | refine TS.imp ?_ | refine n9 (by decide) ?_))
    refine TR.imp ?_; intro K hK; simp only [go_sem, hP, hn]; (repeat refine vc ?_); refine hK _ ?_; clear K hK
    (repeat (first | refine TS.imp ?_ | refine n9 (by decide) ?_))
    refine Tr.cond rfl (fun hc => ?_) (fun hc => ?_)
    · have hk1 : k < wd := of_decide_eq_true hc
      clear hc
      have w2 : wrap64 (k + 1) = k + 1 := w64 (by omega) (by omega)
      (repeat (first | refine TS.imp ?_ | refine n9 (by decide) ?_))
      refine TR.imp ?_; intro K hK; simp only [go_sem, hP, hn]; (repeat refine vc ?_); refine hK _ ?_; clear K hK
      (repeat (first | refine TS.imp ?_ | refine n9 (by decide) ?_))
      refine TR.imp ?_; intro K hK; simp only [go_sem, hP, hn]; (repeat refine vc ?_); refine hK _ ?_; clear K hK
      (repeat (first | refine TS.imp ?_ | refine n9 (by decide) ?_))
      have hfin : ∀ (g : List Int) (v : Int), (g.length : Int) = wd → g.take k.toNat = f.take k.toNat → lo ≤ v ∧ v ≤ hi → ∀ x ∈ (g.set k.toNat v).take (k + 1).toNat, lo ≤ x ∧ x ≤ hi := fun g v hg ht hv x hx => by
        rw [take_set k0 (by omega), ht] at hx
        rcases List.mem_append.1 hx with hx | hx
        · exact hft x hx
        · obtain rfl : x = v := by simpa using hx
          exact hv
      refine Tr.cond rfl (fun hd => ?_) (fun hd => ?_)
      · have hx : 0 < xs.length := by simpa using hd
        clear hd
        have g1 : wrap64 (i * wd) = i * wd := by
          have : i * wd ≤ 1000 * 16 := Int.mul_le_mul (by omega) (by omega) (by omega) (by omega)
          have : 0 ≤ i * wd := Int.mul_nonneg i0 (by omega)
          exact w64 (by omega) (by omega)
        have g0 : 0 ≤ i * wd := Int.mul_nonneg i0 (by omega)
        have g2 : i * wd ≤ 1000 * 16 := Int.mul_le_mul (by omega) (by omega) (by omega) (by omega)
        have g3 : wrap64 (i * wd + k) = i * wd + k := w64 (by omega) (by omega)
        have g4 := Int.tmod_nonneg (xs.length : Int) (show 0 ≤ i * wd + k by omega)
        have g5 := Int.tmod_lt_of_pos (i * wd + k) (show (0 : Int) < xs.length by omega)
        have g6 : wrap64 (wrap64 (hi - lo) + 1) ≠ 0 := by rw [w64 (x := hi - lo) (by omega) (by omega), w64 (by omega) (by omega)]; omega
        (repeat (first | refine TS.imp ?_ | refine n9 (by decide) ?_))
        refine TR.imp ?_; intro K hK; simp only [go_sem, hP, hn]; (repeat refine vc ?_); refine hK _ ?_; clear K hK
        (repeat (first | refine TS.imp ?_ | refine n9 (by decide) ?_))
        refine Tr.le (Le.keep [1, 2, 3, 7, 8, 9, 10, 11]) ?_; simp only [List.map_cons, List.map_nil, lk, Nat.reduceEqDiff, reduceIte]
        (repeat (first | refine TS.imp ?_ | refine n9 (by decide) ?_))
        refine d5 (.p true 0 (.p true 1 (.p true 2 (.p true 3 (.p true 4 (.p true 5 (.p true 6 (.p true 7 (.p true 8 (.p true 9 (.p true 10 (.p true 11 (.p true 12 (.p true 13 (.p true 14 (.p true 15 (.p true 16 (.p true 17 (.p true 18 (.p true 19 (.p true 20 (.p true 21 (.p true 22 (.p true 23 (.p true 24 (.p true 25 (.alt 26 .nil .nil))))))))))))))))))))))))))) [19] (by rw [hP]; kernel_rfl) (by kernel_rfl) (by simp only [go_sem, hP, hn]; try simp) (by exact fun _ _ h => h) ?_; intro K hK; simp only [go_sem, hP, hn]
        simp only [g1, g3]
        have hnum := num18 (x := rd xs (Int.tmod (i * wd + k) xs.length)) hlh hl (show 0 ≤ i ∧ i ≤ 1000 by omega)
        generalize wrap64 (wrap64 (hi - lo) + 1) = m at *
        generalize Int.tmod (i * wd + k) xs.length = ix at *
        clear g1 g2 g3 g0
        have k2 : k.toNat < f.length := by omega
        simp only [List.length_set]
        (repeat (refine ⟨by first | trivial | omega, ?_⟩))
        refine hK _ ?_; clear K hK
        (repeat (first | refine TS.imp ?_ | refine n9 (by decide) ?_))
        refine TR.imp ?_; intro K hK; simp only [w2, go_sem, hP, hn]; (repeat refine vc ?_); refine hK _ ?_; clear K hK
        (repeat (first | refine TS.imp ?_ | refine n9 (by decide) ?_))
        exact ⟨p - 1, _, by omega, (Le.mv (by simp only [go_sem, hP, hn]; first | done | (simp; done) | (simp [intC]; done) | (repeat (first | rfl | constructor))) (by simp only [go_sem, hP, hn]; first | done | (simp; done) | (simp [intC]; done) | (repeat (first | rfl | constructor)))), k + 1, _, rfl, by omega, by omega, by simp [hf], hfin (f.set k.toNat lo) _ (by simp [hf]) (by rw [List.take_set_of_le (Nat.le_refl _)]) hnum⟩
      · (repeat (first | refine TS.imp ?_ | refine n9 (by decide) ?_))
        refine TR.imp ?_; intro K hK; simp only [w2, go_sem, hP, hn]; (repeat refine vc ?_); refine hK _ ?_; clear K hK
        (repeat (first | refine TS.imp ?_ | refine n9 (by decide) ?_))
        exact ⟨p - 1, _, by omega, (Le.mv (by simp only [go_sem, hP, hn]; first | done | (simp; done) | (simp [intC]; done) | (repeat (first | rfl | constructor))) (by simp only [go_sem, hP, hn]; first | done | (simp; done) | (simp [intC]; done) | (repeat (first | rfl | constructor)))), k + 1, _, rfl, by omega, by omega, by simp [hf], hfin f lo hf rfl ⟨Int.le_refl _, hlh⟩⟩
    · have hk : k = wd := by have := of_decide_eq_false hc; omega
      clear hc
      rw [List.take_of_length_le (by omega)] at hft
      (repeat (first | refine TS.imp ?_ | refine n9 (by decide) ?_))
      refine TR.imp ?_; intro K hK; simp only [go_sem, hP, hn]; (repeat refine vc ?_); refine hK _ ?_; clear K hK
      (repeat (first | refine TS.imp ?_ | refine n9 (by decide) ?_))
      refine TR.imp ?_; intro K hK; simp only [w1, go_sem, hP, hn]; (repeat refine vc ?_); refine hK _ ?_; clear K hK
      (repeat (first | refine TS.imp ?_ | refine n9 (by decide) ?_))
      refine ⟨q - 1, _, by omega, ?_, i + 1, F ++ [f], rfl, by omega, by omega, ⟨by simp; omega, fun g hg => ?_, fun g hg => ?_⟩⟩
      · refine Le.trans (b := ⟨[(1, .d (.i .i64 many)), (2, .d (.row [.i .i64 0] (xs.map intC))), (3, .ptr 3 0), (7, .own 69), (8, .d (.i .i64 (i + 1)))], [(3, .box 26 (gcs wd lo hi out (.d (rowN ns)))), (69, .row 22 [.nil] ((F ++ [f]).map frE))]⟩) ?_ ?_
        · rw [List.map_append (l₁ := F)]
          exact (Le.mv (by simp only [go_sem, hP, hn]; first | done | (simp; done) | (simp [intC]; done) | (repeat (first | rfl | constructor))) (by simp only [go_sem, hP, hn]; first | done | (simp; done) | (simp [intC]; done) | (repeat (first | rfl | constructor))))
        refine Le.trans (Le.ren 69 3007 (by rw [hpn] <;> rfl) rfl rfl) ?_; simp only [renT, renH, renO, renS, renL, rn, go_sem, hP, hn]
        exact Le.refl _
      · rcases List.mem_append.1 hg with hg | hg
        · exact hF.wid g hg
        · obtain rfl : g = f := by simpa using hg
          exact hf
      · rcases List.mem_append.1 hg with hg | hg
        · exact hF.num g hg
        · obtain rfl : g = f := by simpa using hg
          exact hft
  have hi1 : i = many := by have := of_decide_eq_false hb; omega
  subst hi1
  clear hb
  (repeat (first | refine TS.imp ?_ | refine n9 (by decide) ?_))
  refine TR.imp ?_; intro K hK; simp only [go_sem, hP, hn]; (repeat refine vc ?_); refine hK _ ?_; clear K hK
  (repeat (first | refine TS.imp ?_ | refine n9 (by decide) ?_))
  simp only [RetG, go_sem]; (repeat with_reducible refine vc ?_)
  exact ⟨F, hF, rfl⟩
section
attribute [local go_sem] rtup frD insD
end
/-! the document's sat and round, over words -/
section
attribute [local go_sem] frD
end
section
attribute [local go_sem] frD
theorem KOk.wm {n : Nd} {fs : List (List Int)} {w : Nat} (h : KOk n fs w) (hw : rWin n.k = true) : rMany n.k = false := by
  unfold rWin at hw
  unfold rMany
  simp only [Bool.or_eq_true, beq_iff_eq] at hw
  simp only [Bool.or_eq_false_iff, beq_eq_false_iff_ne]
  omega
theorem KOk.may {n : Nd} {fs : List (List Int)} {w : Nat} (h : KOk n fs w) : (rWin n.k && (fs.length : Int) != n.size || n.k == 5 && decide ((fs.length : Int) < 1) || rMany n.k && (fs.length : Int) != (n.inn.length : Int) || !rWin n.k && !rMany n.k && n.k != 5 && (fs.length : Int) != 1) = false := by
  have q1 : decide ((fs.length : Int) < 1) = false := by have := h.m0; simp; omega
  rw [q1]
  cases hA : rWin n.k with
  | true => rw [h.win hA, h.wm hA]; simp
  | false =>
    cases hB : rMany n.k with
    | true => rw [h.many hB]; simp
    | false =>
      by_cases h5 : n.k = 5
      · simp [h5]
      · rw [h.one hA hB h5]; simp
end
section
attribute [local go_sem] frD
def J3 (n : Nd) (fs : List (List Int)) (w : Nat) (c j k x : Int) (L : List Int) : St := ⟨[(1, .d (frD fs)), (2, .ptr 2 0), (5, .d (.i .i64 w)), (6, .own 3001), (7, .d (.i .i64 c)), (8, .d (.i .i64 x)), (9, .d (.i .i64 j)), (10, .d (.i .i64 k))], [(2, .box 50 n.cs), (3001, .row 3 [.i .i64 0] (L.map intC))]⟩
attribute [local go_sem] J3
end
section
attribute [local go_sem] frD
def gV (n : Nd) (xs : List Int) : Int :=
  if n.k = 3 ∨ n.k = 5 then rd xs (mostV xs)
  else if n.k = 4 ∨ n.k = 12 then meanV xs
  else if n.k = 7 then addV xs
  else if n.k = 9 then clampV (rd xs 0) n.low n.high
  else if n.k = 10 then scaleV (rd xs 0) n.mult n.shift
  else rd xs 0
end
section
attribute [local go_sem] frD
end
section
attribute [local go_sem] frD
end
set_option maxRecDepth 100000
/-! all frames of a made graph's nodes -/
def strL (ns : List Nd) (W : List Int) (fs : List (List Int)) : List (List (List Int)) := ordL [] (fun u _ i => frF ns W u i) (order ns) (fs :: List.replicate ns.length [])
theorem strL_len (ns : List Nd) (W : List Int) (fs : List (List Int)) : (strL ns W fs).length = ns.length + 1 := by
  unfold strL; rw [ordL_len]; simp
theorem SG.mono {w : Int} {a b : Nat} {s : List (List Int)} (h : SG w a s) (hab : a ≤ b) : SG w b s := ⟨h.wid, h.num, Nat.le_trans h.len hab⟩
theorem may_rng {wd lo hi out : Int} {ns : List Nd} (h : mayG wd lo hi out ns = 0) : (1 ≤ wd ∧ wd ≤ 16) ∧ lo ≤ hi ∧ -32768 ≤ lo ∧ hi ≤ 32767 ∧ 1 ≤ out ∧ out ≤ ns.length := by
  unfold mayG at h
  split at h
  · cases h
  · split at h
    · cases h
    · rename_i hq
      unfold mayQ at hq
      simp at hq
      omega
section
variable {wd lo hi out : Int} {ns : List Nd} {W R : Int → Int} {rk : Int → Nat} {W2 R2 : List Int} (h : GF wd lo hi out ns W R rk W2 R2)
include h
theorem GF.may : mayG wd lo hi out ns = 0 := by
  have h2 := h.look
  unfold lookG at h2
  by_cases hz : mayG wd lo hi out ns = 0
  · exact hz
  · rw [if_pos (by simpa using hz)] at h2
    exact absurd (congrArg Prod.fst h2) hz
theorem GF.sg0 {many : Int} {fs : List (List Int)} (hfs : Fin18 wd lo hi many fs) (hm : 0 ≤ many ∧ many ≤ 1000) : SG (W 0) (1000 + 10 * rk 0) fs := by
  have hr := may_rng h.may
  have := hfs.len
  refine ⟨fun f hf => ?_, fun f hf x hx => ?_, by omega⟩
  · rw [h.gg.W0]; exact hfs.wid f hf
  · have := hfs.num f hf x hx
    exact ⟨by omega, by omega⟩
theorem GF.w2 {i : Int} (i1 : 1 ≤ i) (i2 : i ≤ ns.length) : rd W2 (rd (nd ns (i - 1)).inn 0) = W (rd (nd ns (i - 1)).inn 0) := by
  have hn := (h.gg.node i i1 i2).1
  have := hn.inn _ (rd_mem (l := (nd ns (i - 1)).inn) (j := 0) (by omega) (by have := hn.l1; omega))
  exact (h.eq _ this.1 this.2.1).1
theorem GF.sgs {u : Int → List (List Int)} {i : Int} (i1 : 1 ≤ i) (i2 : i ≤ ns.length) (hu : ∀ j ∈ (nd ns (i - 1)).inn, SG (W j) (1000 + 10 * rk j) (u j)) : ∃ b : Nat, b ≤ 1200 ∧ b + 10 = 1000 + 10 * rk i ∧ ∀ j ∈ (nd ns (i - 1)).inn, SG (W j) b (u j) := by
  have hn := (h.gg.node i i1 i2).1
  have h0 := hn.inn _ (rd_mem (l := (nd ns (i - 1)).inn) (j := 0) (by omega) (by have := hn.l1; omega))
  have hk := h.rank i (by omega) i2
  exact ⟨1000 + 10 * (rk i - 1), by omega, by omega, fun j hj => (hu j hj).mono (by have := (hn.inn j hj).2.2; omega)⟩
theorem GF.sg_step {u : Int → List (List Int)} {i : Int} (i1 : 1 ≤ i) (i2 : i ≤ ns.length) (hu : ∀ j ∈ (nd ns (i - 1)).inn, SG (W j) (1000 + 10 * rk j) (u j)) : SG (W i) (1000 + 10 * rk i) (frF ns W2 u i) := by
  obtain ⟨b, hb, e, hs⟩ := h.sgs i1 i2 hu
  have hn := (h.gg.node i i1 i2).1
  unfold frF
  rw [h.w2 i1 i2, ← e]
  exact hn.sg (by omega) hs
/-- along the order -/
theorem GF.strL_fx (fs : List (List Int)) : ga [] (strL ns W2 fs) 0 = fs ∧ ∀ i : Int, 1 ≤ i → i ≤ ns.length → ga [] (strL ns W2 fs) i = frF ns W2 (ga [] (strL ns W2 fs)) i := by
  obtain ⟨a, b⟩ := h.gg.ordL (d := ([] : List (List Int))) (f := fun u _ i => frF ns W2 u i) (fun u v _ i hj => frF_loc u v i hj) (fs :: List.replicate ns.length []) (by simp)
  exact ⟨a, fun i i1 i2 => b i i1 i2⟩
theorem GF.strL_sg {many : Int} {fs : List (List Int)} (hfs : Fin18 wd lo hi many fs) (hm : 0 ≤ many ∧ many ≤ 1000) : ∀ (r : Nat) (i : Int), 0 ≤ i → i ≤ ns.length → rk i ≤ r → SG (W i) (1000 + 10 * rk i) (ga [] (strL ns W2 fs) i)
  | r, i, i0, i1, hk => by
    obtain ⟨a, b⟩ := h.strL_fx fs
    rcases Int.lt_or_le 0 i with i2 | i2
    · have hn := (h.gg.node i i2 i1).1
      match r, hk with
      | 0, hk =>
        have := hn.inn _ (rd_mem (l := (nd ns (i - 1)).inn) (j := 0) (by omega) (by have := hn.l1; omega))
        omega
      | r + 1, hk =>
        rw [b i i2 i1]
        exact h.sg_step i2 i1 fun j hj => by
          have := hn.inn j hj
          exact GF.strL_sg hfs hm r j this.1 this.2.1 (by omega)
    · obtain rfl : i = 0 := by omega
      rw [a]
      exact h.sg0 hfs hm
end
set_option maxRecDepth 100000
/-! counts: kind's and the document's are the same; as many are ready as there are, at most -/
theorem fewest_nn (l : List Int) : 0 ≤ fewestV l := by
  cases l with
  | nil => exact Int.le_refl _
  | cons x l =>
    unfold fewestV mx
    split <;> omega
theorem has17 (n : Nd) : n.has 17 = rWin n.k := by rw [(Nd.hasW n).2.2, rWin_four]
theorem count_eqW {n : Nd} (h : WF n) (l : List Int) : n.count l = n.rCount l := by
  have hf := fewest_nn l
  unfold Nd.count Nd.rCount
  rw [has17, padR_eqW, ends_eqW n h]
  by_cases h0 : fewestV l = 0
  · rw [h0]; simp
  · have h1 : (fewestV l == 0) = false := by simpa using h0
    have h2 : decide (0 < fewestV l) = true := decide_eq_true (by omega)
    rw [h1, h2, Bool.and_true, Bool.and_true]
    simp only [Bool.false_eq_true, if_false]
theorem ready_eqW {n : Nd} (h : WF n) (l : List Int) : n.ready l = n.rReady l := by
  unfold Nd.ready Nd.rReady
  rw [has17, ends_eqW n h, Bool.and_comm]
  by_cases h5 : n.k = 5
  · have hw : rWin n.k = false := by rw [h5]; rfl
    rw [hw, h5]; rfl
  · have : (n.k == 5) = false := by simpa using h5
    rw [this]
    simp only [Bool.false_eq_true, if_false]
theorem ordL_congr {α : Type} {d : α} {f g : (Int → α) → α → Int → α} : ∀ (r : List Int) (out : List α), (∀ i ∈ r, ∀ u s, f u s i = g u s i) → ordL d f r out = ordL d g r out
  | [], _, _ => rfl
  | i :: r, out, h => by
    rw [ordL, ordL, h i (by simp), ordL_congr r _ fun j hj => h j (by simp [hj])]
section
variable {N : Int} {n : Nd} {W R : Int → Int} {rk : Int → Nat} {i : Int} (hn : NodeG N n W R rk i)
include hn
theorem NodeG.few {u v : Int → Int} {b : Int} (h : ∀ j ∈ n.inn, 0 ≤ u j ∧ u j ≤ v j ∧ v j ≤ b) : 0 ≤ fewestV (n.inn.map u) ∧ fewestV (n.inn.map u) ≤ fewestV (n.inn.map v) ∧ fewestV (n.inn.map v) ≤ b := by
  rcases inn12 hn with ⟨a, ha⟩ | ⟨a, c, ha⟩
  · rw [ha] at h ⊢
    have := h a (by simp)
    simp only [List.map_cons, List.map_nil]
    rw [fewest1 this.1, fewest1 (by omega)]; exact this
  · rw [ha] at h ⊢
    have h1 := h a (by simp)
    have h2 := h c (by simp)
    simp only [List.map_cons, List.map_nil]
    rw [fewest2 h1.1 h2.1, fewest2 (by omega) (by omega)]
    unfold mn
    split <;> split <;> omega
theorem NodeG.rdy {u v : Int → Int} {b : Nat} (hb : b ≤ 4000) (h : ∀ j ∈ n.inn, 0 ≤ u j ∧ u j ≤ v j ∧ v j ≤ b) : 0 ≤ n.rReady (n.inn.map u) ∧ n.rReady (n.inn.map u) ≤ n.rCount (n.inn.map v) := by
  have hw := hn.wf
  obtain ⟨f0, f1, f2⟩ := hn.few h
  have hc := hn.cnt (l := n.inn.map v) hb (by simp) (fun x hx => by obtain ⟨j, hj, rfl⟩ := List.mem_map.1 hx; have := h j hj; omega)
  have hr := hw.rt
  have hsp := hw.sp
  have hst := hw.st
  have hlf := hw.lf
  revert hc
  unfold Nd.rReady Nd.rCount
  generalize fewestV (n.inn.map u) = p at *
  generalize fewestV (n.inn.map v) = q at *
  intro hc
  by_cases hwin : rWin n.k = true
  · have h5 : (n.k == 5) = false := by
      unfold rWin at hwin
      simp only [Bool.or_eq_true, beq_iff_eq] at hwin
      simp only [beq_eq_false_iff_ne]; omega
    rw [hwin, h5] at hc ⊢
    simp only [Bool.true_and, Bool.false_and, Bool.false_eq_true, if_false] at hc ⊢
    by_cases hp : 0 < p
    · rw [if_pos (decide_eq_true hp), if_pos (decide_eq_true (show 0 < q by omega)), w64 (x := q + n.rRight) (by omega) (by omega), hw.ends (by omega) (by omega), hw.ends (by omega) (by omega)]
      split
      · refine ⟨Int.le_refl _, ?_⟩
        split
        · exact Int.le_refl _
        · have := Int.ediv_nonneg (a := q + n.rRight - 1 - (n.rSpan - 1 - n.rLeft)) (b := n.rStp) (by omega) (by omega)
          omega
      · rw [if_neg (by omega)]
        have h1 := Int.ediv_nonneg (a := p - 1 - (n.rSpan - 1 - n.rLeft)) (b := n.rStp) (by omega) (by omega)
        have h2 := Int.ediv_le_ediv (a := p - 1 - (n.rSpan - 1 - n.rLeft)) (b := q + n.rRight - 1 - (n.rSpan - 1 - n.rLeft)) (c := n.rStp) (by omega) (by omega)
        omega
    · have hp0 : p = 0 := by omega
      rw [if_neg (by simp; omega)]
      exact ⟨by omega, by rw [hp0]; exact hc.1⟩
  · have hwin : rWin n.k = false := by simpa using hwin
    rw [hwin] at hc ⊢
    simp only [Bool.false_and, Bool.false_eq_true, if_false] at hc ⊢
    by_cases h5 : (n.k == 5) = true
    · rw [if_pos h5]
      exact ⟨Int.le_refl _, hc.1⟩
    · rw [if_neg h5, if_neg (by simp at h5 ⊢; intro e; exact absurd e h5)]
      exact ⟨f0, f1⟩
end
section
variable {wd lo hi out : Int} {ns : List Nd} {W R : Int → Int} {rk : Int → Nat} {W2 R2 : List Int} (h : GF wd lo hi out ns W R rk W2 R2)
include h
theorem GF.cntL_ready (N : Int) : cntL ns Nd.ready N = cntL ns Nd.rReady N := ordL_congr _ _ fun i hi u s => by
  have := h.ord i hi
  exact ready_eqW (h.gg.node i this.1 this.2).1.wf _
/-- how many frames there are, and how many of them are ready -/
theorem GF.lens {many : Int} {fs : List (List Int)} (hfs : Fin18 wd lo hi many fs) (hm : 0 ≤ many ∧ many ≤ 1000) : ∀ (r : Nat) (i : Int), 0 ≤ i → i ≤ ns.length → rk i ≤ r → ((ga [] (strL ns W2 fs) i).length : Int) = rd (cntL ns Nd.rCount many) i ∧ 0 ≤ rd (cntL ns Nd.rReady many) i ∧ rd (cntL ns Nd.rReady many) i ≤ rd (cntL ns Nd.rCount many) i
  | r, i, i0, i1, hk => by
    obtain ⟨a, b⟩ := h.strL_fx fs
    obtain ⟨c0, c⟩ := h.gg.cnt_eq (N := many) Nd.rCount
    obtain ⟨d0, d⟩ := h.gg.cnt_eq (N := many) Nd.rReady
    rcases Int.lt_or_le 0 i with i2 | i2
    · have hn := (h.gg.node i i2 i1).1
      match r, hk with
      | 0, hk =>
        have := hn.inn _ (rd_mem (l := (nd ns (i - 1)).inn) (j := 0) (by omega) (by have := hn.l1; omega))
        omega
      | r + 1, hk =>
        have ih : ∀ j ∈ (nd ns (i - 1)).inn, ((ga [] (strL ns W2 fs) j).length : Int) = rd (cntL ns Nd.rCount many) j ∧ 0 ≤ rd (cntL ns Nd.rReady many) j ∧ rd (cntL ns Nd.rReady many) j ≤ rd (cntL ns Nd.rCount many) j := fun j hj => by
          have := hn.inn j hj
          exact GF.lens hfs hm r j this.1 this.2.1 (by omega)
        have hb : ∀ j ∈ (nd ns (i - 1)).inn, rd (cntL ns Nd.rCount many) j ≤ (1200 : Nat) := fun j hj => by
          have h1 := hn.inn j hj
          have h2 := (h.strL_sg hfs hm 12 j h1.1 h1.2.1 (h.rank j h1.1 h1.2.1)).len
          have h3 := h.rank j h1.1 h1.2.1
          have := (ih j hj).1
          omega
        have hlen : ((nd ns (i - 1)).inn.map (ga [] (strL ns W2 fs))).map (fun s => (s.length : Int)) = (nd ns (i - 1)).inn.map (rd (cntL ns Nd.rCount many)) := by
          rw [List.map_map]
          exact List.map_congr_left fun j hj => (ih j hj).1
        have hr := hn.rdy (b := 1200) (by omega) (u := rd (cntL ns Nd.rReady many)) (v := rd (cntL ns Nd.rCount many)) fun j hj => ⟨(ih j hj).2.1, (ih j hj).2.2, hb j hj⟩
        rw [b i i2 i1, c i i2 i1, d i i2 i1]
        refine ⟨?_, hr⟩
        unfold frF nodeF
        rw [List.length_map, List.length_range, hlen]
        omega
    · obtain rfl : i = 0 := by omega
      rw [a, c0, d0]
      exact ⟨hfs.len, hm.1, Int.le_refl _⟩
end
section
attribute [local go_sem] frD insD rwS_len killC_rwS killC_set frzL_rwS frzL_set renL_rwS renL_set hasL_rwS hasL_set rwS_set List.set_set Bool.and_false Bool.not_false rcs OBR OBS
theorem gap_made {n : Nd} {v : Int} (hs : n.sized v = true) (he : n.else0 = true) (hwin : rWin n.k = true) : mx n.gap 1 = gapV n := by
  have e6 : n.e6 = false := by
    unfold Nd.else0 at he
    cases e : n.e6 with
    | false => rfl
    | true => rw [e] at he; simp at he
  unfold gapV mx
  by_cases h12 : n.k = 12
  · unfold Nd.e6 at e6
    have h4 : rFour n.k = false := by rw [h12]; rfl
    rw [h4] at e6
    simp at e6
    rw [h12, e6.1.1.2]; rfl
  · have hb12 : (n.k == 12) = false := by simpa using h12
    have h4 : rFour n.k = true := by
      rw [rWin_four, hb12, Bool.or_false] at hwin; exact hwin
    have h8 : n.s8 = false := by
      unfold Nd.sized at hs
      cases e : n.s8 with
      | false => rfl
      | true => rw [e] at hs; simp at hs
    unfold Nd.s8 at h8
    rw [h4] at h8
    simp only [Bool.true_and, Bool.or_eq_false_iff, Bool.not_eq_false', inB_iff] at h8
    rw [hb12]
    simp only [Bool.false_eq_true, if_false]
    split <;> omega
theorem mayE_fin {wd lo hi many : Int} {fs : List (List Int)} (h : Fin18 wd lo hi many fs) : mayE wd lo hi fs = 0 := by
  have key : ∀ l : List (List Int), (∀ f ∈ l, f ∈ fs) → mayE wd lo hi l = 0 := by
    intro l
    induction l with
    | nil => intro _; rfl
    | cons f l ih =>
      intro hl
      have h1 := h.wid f (hl f (by simp))
      have h2 := h.num f (hl f (by simp))
      have e : frE18 wd lo hi f = 0 := by
        unfold frE18
        rw [h1, if_neg (by simp), if_pos]
        refine List.all_eq_true.2 fun x hx => ?_
        have := h2 x hx
        unfold inW
        simp; omega
      rw [mayE, e, if_neg (by decide)]
      exact ih fun g hg => hl g (by simp [hg])
  exact key fs fun _ h => h
theorem node_g {T : World → Prop} (Tk : KT T) {wd lo hi out : Int} {ns : List Nd} {W R : Int → Int} {rk : Int → Nat} {W2 R2 : List Int} (h : GF wd lo hi out ns W R rk W2 R2) {i : Int} (i1 : 1 ≤ i) (i2 : i ≤ ns.length) {u : Int → List (List Int)} (hu : ∀ j ∈ (nd ns (i - 1)).inn, SG (W j) (1000 + 10 * rk j) (u j))
    (ds : List D) (hdl : ds.length = ns.length + 1) (hnil : ds.getD i.toNat .nil = .nil) (hds : ∀ j ∈ (nd ns (i - 1)).inn, j ≠ i ∧ ds.getD j.toNat .nil = frD (u j)) :
    Cg Go.Proofs.Tryd.prog T 55 (OBS wd lo hi out ns W2 ds) [.fps (rcs wd lo hi out ns W2 1001), .d (.i .i64 i)] (fun r H => H = OBS wd lo hi out ns W2 (ds.set i.toNat (frD (frF ns W2 u i))) ∧ r = .tup []) := by
  obtain ⟨b, hb, e, hs⟩ := h.sgs i1 i2 hu
  have hn := (h.gg.node i i1 i2).1
  have hw2 := h.w2 i1 i2
  have hn0 := h.n0
  have hwl := h.wl
  have hinn := hn.inn
  unfold frF
  generalize hnd : nd ns (i - 1) = n at *
  have hw := hn.w0
  obtain ⟨_, _, _, he, hsz, _⟩ := rchk_unpack hn.chk
  obtain ⟨l1, l2⟩ := hn.lens (u := u) (b := b) fun j hj => (hs j hj).len
  have hc := hn.cnt (by omega) l1 l2
  have key := fun (k : Int) (k0 : 0 ≤ k) (k1 : k < n.rCount ((n.inn.map u).map fun s => (s.length : Int))) => hn.ni (by omega) hs k0 k1
  have hl1 := hn.l1
  have hl2 := hn.l2
  have h0i := hinn _ (rd_mem (l := n.inn) (j := 0) (by omega) (by omega))
  have hw3 : (rd W2 (rd n.inn 0)).toNat = (W (rd n.inn 0)).toNat := by rw [hw2]
  rw [hw3]
  generalize hwn : (W (rd n.inn 0)).toNat = w at *
  have hw4 : rd W2 (rd n.inn 0) = (w : Int) := by omega
  have hk : rWin n.k = false → n.k ≠ 5 → n.rCount ((n.inn.map u).map fun s => (s.length : Int)) = fewestV ((n.inn.map u).map fun s => (s.length : Int)) := fun hwin h5 => by
    unfold Nd.rCount
    rw [hwin, Bool.false_and, if_neg (by decide), show (n.k == 5) = false by simpa using h5, Bool.false_and, if_neg (by decide)]
  have hce := count_eqW hn.wf ((n.inn.map u).map fun s => (s.length : Int))
  unfold nodeF
  generalize hC : n.rCount ((n.inn.map u).map fun s => (s.length : Int)) = C at *
  have hC2 : n.count ((n.inn.map u).map fun s => (s.length : Int)) = (C.toNat : Nat) := by rw [hce]; omega
  have a2 : w ≤ 65536 := by omega
  have a3 : C.toNat ≤ 65536 := by omega
  have a4 : ds[i.toNat]? = some .nil := by
    have : i.toNat < ds.length := by omega
    rw [List.getD_eq_getElem?_getD, List.getElem?_eq_getElem this] at hnil
    rw [List.getElem?_eq_getElem this]
    exact congrArg some hnil
  refine node_c Tk wd lo hi out ns W2 ds i n u w C.toNat (fun k => frameV n (inpF n (n.inn.map u) w k) w) (by omega) ⟨i1, i2, by omega⟩ hnd a4 (by omega) ⟨by omega, by omega⟩ (fun j hj => ?_) (by omega) hw4 a2 (fun hwin => gap_made hsz he hwin) (fun hwin => ?_) hC2 a3 (fun _ => by rw [stp_eqW]; exact hn.st0) (fun hwin h5 j hj => ?_) fun k k0 k1 => ?_
  · have h1 := hinn j hj
    have h2 := hds j hj
    have h3 := (hs j hj).len
    exact ⟨h1.1, by omega, fun e => h2.1 (by omega), h2.2, by omega⟩
  · have := win_size hsz hwin; omega
  · have hk := hk hwin h5
    have hCt : (C.toNat : Int) = C := by omega
    refine Int.ofNat_le.1 ?_
    rw [hCt, hk]
    clear hk hC hC2 key hCt hce
    rcases inn12 hn with ⟨a, ha⟩ | ⟨a, c, ha⟩
    · rw [ha] at hj ⊢
      obtain rfl := List.mem_singleton.1 hj
      simp only [List.map_cons, List.map_nil]
      rw [fewest1 (by omega)]; omega
    · rw [ha] at hj ⊢
      simp only [List.map_cons, List.map_nil]
      rw [fewest2 (by omega) (by omega)]
      unfold mn
      split <;> rcases List.mem_cons.1 hj with rfl | hj <;> (try obtain rfl := List.mem_singleton.1 hj) <;> omega
  · have hk := key k k0 (by omega)
    have hf := hk.fok hn
    rw [hwn] at hf
    exact (Frame_w Tk n _ w hf (hk.right hn)).data
end
section
attribute [local go_sem] frD insD rwS_len killC_rwS killC_set frzL_rwS frzL_set renL_rwS renL_set hasL_rwS hasL_set rwS_set List.set_set Bool.and_false Bool.not_false rcs OBR OBS
theorem ds_ins {ds : List D} {o : List (List (List Int))} (hl : ds.length = o.length) (h : ∀ x : Nat, x < o.length → ds.getD x .nil = frD (o.getD x [])) : (ds.map fun d => [d]) = o.map insE := by
  apply List.ext_getElem?
  intro x
  rw [List.getElem?_map, List.getElem?_map]
  by_cases hx : x < o.length
  · have := h x hx
    rw [List.getD_eq_getElem?_getD, List.getD_eq_getElem?_getD, List.getElem?_eq_getElem (by omega), List.getElem?_eq_getElem hx] at this
    rw [List.getElem?_eq_getElem (by omega), List.getElem?_eq_getElem hx]
    unfold insE
    exact congrArg some (congrArg (fun d => [d]) this)
  · rw [List.getElem?_eq_none (by omega), List.getElem?_eq_none (by omega)]; rfl
theorem Streams_w {T : World → Prop} (Tk : KT T) {wd lo hi out : Int} {ns : List Nd} {W R : Int → Int} {rk : Int → Nat} {W2 R2 : List Int} (h : GF wd lo hi out ns W R rk W2 R2) {many : Int} {fs : List (List Int)} (hfs : Fin18 wd lo hi many fs) (hm : 0 ≤ many ∧ many ≤ 1000) :
    Cg Go.Proofs.Tryd.prog T 30 [] [.agg (gcs wd lo hi out (.d (rowN ns))), .d (frD fs)] (fun r H => H = [] ∧ r = .tup [.d (insD (strL ns W2 fs)), .d (.i .i64 0)]) := by
  have hn0 := h.n0
  have hrg := may_rng h.may
  have hl0 := hfs.len
  have cM := wmay_c Tk wd lo hi out ns fs (by omega) h.inn (by omega) (fun f hf => by have := hfs.wid f hf; omega)
  have cW := Widths_c Tk wd lo hi out ns (by omega) h.inn
  have cO := Order_c Tk wd lo hi out ns (by omega) h.inn
  rw [h.look] at cM cW cO
  rw [mayE_fin hfs] at cM
  simp only [bne_self_eq_false, Bool.false_eq_true, if_false] at cM
  have w1 : wrap64 ((ns.length : Int) + 1) = ((ns.length + 1 : Nat) : Int) := by rw [w64 (by omega) (by omega)]; omega
  refine Cg_of [] Tk.m Go.Proofs.Tryd.func30 rfl rfl Go.Proofs.Tryd.ntmps30 (by simp) rfl (rs := [.tmp 4, .tmp 5]) rfl fun E hP hn hT hpn => ?_
  (repeat (first | refine TS.imp ?_ | refine n9 (by decide) ?_))
  refine TR.imp ?_; intro K hK; simp only [go_sem, hP, hn]; (repeat refine vc ?_); refine hK _ ?_; clear K hK
  (repeat (first | refine TS.imp ?_ | refine n9 (by decide) ?_))
  refine TR.imp ?_; intro K hK; simp only [go_sem, hP, hn]
  (repeat refine vc ?_)
  refine CallN_cs (Hi := [] ) (by rw [hP, hT]; exact  cM) rfl rfl rfl trivial (by simp only [go_sem, hP, hn]; try trivial) (by simp only [go_sem, hP, hn]; try rfl) (by simp only [inH, go_sem, hP, hn]; try simp) (by rw [hn]; decide) ?_; simp only [go_sem, hP, hn]; (repeat refine vc ?_)
  refine hK _ ?_; clear K hK
  (repeat (first | refine TS.imp ?_ | refine n9 (by decide) ?_))
  refine TR.imp ?_; intro K hK; simp only [go_sem, hP, hn]; (repeat refine vc ?_); refine hK _ ?_; clear K hK
  (repeat (first | refine TS.imp ?_ | refine n9 (by decide) ?_))
  refine Tr.cond rfl (fun hb => ?_) (fun hb => ?_)
  · cases hb
  clear hb
  refine Tr.le (Le.keep [1, 2]) ?_; simp only [List.map_cons, List.map_nil, lk, Nat.reduceEqDiff, reduceIte]
  (repeat (first | refine TS.imp ?_ | refine n9 (by decide) ?_))
  refine Tr.mono (Q := thenS (fun s' => Le E s' ⟨[(1, .d (frD fs)), (2, .ptr 2 0), (7, .ptr 28 0)], [(2, .box 26 (gcs wd lo hi out (.d (rowN ns)))), (28, .box 89 (rcs wd lo hi out ns W2 26)), (26, .row 32 [.nil] (List.replicate (ns.length + 1) [.nil]))]⟩) fun _ _ => False) ?_ ?_
  · refine d5 (.p true 0 (.p true 1 (.p true 3 (.p true 4 (.p true 5 (.p true 6 (.alt 2 (.alt 7 (.p false 8 (.alt 9 (.p false 10 .nil) .nil)) .nil) (.alt 7 (.alt 2 (.p false 8 (.alt 9 (.p false 10 .nil) .nil)) .nil) .nil)))))))) [] (by rw [hP]; kernel_rfl) (by kernel_rfl) (by simp only [go_sem, hP, hn]; try simp) (by exact fun _ _ h => h) ?_; intro K hK; simp only [go_sem, hP, hn]
    rw [w1]
    simp only [go_sem, hP, hn]
    repeat' (first
      | refine And.intro ?_ ?_
      | trivial
      | omega
      | (refine CallP_cs (by rw [hP, hT]; exact cW) rfl rfl rfl trivial (by simp only [go_sem, hP, hn]; try trivial) (by simp only [go_sem, hP, hn]; try rfl) (by rw [hn]; decide) ?_; simp only [go_sem, hP, hn])
      | (rw [w1]; simp only [go_sem, hP, hn]))
    all_goals
      refine hK _ ?_
      show Le E _ _
      exact (Le.mv (by simp only [go_sem, hP, hn]; first | done | (simp; done) | (simp [intC]; done) | (repeat (first | rfl | constructor))) (by simp only [go_sem, hP, hn]; first | done | (simp; done) | (simp [intC]; done) | (repeat (first | rfl | constructor))))
  · intro e s' hl
    cases e <;> simp only [thenS] at hl
    simp only [thenS]
    refine Tr.le hl ?_
    simp only [go_sem, hP, hn]
    refine Tr.le (Le.fzs 7 28 rfl rfl) ?_
    simp only [go_sem, hP, hn]
    refine Tr.le (Le.ren 26 1001 (by rw [hpn] <;> rfl) rfl (by simp [freeH, closedO, hasL_set, hasL_rwS, k1, S.hasL, S.has, go_sem])) ?_; simp only [renT, renH, renO, renS, renL, rn, go_sem, hP, hn]
    rw [show List.replicate (ns.length + 1) [D.nil] = (List.replicate (ns.length + 1) D.nil).map (fun d => [d]) by simp]
    refine Tr.le (Le.rows 1001 (List.replicate (ns.length + 1) .nil) rfl rfl) ?_
    simp only [go_sem, hP, hn]
    refine Tr.le (Le.nilrows 1002 1001 0 22 [.nil] rfl (by unfold rwS; simp) (by rw [hpn] <;> rfl) rfl (by simp [freeH, closedO, hasL_set, hasL_rwS, k1, S.hasL, S.has, go_sem])) ?_
    simp only [go_sem, hP, hn]
    have hd0 : (List.replicate (ns.length + 1) D.nil).length = ns.length + 1 := by simp
    have hdn : ∀ x : Nat, (List.replicate (ns.length + 1) D.nil).getD x .nil = .nil := fun x => by
      rw [List.getD_eq_getElem?_getD, List.getElem?_replicate]
      split <;> rfl
    generalize List.replicate (ns.length + 1) D.nil = ds0 at *
    (repeat (first | refine TS.imp ?_ | refine n9 (by decide) ?_))
    refine TR.imp ?_; intro K hK; simp only [go_sem, hP, hn]; (repeat refine vc ?_); refine hK _ ?_; clear K hK
    (repeat (first | refine TS.imp ?_ | refine n9 (by decide) ?_))
    refine Tr.loop (fun q s => ∃ i : Int, s = ⟨[(2, .ptr 2 0), (7, .fps (rcs wd lo hi out ns W2 1001)), (29, .d (frD fs)), (30, .d (.i .i64 fs.length)), (31, .d (.i .i64 i))], [(2, .box 26 (gcs wd lo hi out (.d (rowN ns)))), (1001, .rows 32 ((rwS ds0).set 0 (.own 1002))), (1002, .row 22 [.nil] ((fs.take i.toNat).map frE))]⟩ ∧ 0 ≤ i ∧ i + q = fs.length) fs.length ⟨_, ?_, 0, rfl, by omega, by omega⟩ ?_
    · exact (Le.mv (by simp only [go_sem, hP, hn]; first | done | (simp; done) | (simp [intC]; done) | (repeat (first | rfl | constructor))) (by simp only [go_sem, hP, hn]; first | done | (simp; done) | (simp [intC]; done) | (repeat (first | rfl | constructor))))
    rintro q s ⟨i, rfl, i0, iq⟩
    (repeat (first | refine TS.imp ?_ | refine n9 (by decide) ?_))
    refine TR.imp ?_; intro K hK; simp only [go_sem, hP, hn]; (repeat refine vc ?_); refine hK _ ?_; clear K hK
    (repeat (first | refine TS.imp ?_ | refine n9 (by decide) ?_))
    refine Tr.cond rfl (fun hb => ?_) (fun hb => ?_)
    · have hi1 : i < fs.length := of_decide_eq_true hb
      clear hb
      have hrf := rw_fr fs i i0 hi1
      have hfl := hfs.wid _ (fr_mem i0 hi1)
      have w2 : wrap64 (i + 1) = i + 1 := w64 (by omega) (by omega)
      have hk1 : 0 < ds0.length := by omega
      have hgk : ((rwS ds0).set 0 (.own 1002)).getD 0 .any = .own 1002 := by rw [set_getD (by rw [rwS_len]; exact hk1), if_pos rfl]
      have htk : fs.take (i + 1).toNat = fs.take i.toNat ++ [fr fs i] := by
        rw [show (i + 1).toNat = i.toNat + 1 by omega, List.take_succ_eq_append_getElem (by omega)]
        unfold fr
        simp [List.getD, show i.toNat < fs.length by omega]
      have hTl : (fs.take i.toNat).length ≤ 1000 := by rw [List.length_take]; omega
      (repeat (first | refine TS.imp ?_ | refine n9 (by decide) ?_))
      refine TR.imp ?_; intro K hK; simp only [hrf, go_sem, hP, hn]; (repeat refine vc ?_); refine hK _ ?_; clear K hK
      (repeat (first | refine TS.imp ?_ | refine n9 (by decide) ?_))
      generalize fs.take i.toNat = F at *
      generalize fr fs i = f at *
      refine Tr.mono (Q := thenS (fun s' => Le E s' ⟨[(2, .ptr 2 0), (7, .fps (rcs wd lo hi out ns W2 1001)), (29, .d (frD fs)), (30, .d (.i .i64 fs.length)), (31, .d (.i .i64 i))], [(2, .box 26 (gcs wd lo hi out (.d (rowN ns)))), (1001, .rows 32 ((rwS ds0).set 0 (.own 1002))), (1002, .row 22 [.nil] ((F ++ [f]).map frE))]⟩) fun _ _ => False) ?_ ?_
      · refine d5 (.p true 0 (.p true 1 (.p true 2 (.p true 3 (.p true 4 (.p true 5 (.p true 6 (.p true 7 (.p true 8 (.p true 11 (.alt 9 (.alt 10 (.alt 12 (.alt 13 (.alt 14 (.p true 15 (.alt 16 .nil .nil)) .nil) .nil) .nil) .nil) (.alt 10 (.alt 9 (.alt 12 (.alt 13 (.alt 14 (.p true 15 (.alt 16 .nil .nil)) .nil) .nil) .nil) (.alt 12 (.alt 9 (.alt 13 (.alt 14 (.p true 15 (.alt 16 .nil .nil)) .nil) .nil) (.alt 13 (.alt 9 (.alt 14 (.p true 15 (.alt 16 .nil .nil)) .nil) .nil) .nil)) .nil)) .nil)))))))))))) [1001, 1002] (by rw [hP]; kernel_rfl) (by kernel_rfl) (by simp only [go_sem, hP, hn]; try simp) (by exact fun _ _ h => h) ?_; intro K hK; simp only [go_sem, hP, hn]
        repeat' (first
          | refine And.intro ?_ ?_
          | trivial
          | omega
          | (rw [hgk]; simp only [go_sem, hP, hn])
          | (simp only [List.length_set, rwS_len]; first | exact hk1 | omega))
        all_goals
          refine hK _ ?_
          show Le E _ _
          refine Le.trans (b := ⟨[(2, .ptr 2 0), (7, .fps (rcs wd lo hi out ns W2 1001)), (29, .d (frD fs)), (30, .d (.i .i64 fs.length)), (31, .d (.i .i64 i))], [(2, .box 26 (gcs wd lo hi out (.d (rowN ns)))), (1001, .rows 32 ((rwS ds0).set 0 (.own 49))), (49, .row 22 [.nil] ((F ++ [f]).map frE))]⟩) ?_ ?_
          · rw [List.map_append (l₁ := F)]
            exact (Le.mv (by simp only [go_sem, hP, hn]; first | done | (simp; done) | (simp [intC]; done) | (repeat (first | rfl | constructor))) (by simp only [go_sem, hP, hn]; first | done | (simp; done) | (simp [intC]; done) | (repeat (first | rfl | constructor))))
          refine Le.trans (Le.ren 49 1002 (by rw [hpn] <;> rfl) rfl (by simp [freeH, closedO, hasL_set, hasL_rwS, k1, S.hasL, S.has, go_sem])) ?_; simp only [renT, renH, renO, renS, renL, rn, go_sem, hP, hn]
          exact Le.refl _
      · intro e s' hl
        cases e <;> simp only [thenS] at hl
        simp only [inBlk, thenS]
        refine Tr.le hl ?_
        (repeat (first | refine TS.imp ?_ | refine n9 (by decide) ?_))
        refine TR.imp ?_; intro K hK; simp only [w2, go_sem, hP, hn]; (repeat refine vc ?_); refine hK _ ?_; clear K hK
        (repeat (first | refine TS.imp ?_ | refine n9 (by decide) ?_))
        exact ⟨q - 1, _, by omega, by rw [htk]; exact (Le.mv (by simp only [go_sem, hP, hn]; first | done | (simp; done) | (simp [intC]; done) | (repeat (first | rfl | constructor))) (by simp only [go_sem, hP, hn]; first | done | (simp; done) | (simp [intC]; done) | (repeat (first | rfl | constructor)))), i + 1, rfl, by omega, by omega⟩
    obtain rfl : i = fs.length := by have := of_decide_eq_false hb; omega
    rw [Int.toNat_natCast, List.take_length]
    clear hb
    refine Tr.le (Le.freeze 1002) ?_
    simp only [go_sem, hP, hn]
    refine Tr.le (Le.keep [2, 7]) ?_; simp only [List.map_cons, List.map_nil, lk, Nat.reduceEqDiff, reduceIte]
    (repeat (first | refine TS.imp ?_ | refine n9 (by decide) ?_))
    refine TR.imp ?_; intro K hK; simp only [go_sem, hP, hn]; (repeat refine vc ?_); refine hK _ ?_; clear K hK
    (repeat (first | refine TS.imp ?_ | refine n9 (by decide) ?_))
    refine TR.imp ?_; intro K hK; simp only [go_sem, hP, hn]
    (repeat refine vc ?_)
    refine CallN_cs (Hi := [] ) (by rw [hP, hT]; exact  cO) rfl rfl rfl trivial (by simp only [go_sem, hP, hn]; try trivial) (by simp only [go_sem, hP, hn]; try rfl) (by simp only [inH, go_sem, hP, hn]; try simp) (by rw [hn]; decide) ?_; simp only [go_sem, hP, hn]; (repeat refine vc ?_)
    refine hK _ ?_; clear K hK
    refine Tr.le (Le.keep [7, 10, 55, 56, 57]) ?_; simp only [List.map_cons, List.map_nil, lk, Nat.reduceEqDiff, reduceIte]
    (repeat (first | refine TS.imp ?_ | refine n9 (by decide) ?_))
    have hord := h.ord
    have htop : ∀ (o1 : List Int) (i : Int) (r : List Int), order ns = o1 ++ i :: r → i ∉ o1 ∧ ∀ j ∈ (nd ns (i - 1)).inn, j = 0 ∨ j ∈ o1 := fun o1 i r e => mayO_iff.1 (order_top ns o1 i r e).1
    have hmem := h.gg.mem_order
    have hol := h.gg.order_len
    unfold strL
    generalize order ns = os at *
    generalize hOUT : ordL [] (fun u _ i => frF ns W2 u i) os (fs :: List.replicate ns.length []) = OUT
    refine Tr.loop (fun q s => ∃ (k : Nat) (o : List (List (List Int))) (ds : List D), s = ⟨[(7, .fps (rcs wd lo hi out ns W2 1001)), (10, .mth 55 [.fps (rcs wd lo hi out ns W2 1001)]), (55, .d (.row [.i .i64 0] (os.map intC))), (56, .d (.i .i64 os.length)), (57, .d (.i .i64 k))], [(1001, .rows 32 (rwS ds))]⟩ ∧ k + q = os.length ∧ o.length = ns.length + 1 ∧ ordL [] (fun u _ i => frF ns W2 u i) (os.drop k) o = OUT ∧ ds.length = ns.length + 1 ∧ (∀ x : Int, 0 ≤ x → x ≤ ns.length → ds.getD x.toNat .nil = if x = 0 ∨ x ∈ os.take k then frD (ga [] o x) else .nil) ∧ ∀ j : Int, (j = 0 ∨ j ∈ os.take k) → SG (W j) (1000 + 10 * rk j) (ga [] o j)) os.length ⟨_, ?_, 0, fs :: List.replicate ns.length [], ds0.set 0 (frD fs), rfl, by omega, by simp, hOUT, by simp [hd0], fun x x0 x1 => ?_, fun j hj => ?_⟩ ?_
    · exact (Le.mv (by simp only [go_sem, hP, hn]; first | done | (simp; done) | (simp [intC]; done) | (repeat (first | rfl | constructor))) (by simp only [go_sem, hP, hn]; first | done | (simp; done) | (simp [intC]; done) | (repeat (first | rfl | constructor))))
    · rw [set_getD (by omega)]
      by_cases hx : x = 0
      · subst hx; rfl
      · rw [if_neg (by omega), if_neg (by simpa using hx), hdn]
    · obtain rfl : j = 0 := by simpa using hj
      exact h.sg0 hfs hm
    rintro q s ⟨k, o, ds, rfl, kq, hl, hro, hdl, hds, hsg⟩
    (repeat (first | refine TS.imp ?_ | refine n9 (by decide) ?_))
    refine TR.imp ?_; intro K hK; simp only [go_sem, hP, hn]; (repeat refine vc ?_); refine hK _ ?_; clear K hK
    (repeat (first | refine TS.imp ?_ | refine n9 (by decide) ?_))
    refine Tr.cond rfl (fun hb => ?_) (fun hb => ?_)
    · have hk : k < os.length := by have := of_decide_eq_true hb; omega
      clear hb
      have hmo := rd_mem (l := os) (j := (k : Int)) (by omega) (by omega)
      obtain ⟨hi1, hi2⟩ := hord _ hmo
      have hdr := drop_rd (l := os) (j := (k : Int)) (by omega) (by omega)
      rw [show ((k : Int) + 1).toNat = k + 1 by omega, Int.toNat_natCast] at hdr
      have hsp := (List.take_append_drop k os).symm
      rw [hdr] at hsp
      obtain ⟨hni, hjo⟩ := htop _ _ _ hsp
      clear hsp
      rw [hdr, ordL] at hro
      clear hdr
      have htk : os.take (k + 1) = os.take k ++ [rd os k] := by
        have := take_rd (l := os) (j := (k : Int)) (by omega) (by omega)
        rwa [show ((k : Int) + 1).toNat = k + 1 by omega, Int.toNat_natCast] at this
      have w3 : Unit → wrap64 ((k : Int) + 1) = ((k + 1 : Nat) : Int) := fun _ => by
        rw [w64 (by omega) (by omega)]; omega
      have q1 : (0 : Int) ≤ (k : Int) := by omega
      have q2 : (k : Int) < os.length := by omega
      have hk2 : (os.map intC).getD k [.i .i64 0] = [.i .i64 (rd os k)] := by
        have := rw_intC os (k : Int)
        rwa [Int.toNat_natCast] at this
      (repeat (first | refine TS.imp ?_ | refine n9 (by decide) ?_))
      refine TR.imp ?_; intro K hK; simp only [go_sem, hP, hn]
      rw [hk2]
      simp only [go_sem, hP, hn]
      (repeat (refine ⟨by first | trivial | omega, ?_⟩))
      refine hK _ ?_; clear K hK
      (repeat (first | refine TS.imp ?_ | refine n9 (by decide) ?_))
      generalize rd os k = i at *
      have hu := fun j hj => hsg j (hjo j hj)
      have hGi := h.sg_step hi1 hi2 hu
      have cN := node_g Tk h hi1 hi2 hu ds hdl (by rw [hds i (by omega) hi2, if_neg]; intro e; rcases e with e | e; (· omega); (· exact hni e)) (fun j hj => by
        have hjr := ((h.gg.node i hi1 hi2).1.inn j hj)
        refine ⟨fun e => ?_, by rw [hds j hjr.1 hjr.2.1, if_pos (hjo j hj)]⟩
        subst e
        rcases hjo j hj with e | e
        · omega
        · exact hni e)
      generalize hv : frF ns W2 (ga [] o) i = v at *
      refine TR.imp ?_; intro K hK; simp only [go_sem, hP, hn]
      (repeat refine vc ?_)
      refine CallN_mx (Hi := OBS wd lo hi out ns W2 ds) (by rw [hP, hT]; exact cN) rfl rfl rfl trivial (by simp only [go_sem, hP, hn]; try trivial) (by simp only [go_sem, hP, hn]; try rfl) (by simp [inH, lh, OBS]) (by rw [hn]; decide) (fun r Ho hr => ?_)
      obtain ⟨rfl, rfl⟩ := hr
      refine ⟨fun k hk => ?_, ?_⟩
      · exfalso
        revert hk
        simp only [newK, lh, OBS]
        by_cases e : 1001 = k <;> simp [e]
      simp only [cgS, newK, touK, go_sem, hP, hn]
      (repeat refine vc ?_)
      refine hK _ ?_; clear K hK
      (repeat (first | refine TS.imp ?_ | refine n9 (by decide) ?_))
      replace w3 := w3 ()
      refine TR.imp ?_; intro K hK; simp only [w3, go_sem, hP, hn]; (repeat refine vc ?_); refine hK _ ?_; clear K hK
      (repeat (first | refine TS.imp ?_ | refine n9 (by decide) ?_))
      clear w3
      have hga : ∀ x : Int, 0 ≤ x → ga [] (o.set i.toNat v) x = if x = i then v else ga [] o x := fun x x0 => ga_set (by omega) (by omega) x0
      refine ⟨q - 1, _, by omega, ?_, k + 1, o.set i.toNat v, ds.set i.toNat (frD v), rfl, by omega, by simp [hl], hro, by simp [hdl], fun x x0 x1 => ?_, fun j hj => ?_⟩
      · exact (Le.mv (by simp only [go_sem, hP, hn]; first | done | (simp; done) | (simp [intC]; done) | (repeat (first | rfl | constructor))) (by simp only [go_sem, hP, hn]; first | done | (simp; done) | (simp [intC]; done) | (repeat (first | rfl | constructor))))
      · rw [set_getD (by omega), hga x x0, htk]
        by_cases hx : x = i
        · subst hx
          rw [if_pos rfl, if_pos rfl, if_pos (.inr (by simp))]
        · rw [if_neg (by omega), if_neg hx, hds x x0 x1]
          have : (x = 0 ∨ x ∈ os.take k) ↔ (x = 0 ∨ x ∈ os.take k ++ [i]) := by simp [hx]
          simp only [this]
      · have hj0 : 0 ≤ j := by
          rcases hj with rfl | hj
          · exact Int.le_refl _
          · have := (hord j (List.mem_of_mem_take hj)).1; omega
        rw [hga j hj0]
        by_cases hx : j = i
        · subst hx
          rw [if_pos rfl]; exact hGi
        · rw [if_neg hx]
          refine hsg j ?_
          rcases hj with hj | hj
          · exact .inl hj
          · rw [htk] at hj
            rcases List.mem_append.1 hj with hj | hj
            · exact .inr hj
            · exact absurd (by simpa using hj) hx
    have hk : k = os.length := by
      have : ¬ k < os.length := by simpa using hb
      omega
    subst hk
    rw [List.drop_length, ordL] at hro
    subst hro
    clear hb
    have hdi := ds_ins (ds := ds) (o := o) (by omega) fun x hx => by
      have := hds (x : Int) (by omega) (by omega)
      rw [Int.toNat_natCast, List.take_length, if_pos] at this
      · rw [this]; unfold ga; rw [Int.toNat_natCast]
      · rcases Nat.eq_zero_or_pos x with e | e
        · exact .inl (by omega)
        · exact .inr (hmem _ (by omega) (by omega))
    refine Tr.le (Le.unrows 1001 [.nil] ds rfl rfl) ?_
    simp only [go_sem, hP, hn]
    rw [hdi]
    refine Tr.le (Le.freeze 1001) ?_
    simp only [go_sem, hP, hn]
    (repeat (first | refine TS.imp ?_ | refine n9 (by decide) ?_))
    refine TR.imp ?_; intro K hK; simp only [go_sem, hP, hn]; (repeat refine vc ?_); refine hK _ ?_; clear K hK
    (repeat (first | refine TS.imp ?_ | refine n9 (by decide) ?_))
    simp only [RetG, go_sem]; (repeat with_reducible refine vc ?_)
end
theorem counted_c {T : World → Prop} (Tk : KT T) (wd lo hi out N : Int) (fk : Nat) (g : Nd → List Int → Int) (ns : List Nd) (os W R : List Int) (hns : ns.length ≤ 65536) (hin : ∀ n ∈ ns, n.inn.length ≤ 4096 ∧ n.ws.length ≤ 65536 ∧ n.bs.length ≤ 65536) (hok : lookG wd lo hi out ns = (0, os, W, R)) (hC : CO ns os)
    (hg : ∀ (n : Nd) (l : List Int), l.length ≤ 65536 → 1 ≤ n.rStp → Ct Go.Proofs.Tryd.prog T fk [.agg n.cs, .d (.row [.i .i64 0] (l.map intC))] true (fun r => r = .d (.i .i64 (g n l)))) :
    Cg Go.Proofs.Tryd.prog T 52 [] [.agg (gcs wd lo hi out (.d (rowN ns))), .d (.i .i64 N), .fn fk []] (fun r H => H = [] ∧ r = .d (.row [.i .i64 0] ((cntO ns os g N).map intC))) := by
  have cC := Check_c Tk wd lo hi out ns hns hin
  have cO := Order_c Tk wd lo hi out ns hns hin
  rw [hok] at cC cO
  have hol := hC.le
  refine Cg_of [] Tk.m Go.Proofs.Tryd.func52 rfl rfl Go.Proofs.Tryd.ntmps52 (by simp) rfl (rs := [.tmp 6]) rfl fun E hP hn hT hpn => ?_
  (repeat (first | refine TS.imp ?_ | refine n9 (by decide) ?_))
  refine TR.imp ?_; intro K hK; simp only [go_sem, hP, hn]; (repeat refine vc ?_); refine hK _ ?_; clear K hK
  (repeat (first | refine TS.imp ?_ | refine n9 (by decide) ?_))
  refine TR.imp ?_; intro K hK; simp only [go_sem, hP, hn]
  (repeat refine vc ?_)
  refine CallN_cs (Hi := [] ) (by rw [hP, hT]; exact  cC) rfl rfl rfl trivial (by simp only [go_sem, hP, hn]; try trivial) (by simp only [go_sem, hP, hn]; try rfl) (by simp only [inH, go_sem, hP, hn]; try simp) (by rw [hn]; decide) ?_; simp only [go_sem, hP, hn]; (repeat refine vc ?_)
  refine hK _ ?_; clear K hK
  (repeat (first | refine TS.imp ?_ | refine n9 (by decide) ?_))
  unfold cntO
  refine Tr.cond rfl (fun hb => ?_) (fun hb => ?_)
  · rw [if_pos (show many62 N = true by unfold many62; simpa using hb)]
    (repeat (first | refine TS.imp ?_ | refine n9 (by decide) ?_))
    refine TR.imp ?_; intro K hK; simp only [go_sem, hP, hn]; (repeat refine vc ?_); refine hK _ ?_; clear K hK
    refine Tr.le (Le.nilrow 6 [.i .i64 0] rfl) ?_
    (repeat (first | (refine TR.imp ?_; intro K hK; simp only [go_sem, hP, hn]; (repeat refine vc ?_); refine hK _ ?_; clear K hK) | refine TS.imp ?_ | refine n9 (by decide) ?_))
    simp only [RetG, go_sem]; (repeat with_reducible refine vc ?_)
  rw [if_neg (show ¬ many62 N = true by unfold many62; simpa using hb)]
  clear hb
  have g1 : wrap64 ((ns.length : Int) + 1) = ((ns.length + 1 : Nat) : Int) := by rw [w64 (by omega) (by omega)]; omega
  refine Tr.le (Le.keep [1, 2, 3]) ?_; simp only [List.map_cons, List.map_nil, lk, Nat.reduceEqDiff, reduceIte]
  (repeat (first | refine TS.imp ?_ | refine n9 (by decide) ?_))
  refine TR.imp ?_; intro K hK; simp only [g1, go_sem, hP, hn]; (repeat refine vc ?_); refine hK _ ?_; clear K hK
  (repeat (first | refine TS.imp ?_ | refine n9 (by decide) ?_))
  refine TR.imp ?_; intro K hK; simp only [go_sem, hP, hn]; (repeat refine vc ?_); refine hK _ ?_; clear K hK
  (repeat (first | refine TS.imp ?_ | refine n9 (by decide) ?_))
  refine TR.imp ?_; intro K hK; simp only [go_sem, hP, hn]
  (repeat refine vc ?_)
  refine CallN_cs (Hi := [] ) (by rw [hP, hT]; exact  cO) rfl rfl rfl trivial (by simp only [go_sem, hP, hn]; try trivial) (by simp only [go_sem, hP, hn]; try rfl) (by simp only [inH, go_sem, hP, hn]; try simp) (by rw [hn]; decide) ?_; simp only [go_sem, hP, hn]; (repeat refine vc ?_)
  refine hK _ ?_; clear K hK
  (repeat (first | refine TS.imp ?_ | refine n9 (by decide) ?_))
  refine Tr.le (Le.keep [2, 3, 7, 34, 35, 36]) ?_; simp only [List.map_cons, List.map_nil, lk, Nat.reduceEqDiff, reduceIte]
  rw [show (List.replicate (ns.length + 1) (0 : Int)).set 0 N = N :: List.replicate ns.length 0 by rw [List.replicate_succ]; rfl]
  generalize hf : cntF ns g = f
  generalize hV : ordL 0 f os (N :: List.replicate ns.length 0) = V
  refine Tr.loop (fun q s => ∃ (k : Int) (o : List Int), s = ⟨[(2, .fn fk []), (3, .ptr 3 0), (7, .own 29), (34, .d (.row [.i .i64 0] (os.map intC))), (35, .d (.i .i64 os.length)), (36, .d (.i .i64 k))], [(29, .row 3 [.i .i64 0] (o.map intC)), (3, .box 26 (gcs wd lo hi out (.d (rowN ns))))]⟩ ∧ 0 ≤ k ∧ k + q = os.length ∧ o.length = ns.length + 1 ∧ V = ordL 0 f (os.drop k.toNat) o) os.length ⟨_, (Le.mv (by simp only [go_sem, hP, hn]; first | done | (simp; done) | (simp [intC]; done) | (repeat (first | rfl | constructor))) (by simp only [go_sem, hP, hn]; first | done | (simp; done) | (simp [intC]; done) | (repeat (first | rfl | constructor)))), 0, N :: List.replicate ns.length 0, rfl, by omega, by omega, by simp, hV.symm⟩ ?_
  rintro q s ⟨k, o, rfl, k0, kq, hol2, hst⟩
  (repeat (first | refine TS.imp ?_ | refine n9 (by decide) ?_))
  refine TR.imp ?_; intro K hK; simp only [go_sem, hP, hn]; (repeat refine vc ?_); refine hK _ ?_; clear K hK
  (repeat (first | refine TS.imp ?_ | refine n9 (by decide) ?_))
  refine Tr.cond rfl (fun hb => ?_) (fun hb => ?_)
  · have hk : k < os.length := by simpa using hb
    clear hb
    obtain ⟨⟨hi1, hi2⟩, hj, hst1⟩ := hC.nd _ (rd_mem k0 hk)
    rw [drop_rd k0 hk, ordL] at hst
    generalize hii : rd os k = i at *
    have hnd := rw_nd ns (i - 1) (by omega) (by omega)
    have g2 : wrap64 (i - 1) = i - 1 := w64 (by omega) (by omega)
    have hini := hin _ (nd_mem (ns := ns) (i := i - 1) (by omega) (by omega))
    have hfi : f (ga 0 o) (ga 0 o i) i = g (nd ns (i - 1)) ((nd ns (i - 1)).inn.map (rd o)) := by rw [← hf]; rfl
    rw [hfi] at hst
    clear hfi
    have hgc := hg (nd ns (i - 1)) ((nd ns (i - 1)).inn.map (rd o)) (by rw [List.length_map]; omega) hst1
    generalize nd ns (i - 1) = n at *
    (repeat (first | refine TS.imp ?_ | refine n9 (by decide) ?_))
    refine TR.imp ?_; intro K hK; simp only [go_sem, hP, hn]
    rw [hii]
    (repeat refine vc ?_)
    refine hK _ ?_; clear K hK
    (repeat (first | refine TS.imp ?_ | refine n9 (by decide) ?_))
    refine TR.imp ?_; intro K hK; simp only [g2, go_sem, hP, hn]
    rw [hnd]
    simp only [go_sem, hP, hn]
    (repeat refine vc ?_)
    refine hK _ ?_; clear K hK
    refine Tr.le (Le.keep [2, 3, 7, 9, 10, 34, 35, 36]) ?_; simp only [List.map_cons, List.map_nil, lk, Nat.reduceEqDiff, reduceIte]
    (repeat (first | refine TS.imp ?_ | refine n9 (by decide) ?_))
    refine TR.imp ?_; intro K hK; simp only [go_sem, hP, hn]; (repeat refine vc ?_); refine hK _ ?_; clear K hK
    (repeat (first | refine TS.imp ?_ | refine n9 (by decide) ?_))
    refine TR.imp ?_; intro K hK; simp only [go_sem, hP, hn]; (repeat refine vc ?_); refine hK _ ?_; clear K hK
    (repeat (first | refine TS.imp ?_ | refine n9 (by decide) ?_))
    refine Tr.le (Le.keep [2, 3, 7, 9, 10, 11, 34, 35, 36, 51, 52, 53]) ?_; simp only [List.map_cons, List.map_nil, lk, Nat.reduceEqDiff, reduceIte]
    refine Tr.loop (fun p s => ∃ (j : Int) (I : List Int), s = ⟨[(2, .fn fk []), (3, .ptr 3 0), (7, .own 29), (9, .d (.i .i64 i)), (10, .ptr 10 0), (11, .own 49), (34, .d (.row [.i .i64 0] (os.map intC))), (35, .d (.i .i64 os.length)), (36, .d (.i .i64 k)), (51, .d (.row [.i .i64 0] (n.inn.map intC))), (52, .d (.i .i64 n.inn.length)), (53, .d (.i .i64 j))], [(49, .row 3 [.i .i64 0] (I.map intC)), (10, .box 50 n.cs), (29, .row 3 [.i .i64 0] (o.map intC)), (3, .box 26 (gcs wd lo hi out (.d (rowN ns))))]⟩ ∧ 0 ≤ j ∧ j + p = n.inn.length ∧ I.length = n.inn.length ∧ I.take j.toNat = (n.inn.map (rd o)).take j.toNat) n.inn.length ⟨_, (Le.mv (by simp only [go_sem, hP, hn]; first | done | (simp; done) | (simp [intC]; done) | (repeat (first | rfl | constructor))) (by simp only [go_sem, hP, hn]; first | done | (simp; done) | (simp [intC]; done) | (repeat (first | rfl | constructor)))), 0, List.replicate n.inn.length 0, rfl, by omega, by omega, by simp, by simp⟩ ?_
    rintro p s ⟨j, I, rfl, j0, jp, hI, hIt⟩
    (repeat (first | refine TS.imp ?_ | refine n9 (by decide) ?_))
    refine TR.imp ?_; intro K hK; simp only [go_sem, hP, hn]; (repeat refine vc ?_); refine hK _ ?_; clear K hK
    (repeat (first | refine TS.imp ?_ | refine n9 (by decide) ?_))
    refine Tr.cond rfl (fun hb => ?_) (fun hb => ?_)
    · have hjl : j < n.inn.length := by simpa using hb
      clear hb
      have hjo := hj _ (rd_mem j0 hjl)
      (repeat (first | refine TS.imp ?_ | refine n9 (by decide) ?_))
      refine TR.imp ?_; intro K hK; simp only [go_sem, hP, hn]; (repeat refine vc ?_); refine hK _ ?_; clear K hK
      (repeat (first | refine TS.imp ?_ | refine n9 (by decide) ?_))
      refine TR.imp ?_; intro K hK; simp only [go_sem, hP, hn]; (repeat refine vc ?_); refine hK _ ?_; clear K hK
      (repeat (first | refine TS.imp ?_ | refine n9 (by decide) ?_))
      refine TR.imp ?_; intro K hK; simp only [go_sem, hP, hn]; (repeat refine vc ?_); refine hK _ ?_; clear K hK
      (repeat (first | refine TS.imp ?_ | refine n9 (by decide) ?_))
      rw [w64 (x := j + 1) (by omega) (by omega)]
      refine ⟨p - 1, _, by omega, ?_, j + 1, I.set j.toNat (rd o (rd n.inn j)), rfl, by omega, by omega, by simpa using hI, ?_⟩
      · exact (Le.mv (by simp only [go_sem, hP, hn]; first | done | (simp; done) | (simp [intC]; done) | (repeat (first | rfl | constructor))) (by simp only [go_sem, hP, hn]; first | done | (simp; done) | (simp [intC]; done) | (repeat (first | rfl | constructor))))
      · have hk1 : j.toNat < I.length := by omega
        have hk2 : j.toNat < n.inn.length := by omega
        rw [show (j + 1).toNat = j.toNat + 1 by omega, List.take_succ_eq_append_getElem (by simpa using hk1), List.take_succ_eq_append_getElem (by simpa using hk2), List.take_set_of_le (Nat.le_refl _), hIt]
        simp [rd, List.getD, hk2]
    · have hjl : j = n.inn.length := by have := of_decide_eq_false hb; omega
      clear hb
      have hII : I = n.inn.map (rd o) := by
        rw [hjl, Int.toNat_natCast, List.take_of_length_le (by omega), List.take_of_length_le (by simp)] at hIt
        exact hIt
      subst hII
      clear hI hIt j0 jp hjl
      refine Tr.le (Le.freeze 49) ?_
      simp only [go_sem, hP, hn]
      refine Tr.le (Le.keep [2, 3, 7, 9, 10, 11, 34, 35, 36]) ?_; simp only [List.map_cons, List.map_nil, lk, Nat.reduceEqDiff, reduceIte]
      (repeat (first | refine TS.imp ?_ | refine n9 (by decide) ?_))
      refine TR.imp ?_; intro K hK; simp only [go_sem, hP, hn]
      (repeat refine vc ?_)
      refine c1 (by rw [hP, hT]; exact hgc) rfl rfl rfl trivial (by simp only [go_sem, hP, hn]; try trivial) (by simp only [go_sem, hP, hn]; try rfl) (by rw [hn]; decide) (by rfl) ?_; simp only [go_sem, hP, hn]; (repeat refine vc ?_)
      refine hK _ ?_; clear K hK
      (repeat (first | refine TS.imp ?_ | refine n9 (by decide) ?_))
      refine TR.imp ?_; intro K hK; simp only [go_sem, hP, hn]; (repeat refine vc ?_); refine hK _ ?_; clear K hK
      (repeat (first | refine TS.imp ?_ | refine n9 (by decide) ?_))
      rw [w64 (x := k + 1) (by omega) (by omega)]
      refine ⟨q - 1, _, by omega, ?_, k + 1, _, rfl, by omega, by omega, by simpa using hol2, hst⟩
      exact (Le.mv (by simp only [go_sem, hP, hn]; first | done | (simp; done) | (simp [intC]; done) | (repeat (first | rfl | constructor))) (by simp only [go_sem, hP, hn]; first | done | (simp; done) | (simp [intC]; done) | (repeat (first | rfl | constructor))))
  · rw [drop_end (by simpa using hb)] at hst
    simp only [ordL] at hst
    subst hst
    refine Tr.le (Le.keep [7]) ?_; simp only [List.map_cons, List.map_nil, lk, Nat.reduceEqDiff, reduceIte]
    refine Tr.le (Le.freeze 29) ?_
    simp only [go_sem, hP, hn]
    (repeat (first | (refine TR.imp ?_; intro K hK; simp only [go_sem, hP, hn]; (repeat refine vc ?_); refine hK _ ?_; clear K hK) | refine TS.imp ?_ | refine n9 (by decide) ?_))
    simp only [RetG, go_sem]; (repeat with_reducible refine vc ?_)
section
attribute [local go_sem] frD insD rtup
section
variable {T : World → Prop} {wd lo hi out : Int} {ns : List Nd} {W R : Int → Int} {rk : Int → Nat} {W2 R2 : List Int} (h : GF wd lo hi out ns W R rk W2 R2)
include h
theorem GF.cntO_ready (N : Int) : cntO ns (order ns) Nd.ready N = cntO ns (order ns) Nd.rReady N := by
  have e : cntL ns Nd.ready N = cntL ns Nd.rReady N := h.cntL_ready N
  unfold cntL at e
  unfold cntO
  rw [e]
end
theorem Readies_w {T : World → Prop} (Tk : KT T) {wd lo hi out : Int} {ns : List Nd} {W R : Int → Int} {rk : Int → Nat} {W2 R2 : List Int} (h : GF wd lo hi out ns W R rk W2 R2) (N : Int) :
    Cg Go.Proofs.Tryd.prog T 29 [] [.agg (gcs wd lo hi out (.d (rowN ns))), .d (.i .i64 N)] (fun r H => H = [] ∧ r = .d (.row [.i .i64 0] ((cntO ns (order ns) Nd.rReady N).map intC))) := by
  have hn0 := h.n0
  have cC := counted_c Tk wd lo hi out N 53 Nd.ready ns _ _ _ (by omega) h.inn h.look h.co (fun n l hl hst => kReady_k Tk n l hl (fun _ => by rw [stp_eqW]; exact hst))
  rw [h.cntO_ready] at cC
  refine Cg_of [] Tk.m Go.Proofs.Tryd.func29 rfl rfl Go.Proofs.Tryd.ntmps29 (by simp) rfl (rs := [.tmp 4]) rfl fun E hP hn hT hpn => ?_
  (repeat (first | refine TS.imp ?_ | refine n9 (by decide) ?_))
  refine TR.imp ?_; intro K hK; simp only [go_sem, hP, hn]; (repeat refine vc ?_); refine hK _ ?_; clear K hK
  (repeat (first | refine TS.imp ?_ | refine n9 (by decide) ?_))
  refine TR.imp ?_; intro K hK; simp only [go_sem, hP, hn]
  (repeat refine vc ?_)
  refine CallN_cs (Hi := [] ) (by rw [hP, hT]; exact  cC) rfl rfl rfl trivial (by simp only [go_sem, hP, hn]; try trivial) (by simp only [go_sem, hP, hn]; try rfl) (by simp only [inH, go_sem, hP, hn]; try simp) (by rw [hn]; decide) ?_; simp only [go_sem, hP, hn]; (repeat refine vc ?_)
  refine hK _ ?_; clear K hK
  (repeat (first | refine TS.imp ?_ | refine n9 (by decide) ?_))
  simp only [RetG, go_sem]; (repeat with_reducible refine vc ?_)
theorem inF_g7 (o : List (List (List Int))) (i : Int) : inF o i = ga [] o i := rfl
/-- a made graph's frames: all of a node, and those that are ready -/
def outL (ns : List Nd) (W : List Int) (out : Int) (fs : List (List Int)) : List (List Int) := inF (strL ns W fs) out
def rdyN (ns : List Nd) (out many : Int) : Int := rd (cntL ns Nd.rReady many) out
theorem Eval_w {T : World → Prop} (Tk : KT T) {wd lo hi out : Int} {ns : List Nd} {W R : Int → Int} {rk : Int → Nat} {W2 R2 : List Int} (h : GF wd lo hi out ns W R rk W2 R2) {many : Int} {fs : List (List Int)} (hfs : Fin18 wd lo hi many fs) (hm : 0 ≤ many ∧ many ≤ 1000) :
    Cg Go.Proofs.Tryd.prog T 27 [] [.agg (gcs wd lo hi out (.d (rowN ns))), .d (frD fs)] (fun r H => H = [] ∧ r = .tup [.d (frD (outL ns W2 out fs)), .d (.i .i64 0)]) := by
  have cS := Streams_w Tk h hfs hm
  have hrg := may_rng h.may
  have hsl := strL_len ns W2 fs
  have hri := rw_ins (strL ns W2 fs) out (by omega) (by omega)
  have o1 : 0 ≤ out ∧ out < (strL ns W2 fs).length := by omega
  have o2 : out.toNat < (strL ns W2 fs).length := by omega
  unfold outL
  refine Cg_of [] Tk.m Go.Proofs.Tryd.func27 rfl rfl Go.Proofs.Tryd.ntmps27 (by simp) rfl (rs := [.tmp 4, .tmp 5]) rfl fun E hP hn hT hpn => ?_
  (repeat (first | refine TS.imp ?_ | refine n9 (by decide) ?_))
  refine TR.imp ?_; intro K hK; simp only [go_sem, hP, hn]; (repeat refine vc ?_); refine hK _ ?_; clear K hK
  (repeat (first | refine TS.imp ?_ | refine n9 (by decide) ?_))
  refine TR.imp ?_; intro K hK; simp only [go_sem, hP, hn]
  (repeat refine vc ?_)
  refine CallN_cs (Hi := [] ) (by rw [hP, hT]; exact  cS) rfl rfl rfl trivial (by simp only [go_sem, hP, hn]; try trivial) (by simp only [go_sem, hP, hn]; try rfl) (by simp only [inH, go_sem, hP, hn]; try simp) (by rw [hn]; decide) ?_; simp only [go_sem, hP, hn]; (repeat refine vc ?_)
  refine hK _ ?_; clear K hK
  (repeat (first | refine TS.imp ?_ | refine n9 (by decide) ?_))
  refine TR.imp ?_; intro K hK; simp only [go_sem, hP, hn]; (repeat refine vc ?_); refine hK _ ?_; clear K hK
  (repeat (first | refine TS.imp ?_ | refine n9 (by decide) ?_))
  refine Tr.cond rfl (fun hb => ?_) (fun hb => ?_)
  · cases hb
  clear hb
  (repeat (first | refine TS.imp ?_ | refine n9 (by decide) ?_))
  refine TR.imp ?_; intro K hK; simp only [hri, go_sem, hP, hn]
  (repeat refine vc ?_)
  refine hK _ ?_; clear K hK
  (repeat (first | refine TS.imp ?_ | refine n9 (by decide) ?_))
  simp only [RetG, go_sem]; (repeat with_reducible refine vc ?_)
theorem Ready_w {T : World → Prop} (Tk : KT T) {wd lo hi out : Int} {ns : List Nd} {W R : Int → Int} {rk : Int → Nat} {W2 R2 : List Int} (h : GF wd lo hi out ns W R rk W2 R2) {many : Int} {fs : List (List Int)} (hfs : Fin18 wd lo hi many fs) (hm : 0 ≤ many ∧ many ≤ 1000) :
    Cg Go.Proofs.Tryd.prog T 26 [] [.agg (gcs wd lo hi out (.d (rowN ns))), .d (frD fs)] (fun r H => H = [] ∧ r = .tup [.d (frD ((outL ns W2 out fs).take (rdyN ns out many).toNat)), .d (.i .i64 0)]) := by
  have cE := Eval_w Tk h hfs hm
  have hrg := may_rng h.may
  have cR := Readies_w Tk h many
  have hl0 := hfs.len
  rw [show cntO ns (order ns) Nd.rReady many = cntL ns Nd.rReady many from if_neg (by unfold many62; simp; omega)] at cR
  have hl := h.lens hfs hm 12 out (by omega) (by omega) (h.rank out (by omega) (by omega))
  have hcl : (cntL ns Nd.rReady many).length = ns.length + 1 := by unfold cntL; rw [ordL_len]; simp
  have o1 : 0 ≤ out ∧ out < (cntL ns Nd.rReady many).length := by omega
  have hr1 : 0 ≤ rdyN ns out many ∧ rdyN ns out many ≤ (outL ns W2 out fs).length := by
    unfold rdyN outL
    rw [inF_g7]
    omega
  have hrd : rd (cntL ns Nd.rReady many) out = rdyN ns out many := rfl
  generalize outL ns W2 out fs = L at *
  generalize rdyN ns out many = c at *
  generalize cntL ns Nd.rReady many = CL at *
  refine Cg_of [] Tk.m Go.Proofs.Tryd.func26 rfl rfl Go.Proofs.Tryd.ntmps26 (by simp) rfl (rs := [.tmp 4, .tmp 5]) rfl fun E hP hn hT hpn => ?_
  (repeat (first | refine TS.imp ?_ | refine n9 (by decide) ?_))
  refine TR.imp ?_; intro K hK; simp only [go_sem, hP, hn]; (repeat refine vc ?_); refine hK _ ?_; clear K hK
  (repeat (first | refine TS.imp ?_ | refine n9 (by decide) ?_))
  refine TR.imp ?_; intro K hK; simp only [go_sem, hP, hn]
  (repeat refine vc ?_)
  refine CallN_cs (Hi := [] ) (by rw [hP, hT]; exact  cE) rfl rfl rfl trivial (by simp only [go_sem, hP, hn]; try trivial) (by simp only [go_sem, hP, hn]; try rfl) (by simp only [inH, go_sem, hP, hn]; try simp) (by rw [hn]; decide) ?_; simp only [go_sem, hP, hn]; (repeat refine vc ?_)
  refine hK _ ?_; clear K hK
  (repeat (first | refine TS.imp ?_ | refine n9 (by decide) ?_))
  refine TR.imp ?_; intro K hK; simp only [go_sem, hP, hn]; (repeat refine vc ?_); refine hK _ ?_; clear K hK
  (repeat (first | refine TS.imp ?_ | refine n9 (by decide) ?_))
  refine Tr.cond rfl (fun hb => ?_) (fun hb => ?_)
  · cases hb
  clear hb
  refine Tr.le (Le.keep [1, 2, 6]) ?_; simp only [List.map_cons, List.map_nil, lk, Nat.reduceEqDiff, reduceIte]
  (repeat (first | refine TS.imp ?_ | refine n9 (by decide) ?_))
  refine d5 (.p true 0 (.p true 1 (.p true 2 (.p true 3 (.p true 5 (.p true 6 (.alt 4 (.p false 7 (.alt 8 (.p false 9 (.p false 10 (.p true 11 .nil))) .nil)) .nil))))))) [] (by rw [hP]; kernel_rfl) (by kernel_rfl) (by simp only [go_sem, hP, hn]; try simp) (by exact fun _ _ h => h) ?_; intro K hK; simp only [go_sem, hP, hn]
  have hr2 : 0 ≤ rd CL out ∧ rd CL out ≤ L.length := by rw [hrd]; exact hr1
  have hr3 : (rd CL out).toNat ≤ L.length := by omega
  rw [← hl0] at cR
  (repeat refine vc ?_)
  refine CallP_cs (by rw [hP, hT]; exact cR) rfl rfl rfl trivial (by simp only [go_sem, hP, hn]; try trivial) (by simp only [go_sem, hP, hn]; try rfl) (by rw [hn]; decide) ?_; simp only [go_sem, hP, hn]; (repeat refine vc ?_)
  refine hK _ ?_; clear K hK
  (repeat (first | refine TS.imp ?_ | refine n9 (by decide) ?_))
  simp only [RetG, go_sem]; (repeat with_reducible refine vc ?_)
  rw [hrd, List.map_take]
end
section
attribute [local go_sem] frD insD rtup
/-! the chapter's example -/
def nM18 : Nd := ⟨4, [0], 0, 3, 1, 1, 1, 1, [], [], 0, 0, 0, 0, 0⟩
theorem nM18_ng : NodeG 1 nM18 (fun _ => 1) (fun _ => 1) Int.toNat 1 := ⟨by decide, by decide, fun j hj => by
    have : j = 0 := by simpa [nM18] using hj
    subst this; decide, by decide +kernel, by decide +kernel, by decide +kernel, fun _ _ _ _ => rfl, fun _ _ e => absurd e (by decide), by decide, by decide, by decide +kernel, by decide +kernel, by decide +kernel, by decide +kernel, rfl⟩
theorem nM18_gg : GG 1 [nM18] (fun _ => 1) (fun _ => 1) Int.toNat := ⟨rfl, rfl, rfl, fun i i1 i2 => by
  have : i = 1 := by simp at i2; omega
  subst this
  exact ⟨nM18_ng, by decide⟩⟩
theorem aw18_look : lookG 1 0 9 1 [nM18] = (0, order [nM18], [1, 1], [1, 1]) := by decide +kernel
theorem aw18_gf : GF 1 0 9 1 [nM18] (fun _ => 1) (fun _ => 1) Int.toNat [1, 1] [1, 1] := ⟨nM18_gg, by decide, aw18_look, rfl, rfl, fun x h0 h1 => by
  have : x = 0 ∨ x = 1 := by simp at h1; omega
  rcases this with rfl | rfl <;> exact ⟨rfl, rfl⟩, by decide⟩
def fs18 : List (List Int) := [[3], [6], [9]]
theorem fs18_fin : Fin18 1 0 9 3 fs18 := ⟨rfl, by decide, by decide⟩
theorem out18 : outL [nM18] [1, 1] 1 fs18 = [[3], [6], [5]] := by decide +kernel
theorem rdy18 : rdyN [nM18] 1 3 = 2 := by decide +kernel
end
section
attribute [local go_sem] frD insD nM18 fs18
theorem awake18_c {T : World → Prop} (Tk : KT T) : Cg Go.Proofs.Tryd.prog T 24 [] [] (fun r H => H = [] ∧ r = .d (.b true)) := by
  have cE := Eval_w Tk aw18_gf fs18_fin (by decide)
  have cR := Ready_w Tk aw18_gf fs18_fin (by decide)
  rw [out18] at cE cR
  rw [rdy18, show ([[3], [6], [5]] : List (List Int)).take (2 : Int).toNat = [[3], [6]] from rfl] at cR
  refine Cg_of [] Tk.m Go.Proofs.Tryd.func24 rfl rfl Go.Proofs.Tryd.ntmps24 (by simp) rfl (rs := [.tmp 0]) rfl fun E hP hn hT hpn => ?_
  (repeat (first | refine TS.imp ?_ | refine n9 (by decide) ?_))
  refine TR.imp ?_; intro K hK; simp only [go_sem, hP, hn]; (repeat refine vc ?_); refine hK _ ?_; clear K hK
  (repeat (first | refine TS.imp ?_ | refine n9 (by decide) ?_))
  refine TR.imp ?_; intro K hK; simp only [go_sem, hP, hn]; (repeat refine vc ?_); refine hK _ ?_; clear K hK
  refine Tr.le (Le.keep [1]) ?_; simp only [List.map_cons, List.map_nil, lk, Nat.reduceEqDiff, reduceIte]
  refine Tr.le (Le.wrow 10 ([nM18].map Nd.ds) rfl ⟨by simp [Aw.wd, Nd.ds, nM18, intC], trivial⟩) ?_
  simp only [go_sem, hP, hn]
  refine Tr.le (Le.freeze 10) ?_
  simp only [go_sem, hP, hn]
  (repeat (first | refine TS.imp ?_ | refine n9 (by decide) ?_))
  refine TR.imp ?_; intro K hK; simp only [go_sem, hP, hn]
  (repeat refine vc ?_)
  refine CallN_frz 17 ?_; simp only [go_sem, hP, hn]
  refine CallN_cs (Hi := [] ) (by rw [hP, hT]; exact  cE) rfl rfl rfl trivial (by simp only [go_sem, hP, hn]; try trivial) (by simp only [go_sem, hP, hn]; try rfl) (by simp only [inH, go_sem, hP, hn]; try simp) (by rw [hn]; decide) ?_; simp only [go_sem, hP, hn]; (repeat refine vc ?_)
  refine hK _ ?_; clear K hK
  refine Tr.le (Le.keep [1, 2, 3]) ?_; simp only [List.map_cons, List.map_nil, lk, Nat.reduceEqDiff, reduceIte]
  (repeat (first | refine TS.imp ?_ | refine n9 (by decide) ?_))
  refine TR.imp ?_; intro K hK; simp only [go_sem, hP, hn]
  (repeat refine vc ?_)
  refine CallN_frz 26 ?_; simp only [go_sem, hP, hn]
  refine CallN_cs (Hi := [] ) (by rw [hP, hT]; exact  cR) rfl rfl rfl trivial (by simp only [go_sem, hP, hn]; try trivial) (by simp only [go_sem, hP, hn]; try rfl) (by simp only [inH, go_sem, hP, hn]; try simp) (by rw [hn]; decide) ?_; simp only [go_sem, hP, hn]; (repeat refine vc ?_)
  refine hK _ ?_; clear K hK
  refine Tr.le (Le.keep [2, 3, 4, 5]) ?_; simp only [List.map_cons, List.map_nil, lk, Nat.reduceEqDiff, reduceIte]
  (repeat (first | refine TS.imp ?_ | refine n9 (by decide) ?_))
  refine TR.imp ?_; intro K hK; simp only [go_sem, hP, hn]
  (repeat refine vc ?_)
  refine CallN_frz 34 ?_; simp only [go_sem, hP, hn]
  refine c1 (by rw [hP, hT]; exact Same18_c Tk.m [[3], [6], [5]] [[3], [6], [5]] (by decide) (by decide)) rfl rfl rfl trivial (by simp only [go_sem, hP, hn]; try trivial) (by simp only [go_sem, hP, hn]; try rfl) (by rw [hn]; decide) (by rfl) ?_; simp only [go_sem, hP, hn]; (repeat refine vc ?_)
  refine hK _ ?_; clear K hK
  refine Tr.le (Le.keep [3, 4, 5, 6]) ?_; simp only [List.map_cons, List.map_nil, lk, Nat.reduceEqDiff, reduceIte]
  (repeat (first | refine TS.imp ?_ | refine n9 (by decide) ?_))
  refine TR.imp ?_; intro K hK; simp only [go_sem, hP, hn]
  (repeat refine vc ?_)
  refine CallN_frz 39 ?_; simp only [go_sem, hP, hn]
  refine c1 (by rw [hP, hT]; exact Same18_c Tk.m [[3], [6]] [[3], [6]] (by decide) (by decide)) rfl rfl rfl trivial (by simp only [go_sem, hP, hn]; try trivial) (by simp only [go_sem, hP, hn]; try rfl) (by rw [hn]; decide) (by rfl) ?_; simp only [go_sem, hP, hn]; (repeat refine vc ?_)
  refine hK _ ?_; clear K hK
  refine Tr.le (Le.keep [3, 5, 6, 7]) ?_; simp only [List.map_cons, List.map_nil, lk, Nat.reduceEqDiff, reduceIte]
  (repeat (first | (refine TR.imp ?_; intro K hK; simp only [go_sem, hP, hn]; (repeat refine vc ?_); refine hK _ ?_; clear K hK) | refine TS.imp ?_ | refine n9 (by decide) ?_))
  simp only [RetG, go_sem]; (repeat with_reducible refine vc ?_)
  all_goals simp
end
section
attribute [local go_sem] PMade frD
/-- a call in a drawn region whose answer is told by what it has -/
theorem CallP_rx {E : Env} {ops : List Oper} {o : Oper} {s sr : St} {nw wr : List Nat} {AP' : St → St → List Nat → Prop} {fx : Operand} {args : Array Operand} {ts : Array TypeId} {f : Nat} {caps xs : List S} {d : Nat} {Q0 : S → Prop}
    (C : Cg E.P E.T f [] xs (fun r H => H = [] ∧ Q0 r)) (ho : o.op = .call { callee := .value fx, args := args, argTypes := ts }) (hd : o.dst = some d) (hf : stp (ev s fx) = .fn f caps) (c1 : stc (ev s fx)) (c2 : stcL s args.toList)
    (hxs : stpL s args.toList ++ caps = xs) (hdn : d < E.n) (hr : ∀ r, Q0 r → AP' ⟨(d, r) :: s.t, s.h⟩ ⟨(d, .any) :: sr.t, sr.h⟩ nw) : CallP E ops wr o none s sr nw AP' := by
  intro Q Kc a w η h _ hg hK
  rw [if_pos (by simp [Region.wanted, hg rfl])]
  obtain ⟨vs, h1, h2⟩ := call_run h ho hf c1 c2 C.1
  unfold Oper.wp
  rw [h1]
  show Calls E.P f vs.toArray w _
  refine (C.2 (Fr E s.h η) w η vs h.hT (In.of h (show inH s.h [] from trivial)) (hxs ▸ h2)).mono ?_
  rintro e w' ⟨r, v, Ho, η', rfl, ⟨rfl, hq⟩, hv, hO⟩
  have hη : η' = η := funext fun k => hO.eta k rfl
  subst hη
  obtain ⟨hR, hG, hS⟩ := hO.rel h (show inH s.h [] from trivial) fun k' hk' => by rw [newK_same] at hk'; cases hk'
  have hi : inH s.h [] := trivial
  have hR2 : Rel E s a w' η' := by
    have := hR.ext (h' := s.h) fun k => (cgS_same hi k).symm
    rw [show (cgS s [] []).t = s.t by show killT (newK [] []) s.t = s.t; rw [newK_same, killT_none]] at this
    exact this
  have hF : Sub (Fr E (cgS s [] []).h η') w' (Fr E s.h η') w' := fun b o hb ho => ⟨⟨hb.1, fun k o' hk => hb.2 k o' (by rw [cgS_same hi k]; exact hk)⟩, ho⟩
  refine hK d ⟨(d, r) :: s.t, s.h⟩ v w' η' [] hd (by simp [subL]) (by rw [hd]; exact hR2.put hdn (RS.mono hF _ _ (RS.mono hG _ _ hv))) ⟨hS.trans hF, fun j _ => rfl, fun j b e _ => (by cases e), hO.bel.size, fun b o2 hb hn => ?_⟩ (hr r hq)
  rw [hO.bel.block b (Array.getElem?_eq_some_iff.1 hb).1 fun ⟨k', o', h3, h4⟩ => by cases h3]
  exact hb
theorem many25 (m : Int) : 0 ≤ Int.tmod (wrap64 (Int.tmod m 25 + 25)) 25 ∧ Int.tmod (wrap64 (Int.tmod m 25 + 25)) 25 ≤ 24 := by
  have h2 := Int.lt_tmod_of_pos m (show (0 : Int) < 25 by decide)
  have h3 := Int.tmod_lt_of_pos m (show (0 : Int) < 25 by decide)
  rw [w64 (x := Int.tmod m 25 + 25) (by omega) (by omega)]
  have h4 := Int.tmod_nonneg (25 : Int) (show 0 ≤ Int.tmod m 25 + 25 by omega)
  have h5 := Int.tmod_lt_of_pos (Int.tmod m 25 + 25) (show (0 : Int) < 25 by decide)
  omega
/-- a made graph, and frames of its input -/
def PQ18 (r : S) (H : Hp) : Prop := ∃ wd lo hi out ns many fs, r = .tup [.agg (gcs wd lo hi out (.d (rowN ns))), .d (frD fs)] ∧ H = [] ∧ GM wd lo hi out ns ∧ Fin18 wd lo hi many fs ∧ 0 ≤ many ∧ many ≤ 24
theorem made18_c {T : World → Prop} (Tm : TP T) (l xs : List Int) (m : Int) : Cg Go.Proofs.Tryd.prog T 25 [] [.agg [.d (.row [.i .i64 0] (l.map intC)), .d (.row [.i .i64 0] (xs.map intC)), .d (.i .i64 m)]] PQ18 := by
  refine Cg_of [] Tm Go.Proofs.Tryd.func25 rfl rfl Go.Proofs.Tryd.ntmps25 (by simp) rfl (rs := [.cell 2 26, .tmp 3]) rfl fun E hP hn hT hpn => ?_
  (repeat (first | refine TS.imp ?_ | refine n9 (by decide) ?_))
  refine TR.imp ?_; intro K hK; simp only [go_sem, hP, hn]; (repeat refine vc ?_); refine hK _ ?_; clear K hK
  (repeat (first | refine TS.imp ?_ | refine n9 (by decide) ?_))
  refine TR.imp ?_; intro K hK; simp only [go_sem, hP, hn]
  (repeat refine vc ?_)
  refine CallN_cx (Hi := []) (by rw [hP, hT]; exact Made16_c Tm l ) rfl rfl rfl trivial (by simp only [go_sem, hP, hn]; try trivial) (by simp only [go_sem, hP, hn]; try rfl) trivial (by rw [hn]; decide) (fun r Ho hr => ?_); obtain  ⟨wd, lo, hi, out, ns, rfl, rfl, hG⟩ := hr; refine ⟨fun k _ => hpn k rfl, ?_⟩; simp only [cgS, newK, touK, go_sem, hP, hn]; (repeat refine vc ?_)
  refine hK _ ?_; clear K hK
  refine Tr.le (Le.freeze 2000) ?_
  simp only [go_sem, hP, hn]
  obtain ⟨W, R, rk, W2, R2, hF⟩ := hG.gf
  have hwd := hG.wd0
  have hlo := hG.lo0
  have hhi := hG.hi0
  have hmm := many25 m
  (repeat (first | refine TS.imp ?_ | refine n9 (by decide) ?_))
  refine d5 (.p true 0 (.p true 1 (.p true 2 (.p true 3 (.p true 4 (.p true 5 (.p true 6 (.p true 7 (.p true 8 (.alt 9 (.alt 10 (.p false 11 .nil) .nil) .nil)))))))))) [2] (by rw [hP]; kernel_rfl) (by kernel_rfl) (by simp only [go_sem, hP, hn]; try simp) (by exact fun _ _ h => h) ?_; intro K hK; simp only [go_sem, hP, hn]
  generalize Int.tmod (wrap64 (Int.tmod m 25 + 25)) 25 = many at *
  (repeat refine vc ?_)
  refine CallP_rx (by rw [hP, hT]; exact Made18_c Tm wd lo hi out many ns xs ⟨by omega, by omega⟩ (by omega) ⟨by omega, by omega⟩ ⟨by omega, by omega⟩) rfl rfl rfl trivial (by simp only [go_sem, hP, hn]; try trivial) (by simp only [go_sem, hP, hn]; try rfl) (by rw [hn]; decide) (fun r hr => ?_)
  obtain ⟨fs, hfs, rfl⟩ := hr
  simp only [go_sem, hP, hn]
  (repeat refine vc ?_)
  refine hK _ ?_; clear K hK
  (repeat (first | refine TS.imp ?_ | refine n9 (by decide) ?_))
  simp only [RetG, go_sem]; (repeat with_reducible refine vc ?_)
  exact ⟨wd, lo, hi, out, ns, many, fs, rfl, rfl, hG, hfs, hmm.1, hmm.2⟩
end
set_option maxRecDepth 100000
/-! what is ready stays, whatever frames come behind -/
theorem inpF_win2 {n : Nd} {w : Nat} {a b : List (List Int)} {k : Int} (hwin : rWin n.k = true) (h : ∀ j : Nat, j < n.size.toNat → ∀ t : Int, t = wrap64 (n.rFirst k + wrap64 ((j : Nat) * gapV n)) → atV a t w = atV b t w) :
    inpF n [a] w k = inpF n [b] w k := by
  unfold inpF
  rw [if_pos hwin, if_pos hwin]
  refine List.map_congr_left fun j hj => ?_
  exact h j (List.mem_range.1 hj) _ rfl
theorem fr_eq_take {a b : List (List Int)} {n : Nat} (ha : n ≤ a.length) (hb : n ≤ b.length) (h : ∀ k : Int, 0 ≤ k → k < n → fr a k = fr b k) : a.take n = b.take n := by
  apply List.ext_getElem?
  intro j
  rw [List.getElem?_take, List.getElem?_take]
  split
  · rename_i hj
    have := h (j : Int) (by omega) (by omega)
    unfold fr at this
    rw [Int.toNat_natCast, List.getD_eq_getElem?_getD, List.getD_eq_getElem?_getD, List.getElem?_eq_getElem (by omega), List.getElem?_eq_getElem (by omega)] at this
    rw [List.getElem?_eq_getElem (by omega), List.getElem?_eq_getElem (by omega)]
    exact congrArg some this
  · rfl
section
variable {wd lo hi out : Int} {ns : List Nd} {W R : Int → Int} {rk : Int → Nat} {W2 R2 : List Int} (h : GF wd lo hi out ns W R rk W2 R2)
include h
/-- which frames are there -/
theorem GF.has_fr {N : Int} {fs : List (List Int)} (hfs : Fin18 wd lo hi N fs) (hN : 0 ≤ N ∧ N ≤ 1000) {i k : Int} (i0 : 0 ≤ i) (i1 : i ≤ ns.length) (hp : 0 < R i) (k0 : 0 ≤ k) (hk : k * R i + rd (hiL ns R2) i ≤ N - 1) : k < (ga [] (strL ns W2 fs) i).length := by
  have hw := h.wants (N := N) (by omega) i i0 i1
  rw [(h.eq i i0 i1).2] at hw
  have hl := h.lens hfs hN 12 i i0 i1 (h.rank i i0 i1)
  have h1 := Int.mul_nonneg k0 (show 0 ≤ R i by omega)
  rw [hw.2.2, if_pos ⟨hp, by omega⟩] at hl
  have h2 : k ≤ (N - 1 - rd (hiL ns R2) i) / R i := (Int.le_ediv_iff_mul_le hp).2 (by omega)
  omega
theorem GF.pre {K N : Int} {fs gs : List (List Int)} (hfs : Fin18 wd lo hi N fs) (hgs : Fin18 wd lo hi K gs) (hK : 0 ≤ K ∧ K ≤ N) (hN : N ≤ 1000) (hsame : ∀ t : Int, 0 ≤ t → t < K → fr fs t = fr gs t) : ∀ (r : Nat), r ≤ 12 → ∀ i : Int, 0 ≤ i → i ≤ ns.length → rk i ≤ r → 0 < R i → ∀ k : Int, 0 ≤ k → k * R i + rd (hiL ns R2) i ≤ K - 1 → fr (ga [] (strL ns W2 fs) i) k = fr (ga [] (strL ns W2 gs) i) k
  | r, hr, i, i0, i1, hk => fun hp k k0 hle => by
    obtain ⟨v0, v⟩ := h.gg.hi_eq (fun x a b => (h.eq x a b).2)
    obtain ⟨fA0, fA⟩ := h.strL_fx fs
    obtain ⟨fB0, fB⟩ := h.strL_fx gs
    have kA := h.has_fr hfs (by omega) i0 i1 hp k0 (by omega)
    have kB := h.has_fr hgs (by omega) i0 i1 hp k0 hle
    rcases Int.lt_or_le 0 i with i2 | i2
    · have hn := (h.gg.node i i2 i1).1
      have hw := hn.wf
      obtain ⟨e, hst⟩ := hn.rate_v
      have hv := v i i2 i1
      have hRi := (h.eq i i0 i1).2
      have hin := hn.inn
      replace fA := fA i i2 i1
      replace fB := fB i i2 i1
      match r, hr, hk with
      | 0, _, hk =>
        have := hin _ (rd_mem (l := (nd ns (i - 1)).inn) (j := 0) (by omega) (by have := hn.l1; omega))
        omega
      | r + 1, hr, hk =>
        have ih : ∀ j ∈ (nd ns (i - 1)).inn, 0 < R j → ∀ k : Int, 0 ≤ k → k * R j + rd (hiL ns R2) j ≤ K - 1 → (k < (ga [] (strL ns W2 fs) j).length ∧ k < (ga [] (strL ns W2 gs) j).length) ∧ fr (ga [] (strL ns W2 fs) j) k = fr (ga [] (strL ns W2 gs) j) k := fun j hj hp k k0 hle => by
          have := hin j hj
          exact ⟨⟨h.has_fr hfs (by omega) this.1 this.2.1 hp k0 (by omega), h.has_fr hgs (by omega) this.1 this.2.1 hp k0 hle⟩, GF.pre hfs hgs hK hN hsame r (by omega) j this.1 this.2.1 (by omega) hp k k0 hle⟩
        have hRj : ∀ j ∈ (nd ns (i - 1)).inn, (0 ≤ R j ∧ R j ≤ 531441) ∧ (0 < R j → 0 ≤ rd (hiL ns R2) j ∧ rd (hiL ns R2) j ≤ 120000000) := fun j hj => by
          have := hin j hj
          have h1 := h.wants (N := 0) (by omega) j this.1 this.2.1
          rw [(h.eq j this.1 this.2.1).2] at h1
          exact ⟨h1.1, h1.2.1⟩
        have hj0 := rd_mem (l := (nd ns (i - 1)).inn) (j := 0) (by omega) (by have := hn.l1; omega)
        have hsm := fun j hj => hn.same j hj _ hj0
        have h12 := inn12 hn
        obtain ⟨_, _, _, _, hs, _⟩ := rchk_unpack hn.chk
        have hR0 : rd R2 (rd (nd ns (i - 1)).inn 0) = R (rd (nd ns (i - 1)).inn 0) := by
          have := hin _ hj0
          exact (h.eq _ this.1 this.2.1).2
        unfold frF at fA fB
        unfold hiF at hv
        rw [hRi, hR0] at hv
        clear v v0 hin hR0 hRi fA0 fB0
        generalize hAA : ga [] (strL ns W2 fs) = A at *
        generalize hBB : ga [] (strL ns W2 gs) = B at *
        generalize nd ns (i - 1) = n at *
        generalize (rd W2 (rd n.inn 0)).toNat = w at *
        unfold nodeF at fA fB
        have hlA : (A i).length = (n.rCount ((n.inn.map A).map fun s => (s.length : Int))).toNat := by rw [fA]; simp
        have hlB : (B i).length = (n.rCount ((n.inn.map B).map fun s => (s.length : Int))).toNat := by rw [fB]; simp
        generalize hra : R (rd n.inn 0) = ra at *
        have hr0 := hRj _ hj0
        rw [hra] at hr0
        have k5 : n.k ≠ 5 := fun e5 => by
          rw [e5] at e
          have e : R i = 0 := e
          omega
        rw [if_neg (by simpa using k5)] at e
        have mm := mul_le ra 531441 n.rStp 3 hr0.1.1 hr0.1.2 (by have := hw.st; omega) hw.st.2
        rw [w64 (x := ra * n.rStp) (by omega) (by omega)] at e
        have hpa : 0 < ra := by
          rcases Int.lt_or_le 0 ra with h | h
          · exact h
          · have : ra = 0 := by omega
            rw [this, Int.zero_mul] at e; omega
        have hl := hw.lf
        have hsp := hw.sp
        rw [if_neg (by simp; omega)] at hv
        have mh := mul_le ra 531441 (n.rSpan - 1 - n.rLeft) 9 hr0.1.1 hr0.1.2 (by omega) (by omega)
        have hhi : ∀ j ∈ n.inn, rd (hiL ns R2) j ≤ mostL (n.inn.map (rd (hiL ns R2))) := by
          rcases h12 with ⟨a, ea⟩ | ⟨a, b, ea⟩
          · rw [ea]; intro j hj; obtain rfl := List.mem_singleton.1 hj
            simp only [List.map_cons, List.map_nil, most1]; omega
          · rw [ea]; intro j hj
            simp only [List.map_cons, List.map_nil, most2]
            unfold mx
            split <;> rcases List.mem_cons.1 hj with rfl | hj <;> (try obtain rfl := List.mem_singleton.1 hj) <;> omega
        have hhm : 0 ≤ mostL (n.inn.map (rd (hiL ns R2))) ∧ mostL (n.inn.map (rd (hiL ns R2))) ≤ 120000000 := by
          have hb : ∀ j ∈ n.inn, 0 ≤ rd (hiL ns R2) j ∧ rd (hiL ns R2) j ≤ 120000000 := fun j hj => (hRj j hj).2 (by rw [hsm j hj]; omega)
          rcases h12 with ⟨a, ea⟩ | ⟨a, b, ea⟩
          · rw [ea] at hb ⊢
            have := hb a (by simp)
            simp only [List.map_cons, List.map_nil, most1]; omega
          · rw [ea] at hb ⊢
            have := hb a (by simp)
            have := hb b (by simp)
            simp only [List.map_cons, List.map_nil, most2]
            unfold mx
            split <;> omega
        generalize mostL (n.inn.map (rd (hiL ns R2))) = H at *
        rw [w64 (x := n.rSpan - 1) (by omega) (by omega), w64 (x := n.rSpan - 1 - n.rLeft) (by omega) (by omega), w64 (x := ra * _) (by omega) (by omega), w64 (by omega) (by omega)] at hv
        have hlen2 : (A i).length ≤ 4000 := by
          have := (h.strL_sg hfs (by omega) 12 i i0 i1 (h.rank i i0 i1)).len
          have := h.rank i i0 i1
          rw [← hAA]; omega
        have key : inpF n (n.inn.map A) w k = inpF n (n.inn.map B) w k := by
          rw [hv, e] at hle
          by_cases hwin : rWin n.k = true
          · have hm : rMany n.k = false := by
              unfold rWin at hwin; unfold rMany
              simp only [Bool.or_eq_true, beq_iff_eq] at hwin
              simp only [Bool.or_eq_false_iff, beq_eq_false_iff_ne]
              omega
            obtain ⟨a, ha⟩ := hn.one_inn hm
            have iha := ih a (by rw [ha]; simp)
            have hsa := hsm a (by rw [ha]; simp)
            have hha := hhi a (by rw [ha]; simp)
            rw [ha]
            refine inpF_win2 hwin fun j hj t ht => ?_
            obtain ⟨m, hm1, hm2, hm3⟩ := win_at hs hw hwin k0 (by omega) hj
            rw [hm1] at ht
            by_cases t0 : t < 0
            · unfold atV
              rw [if_pos (.inl t0), if_pos (.inl t0)]
            have p1 := mul_le ra ra m (n.rSpan - 1) (by omega) (Int.le_refl _) hm2 hm3
            have p2 : ra * (n.rSpan - 1 - n.rLeft) = ra * (n.rSpan - 1) - ra * n.rLeft := Int.mul_sub ..
            have p3 : t * ra = k * (ra * n.rStp) - ra * n.rLeft + ra * m := by
              rw [ht, Int.add_mul, Int.sub_mul, Int.mul_assoc, Int.mul_comm n.rStp, Int.mul_comm n.rLeft, Int.mul_comm m]
            obtain ⟨⟨q1, q2⟩, q3⟩ := iha (by omega) t (by omega) (by rw [hsa, p3]; omega)
            unfold atV
            rw [if_neg (by omega), if_neg (by omega), q3]
          · have hwin : rWin n.k = false := by simpa using hwin
            obtain ⟨o1, o2, o3, _⟩ := hw.one hwin
            rw [o1, o2, o3, Int.mul_one, show (1 : Int) - 1 - 0 = 0 by decide, Int.mul_zero] at hle
            have hX : ∀ X, inpF n X w k = X.map fun s => fr s k := fun X => by
              unfold inpF
              rw [if_neg (by rw [hwin]; decide), if_neg k5]
            rw [hX, hX, List.map_map, List.map_map]
            refine List.map_congr_left fun j hj => ?_
            have hsa := hsm j hj
            have hha := hhi j hj
            exact (ih j hj (by omega) k k0 (by rw [hsa]; omega)).2
        rw [fA, fB, fr_range k0 (by omega), fr_range k0 (by omega), Int.toNat_of_nonneg k0, key]
    · obtain rfl : i = 0 := by omega
      rw [h.gg.R0, v0] at hle
      rw [fA0, fB0]
      exact hsame k k0 (by omega)
end
section
attribute [local go_sem] frD insD PQ18
theorem Fin18.take {wd lo hi N K : Int} {fs : List (List Int)} (h : Fin18 wd lo hi N fs) (hK : 0 ≤ K ∧ K ≤ N) : Fin18 wd lo hi K (fs.take K.toNat) :=
  ⟨by rw [List.length_take]; have := h.len; omega, fun f hf => h.wid f (List.mem_of_mem_take hf), fun f hf => h.num f (List.mem_of_mem_take hf)⟩
theorem fr_take {fs : List (List Int)} {K t : Int} (t0 : 0 ≤ t) (t1 : t < K) : fr (fs.take K.toNat) t = fr fs t := by
  unfold fr
  rw [List.getD_eq_getElem?_getD, List.getD_eq_getElem?_getD, List.getElem?_take, if_pos (by omega)]
/-- what is ready stays -/
theorem GF.stays {wd lo hi out : Int} {ns : List Nd} {W R : Int → Int} {rk : Int → Nat} {W2 R2 : List Int} (h : GF wd lo hi out ns W R rk W2 R2) {K N : Int} {fs : List (List Int)} (hfs : Fin18 wd lo hi N fs) (hK : 0 ≤ K ∧ K ≤ N) (hN : N ≤ 1000) :
    (0 ≤ rdyN ns out K ∧ rdyN ns out K ≤ rdyN ns out N ∧ rdyN ns out N ≤ (outL ns W2 out fs).length ∧ rdyN ns out K ≤ (outL ns W2 out (fs.take K.toNat)).length) ∧ (outL ns W2 out (fs.take K.toNat)).take (rdyN ns out K).toNat = (outL ns W2 out fs).take (rdyN ns out K).toNat := by
  have hrg := may_rng h.may
  have hgs := hfs.take hK
  have hk := h.rank out (by omega) (by omega)
  have l1 := h.lens hfs (by omega) 12 out (by omega) (by omega) hk
  have l2 := h.lens hgs (by omega) 12 out (by omega) (by omega) hk
  have w1 := h.wants (N := N) (by omega) out (by omega) (by omega)
  have w2 := h.wants (N := K) (by omega) out (by omega) (by omega)
  unfold rdyN outL
  rw [inF_g7, inF_g7]
  have hle : rd (cntL ns Nd.rReady K) out ≤ rd (cntL ns Nd.rReady N) out := by
    rw [w1.2.2, w2.2.2]
    split
    · rename_i hp
      rw [if_pos (by omega)]
      have := Int.ediv_le_ediv (a := K - 1 - rd (hiL ns R2) out) (b := N - 1 - rd (hiL ns R2) out) hp.1 (by omega)
      omega
    · rw [← w1.2.2]; exact l1.2.1
  refine ⟨⟨l2.2.1, hle, by omega, by omega⟩, fr_eq_take (by omega) (by omega) fun k k0 k1 => ?_⟩
  have e := w2.2.2
  split at e
  · rename_i hp
    have k2 : k ≤ (K - 1 - rd (hiL ns R2) out) / rd R2 out := by omega
    have k3 := (Int.le_ediv_iff_mul_le hp.1).1 k2
    have hR := (h.eq out (by omega) (by omega)).2
    rw [hR] at k3 hp
    exact (h.pre hfs hgs hK hN (fun t t0 t1 => (fr_take t0 t1).symm) 12 (by omega) out (by omega) (by omega) hk hp.1 k k0 (by omega)).symm
  · omega
theorem GF.out_small {wd lo hi out : Int} {ns : List Nd} {W R : Int → Int} {rk : Int → Nat} {W2 R2 : List Int} (h : GF wd lo hi out ns W R rk W2 R2) {many : Int} {fs : List (List Int)} (hfs : Fin18 wd lo hi many fs) (hm : 0 ≤ many ∧ many ≤ 1000) {i : Int} (i0 : 0 ≤ i) (i1 : i ≤ ns.length) : (inF (strL ns W2 fs) i).length ≤ 65536 ∧ ∀ f ∈ inF (strL ns W2 fs) i, f.length ≤ 65536 := by
  have hk := h.rank i i0 i1
  have hs := h.strL_sg hfs hm 12 i i0 i1 hk
  have hrg := may_rng h.may
  rw [inF_g7]
  refine ⟨by have := hs.len; omega, fun f hf => ?_⟩
  have e1 := hs.wid f hf
  rcases Int.lt_or_le 0 i with i2 | i2
  · have e2 := (h.gg.node i i2 i1).1.wd
    have e3 := (rwide_range (nd ns (i - 1)) ((nd ns (i - 1)).inn.map W)).2
    omega
  · obtain rfl : i = 0 := by omega
    rw [h.gg.W0] at e1; omega
end
set_option maxRecDepth 100000
/-! a node's frames hang on the nodes under it alone -/
/-- what lies within t steps under i -/
inductive Dp (ns : List Nd) (i : Int) : Nat → Int → Prop
  | zero : Dp ns i 0 i
  | up {t : Nat} {y : Int} : Dp ns i t y → Dp ns i (t + 1) y
  | stp {t : Nat} {x y : Int} : Dp ns i t x → 1 ≤ x → x ≤ ns.length → y ∈ (nd ns (x - 1)).inn → Dp ns i (t + 1) y
theorem Dp.le {ns : List Nd} {i : Int} {y : Int} : ∀ {t t' : Nat}, t ≤ t' → Dp ns i t y → Dp ns i t' y
  | t, 0, h, d => by
    have : t = 0 := by omega
    subst this; exact d
  | t, t' + 1, h, d => by
    by_cases e : t = t' + 1
    · subst e; exact d
    · exact .up (Dp.le (by omega) d)
theorem Dp.rk {wd : Int} {ns : List Nd} {W R : Int → Int} {rk : Int → Nat} (h : GG wd ns W R rk) {i : Int} {t : Nat} {y : Int} (d : Dp ns i t y) : rk y ≤ rk i ∧ Dp ns i (rk i - rk y) y := by
  induction d with
  | zero => exact ⟨Nat.le_refl _, by rw [Nat.sub_self]; exact .zero⟩
  | up _ ih => exact ih
  | stp _ x1 x2 hy ih =>
    have := ((h.node _ x1 x2).1.inn _ hy).2.2
    exact ⟨by omega, Dp.le (by omega) (.stp ih.2 x1 x2 hy)⟩
def nBs : Nd := ⟨11, [0], 0, 0, 0, 0, 0, 0, [], [], 0, 0, 0, 0, 0⟩
theorem nBs_sized (v : Int) : nBs.sized v = true := by
  unfold Nd.sized
  rw [show nBs.s4 = false by decide +kernel, show nBs.s8 = false by decide +kernel, show nBs.s10 = false by decide +kernel, show nBs.s13 = false by decide +kernel, show rWeighs nBs.k = false from rfl, show nBs.s27 = true by decide +kernel]
  rfl
/-- the graph whose other nodes are changed -/
structure Alt (ns ns' : List Nd) (us : Int → Bool) (i : Int) : Prop where
  len : ns'.length = ns.length
  nd : ∀ x : Int, 1 ≤ x → x ≤ ns.length → nd ns' (x - 1) = if us x = true then nd ns (x - 1) else nBs
  cl : ∀ x : Int, 1 ≤ x → x ≤ ns.length → us x = true → ∀ j ∈ (Aw.nd ns (x - 1)).inn, us j = true
  top : us i = true
theorem mayG_out {wd lo hi out i : Int} {ns : List Nd} (h : mayG wd lo hi out ns = 0) (hi0 : 1 ≤ i ∧ i ≤ ns.length) : mayG wd lo hi i ns = 0 := by
  have hr := may_rng h
  unfold mayG at h ⊢
  split at h
  · cases h
  · rename_i h1
    rw [if_neg h1]
    split at h
    · cases h
    · rw [if_neg (by unfold mayQ; simp; omega)]
      exact h
section
variable {wd lo hi out : Int} {ns ns' : List Nd} {W R : Int → Int} {rk : Int → Nat} {W2 R2 : List Int} (h : GF wd lo hi out ns W R rk W2 R2) {us : Int → Bool} {i : Int} (hA : Alt ns ns' us i)
include h hA
def altF (us : Int → Bool) (W : Int → Int) (x : Int) : Int := if x = 0 ∨ us x = true then W x else 1
theorem GF.alt_gg : GG wd ns' (altF us W) (altF us R) rk := by
  have hrg := may_rng h.may
  have e0 : ∀ V : Int → Int, altF us V 0 = V 0 := fun V => if_pos (.inl rfl)
  refine ⟨by rw [e0]; exact h.gg.W0, by rw [e0]; exact h.gg.R0, h.gg.k0, fun x x1 x2 => ?_⟩
  rw [hA.len] at x2 ⊢
  obtain ⟨hn, hk⟩ := h.gg.node x x1 x2
  refine ⟨?_, hk⟩
  rw [hA.nd x x1 x2]
  by_cases hu : us x = true
  · rw [if_pos hu]
    have ej : ∀ (V : Int → Int), ∀ j ∈ (nd ns (x - 1)).inn, altF us V j = V j := fun V j hj => if_pos (.inr (hA.cl x x1 x2 hu j hj))
    exact hn.congr (by omega) ⟨if_pos (.inr hu), if_pos (.inr hu)⟩ fun j hj => ⟨ej W j hj, ej R j hj⟩
  · rw [if_neg hu]
    have hx : ¬ (x = 0 ∨ us x = true) := fun e => by
      rcases e with e | e
      · omega
      · exact hu e
    have hW : altF us W x = 1 := if_neg hx
    have hR : altF us R x = 1 := if_neg hx
    have hrk : rk 0 < rk x := by
      rw [h.gg.k0]
      have := (hn.inn _ (rd_mem (l := (nd ns (x - 1)).inn) (j := 0) (by omega) (by have := hn.l1; omega))).2.2
      omega
    have h0 : altF us W 0 = wd := by rw [e0]; exact h.gg.W0
    have h1 : altF us R 0 = 1 := by rw [e0]; exact h.gg.R0
    have hc : nBs.rchk [wd] = 0 := rchk_one (a := 0) hrg.1 (by decide) (by decide) rfl rfl (by decide +kernel) (nBs_sized wd)
    refine ⟨by decide, by decide, fun j hj => ?_, ?_, ?_, ?_, fun j hj j' hj' => ?_, fun j hj e => ?_, by decide, by decide, by decide +kernel, by decide +kernel, by decide +kernel, by decide +kernel, rfl⟩
    · have : j = 0 := by simpa [nBs] using hj
      subst this
      exact ⟨by omega, by omega, hrk⟩
    · show nBs.rchk [altF us W 0] = 0
      rw [h0]; exact hc
    · show altF us W x = nBs.rwide [altF us W 0]
      rw [h0, hW]
      unfold Nd.rwide
      rw [hc]; rfl
    · show altF us R x = nBs.rate [altF us R 0]
      rw [h1, hR]
      decide +kernel
    · have e1 : j = 0 := by simpa [nBs] using hj
      have e2 : j' = 0 := by simpa [nBs] using hj'
      rw [e1, e2]
    · have e1 : j = 0 := by simpa [nBs] using hj
      rw [e1, h1] at e
      cases e
theorem GF.alt (hi0 : 1 ≤ i ∧ i ≤ ns.length) : ∃ W3 R3, GF wd lo hi i ns' (altF us W) (altF us R) rk W3 R3 := by
  have hg := h.alt_gg hA
  have hm := mayG_out h.may hi0
  have hm' : mayG wd lo hi i ns' = 0 := by
    unfold mayG at hm ⊢
    rw [hA.len]
    split at hm
    · cases hm
    · rename_i h1
      rw [if_neg h1]
      split at hm
      · cases hm
      · rename_i h2
        rw [if_neg h2, if_pos]
        refine List.all_eq_true.2 fun n hn => ?_
        unfold mayN
        refine List.all_eq_true.2 fun j hj => inB_iff.2 ?_
        obtain ⟨k, hk, rfl⟩ := List.mem_iff_getElem.1 hn
        have hx := (hg.node ((k : Int) + 1) (by omega) (by omega)).1
        have e : nd ns' ((k : Int) + 1 - 1) = ns'[k] := by
          rw [show (k : Int) + 1 - 1 = (k : Int) by omega]
          unfold Aw.nd
          simp [List.getD, hk]
        rw [e] at hx
        have := hx.inn j hj
        rw [hA.len] at this
        omega
  obtain ⟨W3, R3, h1, h2, h3, h4⟩ := hg.lookG hm'
  have hn0 := h.n0
  refine ⟨W3, R3, hg, by rw [hA.len]; exact hn0, h1, h2, h3, h4, fun n hn => ?_⟩
  obtain ⟨k, hk, rfl⟩ := List.mem_iff_getElem.1 hn
  have hx := (hg.node ((k : Int) + 1) (by omega) (by omega)).1
  have e : nd ns' ((k : Int) + 1 - 1) = ns'[k] := by
    rw [show (k : Int) + 1 - 1 = (k : Int) by omega]
    unfold Aw.nd
    simp [List.getD, hk]
  rw [e] at hx
  have := hx.l2
  have := hx.wl
  have := hx.bl
  omega
/-- what is under is the same -/
theorem GF.alt_same {W3 R3 : List Int} {o2 : Int} (h' : GF wd lo hi o2 ns' (altF us W) (altF us R) rk W3 R3) (fs : List (List Int)) : ∀ (r : Nat) (x : Int), 0 ≤ x → x ≤ ns.length → rk x ≤ r → (x = 0 ∨ us x = true) → ga [] (strL ns' W3 fs) x = ga [] (strL ns W2 fs) x
  | r, x, x0, x1, hk, hu => by
    obtain ⟨a, b⟩ := h.strL_fx fs
    obtain ⟨a', b'⟩ := h'.strL_fx fs
    rcases Int.lt_or_le 0 x with x2 | x2
    · have hu : us x = true := by
        rcases hu with e | e
        · omega
        · exact e
      have hn := (h.gg.node x x2 x1).1
      match r, hk with
      | 0, hk =>
        have := hn.inn _ (rd_mem (l := (nd ns (x - 1)).inn) (j := 0) (by omega) (by have := hn.l1; omega))
        omega
      | r + 1, hk =>
        have e := hA.nd x x2 x1
        rw [if_pos hu] at e
        have hw1 := h.w2 x2 x1
        have hw2 := h'.w2 x2 (by rw [hA.len]; exact x1)
        have h0m := rd_mem (l := (nd ns (x - 1)).inn) (j := 0) (by omega) (by have := hn.l1; omega)
        rw [b' x x2 (by rw [hA.len]; exact x1), b x x2 x1]
        rw [e] at hw2
        have ew : altF us W (rd (nd ns (x - 1)).inn 0) = W (rd (nd ns (x - 1)).inn 0) := if_pos (.inr (hA.cl x x2 x1 hu _ h0m))
        unfold frF
        rw [e, hw1, hw2, ew]
        have hm : (nd ns (x - 1)).inn.map (ga [] (strL ns' W3 fs)) = (nd ns (x - 1)).inn.map (ga [] (strL ns W2 fs)) := List.map_congr_left fun j hj => by
          have hj1 := hn.inn j hj
          exact GF.alt_same h' fs r j hj1.1 hj1.2.1 (by omega) (.inr (hA.cl x x2 x1 hu j hj))
        rw [hm]
    · obtain rfl : x = 0 := by omega
      rw [a, a']
end
/-! the two ways of going through the nodes ask for the same rooms -/
def stM (o : List Int) (p : Int × Int) : List Int := o.set p.1.toNat (mx (rd o p.1) p.2)
def oneF (o : List Int) (i : Int) : List Int := o.set i.toNat 1
theorem ones_len : ∀ (l : List Int) (o : List Int), (l.foldl oneF o).length = o.length
  | [], _ => rfl
  | x :: l, o => by rw [List.foldl_cons, ones_len l]; simp [oneF]
theorem ones_rd {N : Nat} : ∀ (l : List Int) (o : List Int), o.length = N → (∀ i ∈ l, 0 ≤ i ∧ i < N) → ∀ x : Int, 0 ≤ x → (x ∈ l ∨ rd o x = 1) → rd (l.foldl oneF o) x = 1
  | [], o, _, _, x, _, h => by
    rcases h with h | h
    · cases h
    · exact h
  | i :: l, o, ho, hl, x, x0, h => by
    have hi := hl i (by simp)
    refine ones_rd l (oneF o i) (by simp [oneF, ho]) (fun j hj => hl j (by simp [hj])) x x0 ?_
    have e : rd (oneF o i) x = if x = i then 1 else rd o x := rd_sets hi.1 (by omega) x0
    rcases h with h | h
    · rcases List.mem_cons.1 h with rfl | h
      · right; rw [e, if_pos rfl]
      · exact .inl h
    · right; rw [e]; split
      · rfl
      · exact h
theorem eq_ones {l : List Int} {n : Nat} (hl : l.length = n) (h : ∀ x : Int, 0 ≤ x → x < n → rd l x = 1) : l = List.replicate n 1 := by
  refine List.ext_getElem (by simp [hl]) fun k h1 h2 => ?_
  have := h (k : Int) (by omega) (by omega)
  unfold rd at this
  rw [Int.toNat_natCast, List.getD_eq_getElem?_getD, List.getElem?_eq_getElem h1, Option.getD_some] at this
  rw [this]; simp
section
variable {wd lo hi out : Int} {ns : List Nd} {W R : Int → Int} {rk : Int → Nat} {W2 R2 : List Int} (h : GF wd lo hi out ns W R rk W2 R2)
include h
theorem GF.ones : (order ns).foldl oneF ((List.replicate (ns.length + 1) 0).set 0 1) = List.replicate (ns.length + 1) 1 := by
  refine eq_ones (by rw [ones_len]; simp) fun x x0 x1 => ones_rd (N := ns.length + 1) _ _ (by simp) (fun i hi => by have := h.ord i hi; omega) x x0 ?_
  rcases Int.lt_or_le 0 x with hx | hx
  · exact .inl (h.gg.mem_order x hx (by omega))
  · right
    have : x = 0 := by omega
    subst this
    rfl
/-- the graph with another Out is as well known, if it is right -/
theorem GF.outs {out' : Int} (hm : mayG wd lo hi out' ns = 0) : GF wd lo hi out' ns W R rk W2 R2 := by
  obtain ⟨W3, R3, h1, _, _, _⟩ := h.gg.lookG hm
  have h2 := h.look
  have e : lookG wd lo hi out' ns = lookG wd lo hi out ns := by
    have hm0 : mayG wd lo hi out ns = 0 := by
      unfold lookG at h2
      by_cases hz : mayG wd lo hi out ns = 0
      · exact hz
      · rw [if_pos (by simpa using hz)] at h2
        exact absurd (congrArg Prod.fst h2) hz
    unfold lookG
    rw [hm, hm0]
  exact ⟨h.gg, h.n0, e.trans h2, h.wl, h.rl, h.eq, h.inn⟩
end
section
attribute [local go_sem] frD insD PQ18
def boolC (b : Bool) : List D := [.b b]
def rb (us : List Bool) (j : Int) : Bool := us.getD j.toNat false
theorem rw_bool (us : List Bool) (j : Int) (h0 : 0 ≤ j) (h1 : j < us.length) : (us.map boolC).getD j.toNat [.b false] = [.b (rb us j)] := by
  have h : j.toNat < us.length := by omega
  unfold rb
  simp [List.getD, h, boolC]
theorem setE_bool (us : List Bool) (i : Nat) (b : Bool) : setE (us.map boolC) i 0 [.b b] = (us.set i b).map boolC := by
  unfold setE
  apply List.ext_getElem?
  intro j
  rw [List.getElem?_modify, List.getElem?_map, List.getElem?_map, List.getElem?_set]
  by_cases h : i = j
  · subst h
    by_cases h2 : i < us.length
    · simp [h2, boolC]
    · simp [h2]
  · simp [h]
theorem rb_set {us : List Bool} {i j : Int} (hi : 0 ≤ i) (hi2 : i < us.length) (hj : 0 ≤ j) : rb (us.set i.toNat true) j = if j = i then true else rb us j := by
  unfold rb
  rw [List.getD_eq_getElem?_getD, List.getD_eq_getElem?_getD, List.getElem?_set]
  by_cases e : j = i
  · subst e
    rw [if_pos rfl, if_pos rfl, if_pos (by omega)]; rfl
  · rw [if_neg (by omega), if_neg e]
theorem wE_setN : ∀ (l : List Nd) (i : Nat) (c : List D) (n : Nd), wd c n.ds → wE ((l.map Nd.ds).set i c) ((l.set i n).map Nd.ds)
  | [], _, _, _, _ => trivial
  | _ :: _, 0, _, _, h => ⟨h, wE_refl _⟩
  | _ :: l, i + 1, c, n, h => ⟨wd_refl _, wE_setN l i c n h⟩
/-- marks: only what lies under, and all of it within t steps -/
structure Mk (ns : List Nd) (i : Int) (us : List Bool) : Prop where
  len : us.length = ns.length + 1
  top : rb us i = true
  ok : ∀ y : Int, 0 ≤ y → y ≤ ns.length → rb us y = true → ∃ t, Dp ns i t y
theorem Mk.set {ns : List Nd} {i : Int} {us : List Bool} (h : Mk ns i us) (hi : 0 ≤ i) {y : Int} (y0 : 0 ≤ y) (y1 : y ≤ ns.length) (hy : ∃ t, Dp ns i t y) : Mk ns i (us.set y.toNat true) ∧ (∀ x : Int, 0 ≤ x → rb us x = true → rb (us.set y.toNat true) x = true) ∧ rb (us.set y.toNat true) y = true := by
  have e := fun x (x0 : 0 ≤ x) => rb_set (us := us) (i := y) (j := x) y0 (by have := h.len; omega) x0
  have hm : ∀ x : Int, 0 ≤ x → rb us x = true → rb (us.set y.toNat true) x = true := fun x x0 hx => by
    rw [e x x0]
    split
    · rfl
    · exact hx
  refine ⟨⟨by simp [h.len], hm i hi h.top, fun x x0 x1 hx => ?_⟩, hm, by rw [e y y0, if_pos rfl]⟩
  rw [e x x0] at hx
  split at hx
  · rename_i e; subst e; exact hy
  · exact h.ok x x0 x1 hx
theorem WholeChain_c {T : World → Prop} (Tk : KT T) (l xs : List Int) (m which : Int) : Cg Go.Proofs.Tryd.prog T 9 [] [.agg [.d (.row [.i .i64 0] (l.map intC)), .d (.row [.i .i64 0] (xs.map intC)), .d (.i .i64 m)], .d (.i .i64 which)] (fun r H => H = [] ∧ r = .d (.b true)) := by
  refine Cg_of [] Tk.m Go.Proofs.Tryd.func9 rfl rfl Go.Proofs.Tryd.ntmps9 (by simp) rfl (rs := [.tmp 4]) rfl fun E hP hn hT hpn => ?_
  (repeat (first | refine TS.imp ?_ | refine n9 (by decide) ?_))
  refine TR.imp ?_; intro K hK; simp only [go_sem, hP, hn]; (repeat refine vc ?_); refine hK _ ?_; clear K hK
  (repeat (first | refine TS.imp ?_ | refine n9 (by decide) ?_))
  refine TR.imp ?_; intro K hK; simp only [go_sem, hP, hn]
  (repeat refine vc ?_)
  refine CallN_cs (Hi := [] ) (by rw [hP, hT]; exact  awake18_c Tk) rfl rfl rfl trivial (by simp only [go_sem, hP, hn]; try trivial) (by simp only [go_sem, hP, hn]; try rfl) (by simp only [inH, go_sem, hP, hn]; try simp) (by rw [hn]; decide) ?_; simp only [go_sem, hP, hn]; (repeat refine vc ?_)
  refine hK _ ?_; clear K hK
  (repeat (first | refine TS.imp ?_ | refine n9 (by decide) ?_))
  refine TR.imp ?_; intro K hK; simp only [go_sem, hP, hn]
  (repeat refine vc ?_)
  refine CallN_cx (Hi := []) (by rw [hP, hT]; exact made18_c Tk.m l xs m ) rfl rfl rfl trivial (by simp only [go_sem, hP, hn]; try trivial) (by simp only [go_sem, hP, hn]; try rfl) trivial (by rw [hn]; decide) (fun r Ho hr => ?_); obtain  ⟨wd, lo, hi, out, ns, many, fs, rfl, rfl, hG, hfs, hm0, hm1⟩ := hr; refine ⟨fun k _ => hpn k rfl, ?_⟩; simp only [cgS, newK, touK, go_sem, hP, hn]; (repeat refine vc ?_)
  refine hK _ ?_; clear K hK
  refine Tr.le (Le.keep [1, 5, 6, 7]) ?_; simp only [List.map_cons, List.map_nil, lk, Nat.reduceEqDiff, reduceIte]
  obtain ⟨W, R, rk, W2, R2, hF⟩ := hG.gf
  have hm : 0 ≤ many ∧ many ≤ 1000 := by omega
  have hn0 := hF.n0
  have cS := Streams_w Tk hF hfs hm
  (repeat (first | refine TS.imp ?_ | refine n9 (by decide) ?_))
  refine TR.imp ?_; intro K hK; simp only [go_sem, hP, hn]
  (repeat refine vc ?_)
  refine CallN_cs (Hi := [] ) (by rw [hP, hT]; exact  cS) rfl rfl rfl trivial (by simp only [go_sem, hP, hn]; try trivial) (by simp only [go_sem, hP, hn]; try rfl) (by simp only [inH, go_sem, hP, hn]; try simp) (by rw [hn]; decide) ?_; simp only [go_sem, hP, hn]; (repeat refine vc ?_)
  refine hK _ ?_; clear K hK
  refine Tr.le (Le.keep [1, 5, 6, 7, 8, 9]) ?_; simp only [List.map_cons, List.map_nil, lk, Nat.reduceEqDiff, reduceIte]
  (repeat (first | refine TS.imp ?_ | refine n9 (by decide) ?_))
  refine TR.imp ?_; intro K hK; simp only [go_sem, hP, hn]; (repeat refine vc ?_); refine hK _ ?_; clear K hK
  (repeat (first | refine TS.imp ?_ | refine n9 (by decide) ?_))
  have hidx : ∃ i : Int, wrap64 (1 + Int.tmod (wrap64 (Int.tmod which ns.length + ns.length)) ns.length) = i ∧ 1 ≤ i ∧ i ≤ ns.length := by
    have n1 : (0 : Int) < ns.length := by omega
    have h2 := Int.lt_tmod_of_pos which n1
    have h3 := Int.tmod_lt_of_pos which n1
    rw [w64 (x := Int.tmod which ns.length + ns.length) (by omega) (by omega)]
    have h4 := Int.tmod_nonneg (ns.length : Int) (show 0 ≤ Int.tmod which ns.length + ns.length by omega)
    have h5 := Int.tmod_lt_of_pos (Int.tmod which ns.length + ns.length) n1
    rw [w64 (by omega) (by omega)]
    exact ⟨_, rfl, by omega, by omega⟩
  obtain ⟨i, hii, i1, i2⟩ := hidx
  have n1' : (ns.length : Int) ≠ 0 := by omega
  refine Tr.le (Le.keep [1, 5, 6, 7, 8, 9, 10]) ?_; simp only [List.map_cons, List.map_nil, lk, Nat.reduceEqDiff, reduceIte]
  (repeat (first | refine TS.imp ?_ | refine n9 (by decide) ?_))
  refine TR.imp ?_; intro K hK; simp only [hii, go_sem, hP, hn]; (repeat refine vc ?_); refine hK _ ?_; clear K hK
  clear hii n1'
  refine Tr.le (Le.keep [5, 6, 7, 8, 9, 10, 11]) ?_; simp only [List.map_cons, List.map_nil, lk, Nat.reduceEqDiff, reduceIte]
  have hFi := hF.outs (mayG_out hF.may ⟨i1, i2⟩)
  have cE := Eval_w Tk hFi hfs hm
  have hinn0 : ∀ x : Int, 1 ≤ x → x ≤ ns.length → ∀ j ∈ (nd ns (x - 1)).inn, 0 ≤ j := fun x x1 x2 j hj => ((hF.gg.node x x1 x2).1.inn j hj).1
  (repeat (first | refine TS.imp ?_ | refine n9 (by decide) ?_))
  refine TR.imp ?_; intro K hK; simp only [go_sem, hP, hn]; (repeat refine vc ?_); refine hK _ ?_; clear K hK
  (repeat (first | refine TS.imp ?_ | refine n9 (by decide) ?_))
  refine TR.imp ?_; intro K hK; simp only [go_sem, hP, hn]; (repeat refine vc ?_); refine hK _ ?_; clear K hK
  (repeat (first | refine TS.imp ?_ | refine n9 (by decide) ?_))
  refine TR.imp ?_; intro K hK; simp only [go_sem, hP, hn]
  (repeat refine vc ?_)
  refine CallN_cs (Hi := [] ) (by rw [hP, hT]; exact  cE) rfl rfl rfl trivial (by simp only [go_sem, hP, hn]; try trivial) (by simp only [go_sem, hP, hn]; try rfl) (by simp only [inH, go_sem, hP, hn]; try simp) (by rw [hn]; decide) ?_; simp only [go_sem, hP, hn]; (repeat refine vc ?_)
  refine hK _ ?_; clear K hK
  refine Tr.le (Le.keep [5, 6, 7, 8, 9, 10, 11, 12, 13, 14]) ?_; simp only [List.map_cons, List.map_nil, lk, Nat.reduceEqDiff, reduceIte]
  have w1 : wrap64 ((ns.length : Int) + 1) = ((ns.length + 1 : Nat) : Int) := by rw [w64 (by omega) (by omega)]; omega
  (repeat (first | refine TS.imp ?_ | refine n9 (by decide) ?_))
  refine TR.imp ?_; intro K hK; simp only [w1, go_sem, hP, hn]; (repeat refine vc ?_); refine hK _ ?_; clear K hK
  (repeat (first | refine TS.imp ?_ | refine n9 (by decide) ?_))
  rw [show List.replicate (ns.length + 1) [D.b false] = (List.replicate (ns.length + 1) false).map boolC by simp [boolC]]
  have hul : (List.replicate (ns.length + 1) false).length = ns.length + 1 := by simp
  have huf : ∀ x : Int, rb (List.replicate (ns.length + 1) false) x = false := fun x => by
    unfold rb
    rw [List.getD_eq_getElem?_getD, List.getElem?_replicate]
    split <;> rfl
  generalize List.replicate (ns.length + 1) false = u0 at *
  have i3 : i < u0.length := by omega
  have i4 : i.toNat < u0.length := by omega
  have i0 : 0 ≤ i := by omega
  clear w1
  refine TR.imp ?_; intro K hK; simp only [go_sem, hP, hn]; (repeat refine vc ?_); refine hK _ ?_; clear K hK
  rw [setE_bool]
  have hM0 : Mk ns i (u0.set i.toNat true) := ⟨by simp [hul], by rw [rb_set i0 i3 i0, if_pos rfl], fun y y0 y1 hy => by
    rw [rb_set i0 i3 y0] at hy
    split at hy
    · rename_i e; subst e; exact ⟨0, .zero⟩
    · rw [huf] at hy; cases hy⟩
  generalize u0.set i.toNat true = u1 at *
  clear hul huf i3 i4
  generalize hOA : strL ns W2 fs = OA at *
  generalize hLA : outL ns W2 i fs = LA at *
  (repeat (first | refine TS.imp ?_ | refine n9 (by decide) ?_))
  refine TR.imp ?_; intro K hK; simp only [go_sem, hP, hn]; (repeat refine vc ?_); refine hK _ ?_; clear K hK
  (repeat (first | refine TS.imp ?_ | refine n9 (by decide) ?_))
  refine Tr.loop (fun q s => ∃ (k : Nat) (us : List Bool), s = ⟨[(5, .d (.b true)), (6, .ptr 6 0), (7, .d (frD fs)), (8, .d (insD OA)), (9, .d (.i .i64 0)), (10, .d (.i .i64 ns.length)), (11, .d (.i .i64 i)), (12, .ptr 12 0), (13, .d (frD LA)), (14, .d (.i .i64 0)), (15, .own 59), (16, .d (.i .i64 k))], [(6, .box 26 (gcs wd lo hi out (.d (rowN ns)))), (12, .box 26 (gcs wd lo hi i (.d (rowN ns)))), (59, .row 4 [.b false] (us.map boolC))]⟩ ∧ k + q = ns.length ∧ Mk ns i us ∧ ∀ y : Int, 0 ≤ y → y ≤ ns.length → Dp ns i k y → rb us y = true) ns.length ⟨_, ?_, 0, u1, rfl, by omega, hM0, fun y y0 y1 hy => by cases hy; exact hM0.top⟩ ?_
  · exact (Le.mv (by simp only [go_sem, hP, hn]; first | done | (simp; done) | (simp [intC]; done) | (repeat (first | rfl | constructor))) (by simp only [go_sem, hP, hn]; first | done | (simp; done) | (simp [intC]; done) | (repeat (first | rfl | constructor))))
  rintro q s ⟨k, us, rfl, kq, hMk, hD⟩
  (repeat (first | refine TS.imp ?_ | refine n9 (by decide) ?_))
  refine TR.imp ?_; intro K hK; simp only [go_sem, hP, hn]; (repeat refine vc ?_); refine hK _ ?_; clear K hK
  (repeat (first | refine TS.imp ?_ | refine n9 (by decide) ?_))
  refine Tr.cond rfl (fun hb => ?_) (fun hb => ?_)
  · have hk : k < ns.length := by have := of_decide_eq_true hb; omega
    clear hb
    have w1 : Unit → wrap64 ((k : Int) + 1) = ((k + 1 : Nat) : Int) := fun _ => by rw [w64 (by omega) (by omega)]; omega
    (repeat (first | refine TS.imp ?_ | refine n9 (by decide) ?_))
    refine TR.imp ?_; intro K hK; simp only [go_sem, hP, hn]; (repeat refine vc ?_); refine hK _ ?_; clear K hK
    (repeat (first | refine TS.imp ?_ | refine n9 (by decide) ?_))
    refine Tr.loop (fun p s => ∃ (j : Int) (us : List Bool), s = ⟨[(5, .d (.b true)), (6, .ptr 6 0), (7, .d (frD fs)), (8, .d (insD OA)), (9, .d (.i .i64 0)), (10, .d (.i .i64 ns.length)), (11, .d (.i .i64 i)), (12, .ptr 12 0), (13, .d (frD LA)), (14, .d (.i .i64 0)), (15, .own 59), (16, .d (.i .i64 k)), (17, .d (.i .i64 j))], [(6, .box 26 (gcs wd lo hi out (.d (rowN ns)))), (12, .box 26 (gcs wd lo hi i (.d (rowN ns)))), (59, .row 4 [.b false] (us.map boolC))]⟩ ∧ 1 ≤ j ∧ j + p = ns.length + 1 ∧ Mk ns i us ∧ (∀ y : Int, 0 ≤ y → y ≤ ns.length → Dp ns i k y → rb us y = true) ∧ ∀ x : Int, 1 ≤ x → x < j → Dp ns i k x → ∀ y ∈ (nd ns (x - 1)).inn, rb us y = true) ns.length ⟨_, ?_, 1, us, rfl, by omega, by omega, hMk, hD, fun x x1 x2 => by omega⟩ ?_
    · exact (Le.mv (by simp only [go_sem, hP, hn]; first | done | (simp; done) | (simp [intC]; done) | (repeat (first | rfl | constructor))) (by simp only [go_sem, hP, hn]; first | done | (simp; done) | (simp [intC]; done) | (repeat (first | rfl | constructor))))
    clear hMk hD us
    rintro p s ⟨j, us, rfl, j1, jp, hMk, hD, hN⟩
    (repeat (first | refine TS.imp ?_ | refine n9 (by decide) ?_))
    refine TR.imp ?_; intro K hK; simp only [go_sem, hP, hn]; (repeat refine vc ?_); refine hK _ ?_; clear K hK
    (repeat (first | refine TS.imp ?_ | refine n9 (by decide) ?_))
    refine Tr.cond rfl (fun hb => ?_) (fun hb => ?_)
    · have hj1 : j ≤ ns.length := of_decide_eq_true hb
      clear hb
      have hnd := rw_nd ns (j - 1) (by omega) (by omega)
      have hni := (hF.gg.node j j1 hj1).1.inn
      have hl2 := (hF.gg.node j j1 hj1).1.l2
      have w2 : Unit → wrap64 (j - 1) = j - 1 := fun _ => w64 (by omega) (by omega)
      have w3 : Unit → wrap64 (j + 1) = j + 1 := fun _ => w64 (by omega) (by omega)
      have q1 : 0 ≤ j - 1 := by omega
      have q2 : j - 1 < ns.length := by omega
      (repeat (first | refine TS.imp ?_ | refine n9 (by decide) ?_))
      replace w2 := w2 ()
      refine TR.imp ?_; intro K hK; simp only [w2, hnd, go_sem, hP, hn]
      simp only [q1, q2, and_self, true_and, List.length_map]
      (repeat (refine ⟨by first | trivial | omega, ?_⟩))
      refine hK _ ?_; clear K hK
      clear w2 hnd
      generalize hx : nd ns (j - 1) = x at *
      (repeat (first | refine TS.imp ?_ | refine n9 (by decide) ?_))
      refine TR.imp ?_; intro K hK; simp only [go_sem, hP, hn]; (repeat refine vc ?_); refine hK _ ?_; clear K hK
      (repeat (first | refine TS.imp ?_ | refine n9 (by decide) ?_))
      refine Tr.loop (fun r s => ∃ (m' : Int) (us : List Bool), s = ⟨[(5, .d (.b true)), (6, .ptr 6 0), (7, .d (frD fs)), (8, .d (insD OA)), (9, .d (.i .i64 0)), (10, .d (.i .i64 ns.length)), (11, .d (.i .i64 i)), (12, .ptr 12 0), (13, .d (frD LA)), (14, .d (.i .i64 0)), (15, .own 59), (16, .d (.i .i64 k)), (17, .d (.i .i64 j)), (18, .d (.row [.i .i64 0] (x.inn.map intC))), (19, .d (.i .i64 m'))], [(6, .box 26 (gcs wd lo hi out (.d (rowN ns)))), (12, .box 26 (gcs wd lo hi i (.d (rowN ns)))), (59, .row 4 [.b false] (us.map boolC))]⟩ ∧ 0 ≤ m' ∧ m' + r = x.inn.length ∧ Mk ns i us ∧ (∀ y : Int, 0 ≤ y → y ≤ ns.length → Dp ns i k y → rb us y = true) ∧ (∀ x : Int, 1 ≤ x → x < j → Dp ns i k x → ∀ y ∈ (nd ns (x - 1)).inn, rb us y = true) ∧ ∀ y ∈ x.inn.take m'.toNat, rb us y = true) x.inn.length ⟨_, ?_, 0, us, rfl, by omega, by omega, hMk, hD, hN, fun y hy => by simp at hy⟩ ?_
      · exact (Le.mv (by simp only [go_sem, hP, hn]; first | done | (simp; done) | (simp [intC]; done) | (repeat (first | rfl | constructor))) (by simp only [go_sem, hP, hn]; first | done | (simp; done) | (simp [intC]; done) | (repeat (first | rfl | constructor))))
      clear hMk hD hN us
      rintro r s ⟨m', us, rfl, m0, mr, hMk, hD, hN, hTT⟩
      have hul := hMk.len
      have hub := rw_bool us j (by omega) (by omega)
      have u1' : 0 ≤ j ∧ j < us.length := by omega
      have u2' : j.toNat < us.length := by omega
      (repeat (first | refine TS.imp ?_ | refine n9 (by decide) ?_))
      refine TR.imp ?_; intro K hK; simp only [hub, go_sem, hP, hn]
      (repeat refine vc ?_)
      refine hK _ ?_; clear K hK
      (repeat (first | refine TS.imp ?_ | refine n9 (by decide) ?_))
      refine Tr.cond rfl (fun hb => ?_) (fun hb => ?_)
      · have hb2 : m' < x.inn.length ∧ rb us j = true := by simpa using hb
        obtain ⟨hm1, hu⟩ := hb2
        clear hb
        have hjm := rd_mem m0 hm1
        have hyr := hni _ hjm
        obtain ⟨t, ht⟩ := hMk.ok j (by omega) hj1 hu
        have hDy : ∃ t, Dp ns i t (rd x.inn m') := ⟨t + 1, .stp ht j1 hj1 (by rw [hx]; exact hjm)⟩
        obtain ⟨hM2, hmono, hself⟩ := hMk.set i0 hyr.1 hyr.2.1 hDy
        have htk := take_rd m0 hm1
        have w4 : wrap64 (m' + 1) = m' + 1 := w64 (by omega) (by omega)
        (repeat (first | refine TS.imp ?_ | refine n9 (by decide) ?_))
        have y1 : 0 ≤ rd x.inn m' ∧ rd x.inn m' < us.length := by omega
        have y2 : (rd x.inn m').toNat < us.length := by omega
        refine TR.imp ?_; intro K hK; simp only [go_sem, hP, hn]
        simp only [y1, y2, m0, hm1, and_self, true_and, List.length_map]
        (repeat (refine ⟨by first | trivial | omega, ?_⟩))
        refine hK _ ?_; clear K hK
        rw [setE_bool]
        generalize rd x.inn m' = y at *
        (repeat (first | refine TS.imp ?_ | refine n9 (by decide) ?_))
        refine TR.imp ?_; intro K hK; simp only [w4, go_sem, hP, hn]; (repeat refine vc ?_); refine hK _ ?_; clear K hK
        (repeat (first | refine TS.imp ?_ | refine n9 (by decide) ?_))
        clear w4
        refine ⟨r - 1, _, by omega, (Le.mv (by simp only [go_sem, hP, hn]; first | done | (simp; done) | (simp [intC]; done) | (repeat (first | rfl | constructor))) (by simp only [go_sem, hP, hn]; first | done | (simp; done) | (simp [intC]; done) | (repeat (first | rfl | constructor)))), m' + 1, us.set y.toNat true, rfl, by omega, by omega, hM2, fun z z0 z1 hz => hmono z z0 (hD z z0 z1 hz), fun x' x1 x2 hd z hz => hmono z (hinn0 x' x1 (by omega) z hz) (hN x' x1 x2 hd z hz), fun z hz => ?_⟩
        rw [htk] at hz
        rcases List.mem_append.1 hz with hz | hz
        · exact hmono z (hni z (List.mem_of_mem_take hz)).1 (hTT z hz)
        · obtain rfl : z = y := by simpa using hz
          exact hself
      have hfin : Dp ns i k j → ∀ y ∈ x.inn, rb us y = true := fun hd y hy => by
        have hu := hD j (by omega) hj1 hd
        rw [hu, Bool.and_true] at hb
        have := of_decide_eq_false hb
        rw [show m'.toNat = x.inn.length by omega, List.take_length] at hTT
        exact hTT y hy
      clear hb hub
      (repeat (first | refine TS.imp ?_ | refine n9 (by decide) ?_))
      replace w3 := w3 ()
      refine TR.imp ?_; intro K hK; simp only [w3, go_sem, hP, hn]; (repeat refine vc ?_); refine hK _ ?_; clear K hK
      (repeat (first | refine TS.imp ?_ | refine n9 (by decide) ?_))
      clear w3
      refine ⟨p - 1, _, by omega, (Le.mv (by simp only [go_sem, hP, hn]; first | done | (simp; done) | (simp [intC]; done) | (repeat (first | rfl | constructor))) (by simp only [go_sem, hP, hn]; first | done | (simp; done) | (simp [intC]; done) | (repeat (first | rfl | constructor)))), j + 1, us, rfl, by omega, by omega, hMk, hD, fun x' x1 x2 hd y hy => ?_⟩
      by_cases e : x' = j
      · subst e
        rw [hx] at hy
        exact hfin hd y hy
      · exact hN x' x1 (by omega) hd y hy
    have hj1 : j = ns.length + 1 := by have := of_decide_eq_false hb; omega
    clear hb
    (repeat (first | refine TS.imp ?_ | refine n9 (by decide) ?_))
    replace w1 := w1 ()
    refine TR.imp ?_; intro K hK; simp only [w1, go_sem, hP, hn]; (repeat refine vc ?_); refine hK _ ?_; clear K hK
    (repeat (first | refine TS.imp ?_ | refine n9 (by decide) ?_))
    clear w1
    refine ⟨q - 1, _, by omega, (Le.mv (by simp only [go_sem, hP, hn]; first | done | (simp; done) | (simp [intC]; done) | (repeat (first | rfl | constructor))) (by simp only [go_sem, hP, hn]; first | done | (simp; done) | (simp [intC]; done) | (repeat (first | rfl | constructor)))), k + 1, us, rfl, by omega, hMk, fun y y0 y1 hy => ?_⟩
    cases hy with
    | up h => exact hD y y0 y1 h
    | stp h a b c => exact hN _ a (by omega) h y c
  have hk : k = ns.length := by have := of_decide_eq_false hb; omega
  clear hb
  have hcl : ∀ x : Int, 1 ≤ x → x ≤ ns.length → rb us x = true → ∀ j ∈ (nd ns (x - 1)).inn, rb us j = true := fun x x1 x2 hu j hj => by
    obtain ⟨t, ht⟩ := hMk.ok x (by omega) x2 hu
    have hr := hF.gg.node i i1 i2
    have hjr := (hF.gg.node x x1 x2).1.inn j hj
    exact hD j hjr.1 hjr.2.1 (Dp.le (by omega) (Dp.rk hF.gg (.stp ht x1 x2 hj)).2)
  have htop := hMk.top
  have hul := hMk.len
  clear hMk hD hk kq
  (repeat (first | refine TS.imp ?_ | refine n9 (by decide) ?_))
  refine TR.imp ?_; intro K hK; simp only [go_sem, hP, hn]; (repeat refine vc ?_); refine hK _ ?_; clear K hK
  (repeat (first | refine TS.imp ?_ | refine n9 (by decide) ?_))
  refine TR.imp ?_; intro K hK; simp only [go_sem, hP, hn]; (repeat refine vc ?_); refine hK _ ?_; clear K hK
  (repeat (first | refine TS.imp ?_ | refine n9 (by decide) ?_))
  refine Tr.loop (fun q s => ∃ (j : Int) (ns' : List Nd), s = ⟨[(5, .d (.b true)), (6, .ptr 6 0), (7, .d (frD fs)), (8, .d (insD OA)), (9, .d (.i .i64 0)), (10, .d (.i .i64 ns.length)), (11, .d (.i .i64 i)), (12, .ptr 12 0), (13, .d (frD LA)), (14, .d (.i .i64 0)), (15, .own 59), (20, .d (.i .i64 j))], [(6, .box 26 (gcs wd lo hi out (.d (rowN ns)))), (12, .box 26 (gcs wd lo hi i (.own 101))), (101, .row 50 e0N (ns'.map Nd.ds)), (59, .row 4 [.b false] (us.map boolC))]⟩ ∧ 1 ≤ j ∧ j + q = ns.length + 1 ∧ ns'.length = ns.length ∧ ∀ x : Int, 1 ≤ x → x ≤ ns.length → nd ns' (x - 1) = if x < j ∧ rb us x = false then nBs else nd ns (x - 1)) ns.length ⟨_, ?_, 1, ns, rfl, by omega, by omega, rfl, fun x x1 x2 => by rw [if_neg (by omega)]⟩ ?_
  · exact (Le.mv (by simp only [go_sem, hP, hn]; first | done | (simp; done) | (simp [intC]; done) | (repeat (first | rfl | constructor))) (by simp only [go_sem, hP, hn]; first | done | (simp; done) | (simp [intC]; done) | (repeat (first | rfl | constructor))))
  rintro q s ⟨j, ns', rfl, j1, jq, hl', hn'⟩
  (repeat (first | refine TS.imp ?_ | refine n9 (by decide) ?_))
  refine TR.imp ?_; intro K hK; simp only [go_sem, hP, hn]; (repeat refine vc ?_); refine hK _ ?_; clear K hK
  (repeat (first | refine TS.imp ?_ | refine n9 (by decide) ?_))
  refine Tr.cond rfl (fun hb => ?_) (fun hb => ?_)
  · have hj1 : j ≤ ns.length := of_decide_eq_true hb
    clear hb
    have hub := rw_bool us j (by omega) (by omega)
    have u1' : 0 ≤ j ∧ j < us.length := by omega
    have u2' : j.toNat < us.length := by omega
    have w2 : Unit → wrap64 (j - 1) = j - 1 := fun _ => w64 (by omega) (by omega)
    have w3 : Unit → wrap64 (j + 1) = j + 1 := fun _ => w64 (by omega) (by omega)
    (repeat (first | refine TS.imp ?_ | refine n9 (by decide) ?_))
    refine TR.imp ?_; intro K hK; simp only [hub, go_sem, hP, hn]; (repeat refine vc ?_); refine hK _ ?_; clear K hK
    (repeat (first | refine TS.imp ?_ | refine n9 (by decide) ?_))
    refine Tr.cond rfl (fun hb => ?_) (fun hb => ?_)
    · have hu : rb us j = false := by simpa using hb
      clear hb hub
      have he15 : ∀ e ∈ ns'.map Nd.ds, e.length = 15 := fun e he => by
        obtain ⟨n, _, rfl⟩ := List.mem_map.1 he; rfl
      have q1 : 0 ≤ j - 1 := by omega
      have q2 : j - 1 < ns'.length := by omega
      have q3 : (j - 1).toNat < ns'.length := by omega
      (repeat (first | refine TS.imp ?_ | refine n9 (by decide) ?_))
      replace w2 := w2 ()
      refine TR.imp ?_; intro K hK; simp only [w2, rw_setN _ he15, go_sem, hP, hn]
      simp only [q1, q2, q3, and_self, true_and, List.length_map]
      (repeat refine vc ?_)
      refine hK _ ?_; clear K hK
      clear w2
      (repeat (first | refine TS.imp ?_ | refine n9 (by decide) ?_))
      refine Tr.le (Le.wrow 101 ((ns'.set (j-1).toNat nBs).map Nd.ds) rfl (wE_setN _ _ _ _ (by simp [Aw.wd, Nd.ds, nBs, intC]))) ?_
      (repeat (first | refine TS.imp ?_ | refine n9 (by decide) ?_))
      replace w3 := w3 ()
      refine TR.imp ?_; intro K hK; simp only [w3, go_sem, hP, hn]; (repeat refine vc ?_); refine hK _ ?_; clear K hK
      (repeat (first | refine TS.imp ?_ | refine n9 (by decide) ?_))
      clear w3
      refine ⟨q - 1, _, by omega, (Le.mv (by simp only [go_sem, hP, hn]; first | done | (simp; done) | (simp [intC]; done) | (repeat (first | rfl | constructor))) (by simp only [go_sem, hP, hn]; first | done | (simp; done) | (simp [intC]; done) | (repeat (first | rfl | constructor)))), j + 1, ns'.set (j - 1).toNat nBs, rfl, by omega, by omega, by simp [hl'], fun x x1 x2 => ?_⟩
      by_cases e : x = j
      · subst e
        rw [if_pos ⟨by omega, hu⟩]
        unfold nd
        rw [List.getD_eq_getElem?_getD, List.getElem?_set, if_pos rfl, if_pos q3]; rfl
      · have e1 : nd (ns'.set (j - 1).toNat nBs) (x - 1) = nd ns' (x - 1) := by
          unfold nd
          rw [List.getD_eq_getElem?_getD, List.getD_eq_getElem?_getD, List.getElem?_set, if_neg (by omega)]
        rw [e1, hn' x x1 x2]
        by_cases e2 : x < j ∧ rb us x = false
        · rw [if_pos e2, if_pos ⟨by omega, e2.2⟩]
        · rw [if_neg e2, if_neg (fun e3 => e2 ⟨by omega, e3.2⟩)]
    · have hu : rb us j = true := by simpa using hb
      clear hb hub
      (repeat (first | refine TS.imp ?_ | refine n9 (by decide) ?_))
      replace w3 := w3 ()
      refine TR.imp ?_; intro K hK; simp only [w3, go_sem, hP, hn]; (repeat refine vc ?_); refine hK _ ?_; clear K hK
      (repeat (first | refine TS.imp ?_ | refine n9 (by decide) ?_))
      clear w3
      refine ⟨q - 1, _, by omega, (Le.mv (by simp only [go_sem, hP, hn]; first | done | (simp; done) | (simp [intC]; done) | (repeat (first | rfl | constructor))) (by simp only [go_sem, hP, hn]; first | done | (simp; done) | (simp [intC]; done) | (repeat (first | rfl | constructor)))), j + 1, ns', rfl, by omega, by omega, hl', fun x x1 x2 => ?_⟩
      rw [hn' x x1 x2]
      by_cases e2 : x < j ∧ rb us x = false
      · rw [if_pos e2, if_pos ⟨by omega, e2.2⟩]
      · rw [if_neg e2, if_neg (fun e3 => e2 ⟨by
          have : x ≠ j := fun e => by rw [e, hu] at e3; cases e3.2
          omega, e3.2⟩)]
  have hjn : j = ns.length + 1 := by have := of_decide_eq_false hb; omega
  clear hb
  have hA : Alt ns ns' (rb us) i := ⟨hl', fun x x1 x2 => by
    rw [hn' x x1 x2]
    by_cases e : rb us x = true
    · rw [if_neg (fun e2 => by rw [e] at e2; cases e2.2), if_pos e]
    · rw [if_pos ⟨by omega, by simpa using e⟩, if_neg e], hcl, htop⟩
  obtain ⟨W3, R3, hF'⟩ := hF.alt hA ⟨i1, i2⟩
  have cB := Eval_w Tk hF' hfs hm
  have hsame : outL ns' W3 i fs = LA := by
    rw [← hLA]
    unfold outL
    rw [inF_g7, inF_g7]
    exact hF.alt_same hA hF' fs (rk i) i i0 i2 (Nat.le_refl _) (.inr htop)
  rw [hsame] at cB
  have hsm := hF.out_small hfs hm (i := i) i0 i2
  rw [show inF (strL ns W2 fs) i = LA from hLA] at hsm
  have hOl : (OA.length : Int) = ns.length + 1 := by rw [← hOA, strL_len]; omega
  have hOi : inF OA i = LA := by rw [← hOA]; exact hLA
  clear hn' hcl htop hA hF' hsame hLA hOA hFi cS cE
  refine Tr.le (Le.freeze 101) ?_
  (repeat (first | refine TS.imp ?_ | refine n9 (by decide) ?_))
  refine TR.imp ?_; intro K hK; simp only [go_sem, hP, hn]
  (repeat refine vc ?_)
  refine CallN_cs (Hi := [] ) (by rw [hP, hT]; exact  cB) rfl rfl rfl trivial (by simp only [go_sem, hP, hn]; try trivial) (by simp only [go_sem, hP, hn]; try rfl) (by simp only [inH, go_sem, hP, hn]; try simp) (by rw [hn]; decide) ?_; simp only [go_sem, hP, hn]; (repeat refine vc ?_)
  refine hK _ ?_; clear K hK
  refine Tr.le (Le.keep [5, 8, 9, 10, 11, 13, 14, 21, 22]) ?_; simp only [List.map_cons, List.map_nil, lk, Nat.reduceEqDiff, reduceIte]
  have w9 : wrap64 ((ns.length : Int) + 1) = (ns.length : Int) + 1 := w64 (by omega) (by omega)
  (repeat (first | refine TS.imp ?_ | refine n9 (by decide) ?_))
  refine TR.imp ?_; intro K hK; simp only [w9, go_sem, hP, hn]; (repeat refine vc ?_); refine hK _ ?_; clear K hK
  (repeat (first | refine TS.imp ?_ | refine n9 (by decide) ?_))
  refine Tr.cond rfl (fun hb => ?_) (fun hb => ?_)
  · exfalso
    simp at hb
    omega
  clear hb w9
  have hri := rw_ins OA i i0 (by omega)
  rw [hOi] at hri
  have o1 : 0 ≤ i ∧ i < OA.length := by omega
  (repeat (first | refine TS.imp ?_ | refine n9 (by decide) ?_))
  refine TR.imp ?_; intro K hK; simp only [hri, go_sem, hP, hn]
  simp only [o1, and_self, true_and, List.length_map]
  (repeat refine vc ?_)
  refine c1 (by rw [hP, hT]; exact Same18_c Tk.m LA LA hsm.1 hsm.2) rfl rfl rfl trivial (by simp only [go_sem, hP, hn]; try trivial) (by simp only [go_sem, hP, hn]; try rfl) (by rw [hn]; decide) (by rfl) ?_; simp only [go_sem, hP, hn]; (repeat refine vc ?_)
  refine hK _ ?_; clear K hK
  (repeat (first | refine TS.imp ?_ | refine n9 (by decide) ?_))
  refine TR.imp ?_; intro K hK; simp only [go_sem, hP, hn]
  (repeat refine vc ?_)
  refine c1 (by rw [hP, hT]; exact Same18_c Tk.m LA LA hsm.1 hsm.2) rfl rfl rfl trivial (by simp only [go_sem, hP, hn]; try trivial) (by simp only [go_sem, hP, hn]; try rfl) (by rw [hn]; decide) (by rfl) ?_; simp only [go_sem, hP, hn]; (repeat refine vc ?_)
  refine hK _ ?_; clear K hK
  (repeat (first | refine TS.imp ?_ | refine n9 (by decide) ?_))
  refine TR.imp ?_; intro K hK; simp only [go_sem, hP, hn]; (repeat refine vc ?_); refine hK _ ?_; clear K hK
  (repeat (first | refine TS.imp ?_ | refine n9 (by decide) ?_))
  simp only [RetG, go_sem]; (repeat with_reducible refine vc ?_)
  all_goals simp
end
end Go.Proofs.YtgomeljgbjgbkaaDoor.Aw
