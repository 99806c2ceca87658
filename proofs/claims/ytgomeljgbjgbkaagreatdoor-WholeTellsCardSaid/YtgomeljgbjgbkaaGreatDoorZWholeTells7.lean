/- The abstract walk, and contracts of Go functions: each call returns what the Lean function named tells. Conditions: those that each theorem names, none else. -/
import Derived.Test.YtgomeljgbjgbkaaGreatDoorZWholeTells6
set_option linter.unusedVariables false
set_option linter.unusedSimpArgs false
set_option maxRecDepth 100000
set_option maxHeartbeats 4000000
namespace Go.Proofs.YtgomeljgbjgbkaaGreatDoor.Aw
open Go.RowKit
attribute [local go_sem_proc] Nat.reduceAdd Nat.reduceMul Nat.reduceSub Nat.reduceEqDiff Nat.reduceLeDiff Nat.reduceBEq Nat.reduceBNe Int.reduceToNat reduceIte reduceCtorEq
attribute [local go_sem] initT SQ so pe he ev lk constS stp stc gdS nth pickS pickD loadS cellsAt okAt fieldAddrS fieldS partS indexAddrS indexS extractS binS binD binI isShift unS convS lenS sliceS bndI bndC mmS mm2 mmD builtS fillS okCells cellsS splS solid aliveL alive okS boxS allocS makeS bsliceS elemsOf dcells stF frzW storeS frzA frz frzT frzS frzL frzO frzH appS srcS appVC killS killT killC killH killO k1 k2 S.has S.hasL St.add St.upd dropH lh cond_or cond_and rw_intC rw_intC0 rw_set rw_app rw_apps rw_rep rw_slice wr64 cond_true cond_false true_and and_true List.map_cons List.map_nil List.length_cons List.length_nil List.drop_succ_cons List.drop_zero List.take_succ_cons List.take_zero List.nil_append List.cons_append List.getD_cons_zero List.getD_cons_succ List.headD_cons List.length_map ite_true ite_false if_true if_false Bool.false_eq_true and_self forall_const List.drop_nil List.take_nil List.append_nil Option.map_some Option.map_none List.mapM_cons List.mapM_nil Option.bind_eq_bind Option.bind_some Option.pure_def knows resL resV oneS freshS freshL cv cvL stpL stcL or_true true_or or_false false_or List.all_cons List.all_nil Bool.and_self Bool.or_self Bool.true_and Bool.and_true Bool.or_false Bool.false_or implies_true flatD allm_nil allm_cons List.getElem?_cons_zero List.getElem?_cons_succ Nd.cs Nd.ds ml mln Option.isSome_some Option.isSome_none eq_self Int.toNat_natCast AP ldOk isLd inL subL crt chg chgS chgP idxs aliveW Option.toList_some Option.toList_none Option.toList RetG Nd.win frzA offK keepH aliveK nkH closedH closedO keysK inH St.upd rowO List.contains_cons List.contains_nil Bool.or_self Option.isNone_none Option.isNone_some Bool.not_true Bool.not_false gcs rowN e0N frzC
attribute [local go_sem] sz2 ag2 ok2 kk2 iu2 zc2 zd2 by2 sz3 ag3 ok3 kk3 iu3 zc3 zd3 by3 sz4 ag4 ok4 bo4 zc4 zd4 by4 sz5 ag5 ok5 kk5 iu5 zc5 zd5 by5 sz9 ag9 ok9 st9 zc9 zd9 by9 sz12 ag12 ok12 kk12 iu12 zc12 zd12 by12 sz15 ag15 ok15 zc15 by15 sz16 ag16 ok16 zc16 by16 sz21 ag21 ok21 kk21 iu21 zc21 zd21 by21 sz22 ag22 ok22 sl22 zc22 zd22 by22 sz23 ag23 ok23 zc23 zd23 pl23 by23 fl23_0 fl23_1 fl23_2 sz24 ag24 ok24 zc24 zd24 pl24 by24 fl24_0 fl24_1 fl24_2 sz26 ag26 ok26 sl26 zc26 zd26 by26 sz27 ag27 ok27 zc27 zd27 pl27 by27 fl27_0 fl27_1 fl27_2 fl27_3 fl27_4 sz28 ag28 ok28 zc28 zd28 pl28 by28 fl28_0 fl28_1 fl28_2 fl28_3 fl28_4 sz29 ag29 ok29 sl29 zc29 zd29 by29 sz32 ag32 ok32 sl32 zc32 zd32 by32 sz33 ag33 ok33 kk33 iu33 zc33 zd33 by33 sz36 ag36 ok36 zc36 zd36 pl36 by36 fl36_0 fl36_1 sz37 ag37 ok37 zc37 zd37 pl37 by37 fl37_0 fl37_1 sz49 ag49 ok49 zc49 zd49 pl49 by49 fl49_0 fl49_1 fl49_2 fl49_3 fl49_4 fl49_5 fl49_6 fl49_7 fl49_8 fl49_9 fl49_10 fl49_11 fl49_12 fl49_13 fl49_14 sz50 ag50 ok50 zc50 zd50 pl50 by50 fl50_0 fl50_1 fl50_2 fl50_3 fl50_4 fl50_5 fl50_6 fl50_7 fl50_8 fl50_9 fl50_10 fl50_11 fl50_12 fl50_13 fl50_14 sz53 ag53 ok53 zc53 by53 sz55 ag55 ok55 zc55 zd55 pl55 by55 fl55_0 fl55_1 fl55_2 sz56 ag56 ok56 zc56 zd56 pl56 by56 fl56_0 fl56_1 fl56_2 sz58 ag58 ok58 zc58 zd58 pl58 by58 fl58_0 fl58_1 fl58_2 fl58_3 sz59 ag59 ok59 zc59 zd59 pl59 by59 fl59_0 fl59_1 fl59_2 fl59_3 sz66 ag66 ok66 zc66 zd66 pl66 by66 fl66_0 fl66_1 fl66_2 sz67 ag67 ok67 zc67 zd67 pl67 by67 fl67_0 fl67_1 fl67_2 sz79 ag79 ok79 zc79 by79 sz80 ag80 ok80 zc80 zd80 pl80 by80 fl80_0 fl80_1 sz81 ag81 ok81 zc81 zd81 pl81 by81 fl81_0 fl81_1 sz105 ag105 ok105 sl105 ar105 zc105 zd105 pl105 by105 sz108 ag108 ok108 sl108 ar108 zc108 zd108 pl108 by108 sz109 ag109 ok109 zc109 by109 sz115 ag115 ok115 zc115 zd115 pl115 by115 fl115_0 fl115_1 sz116 ag116 ok116 zc116 zd116 pl116 by116 fl116_0 fl116_1 sz120 ag120 ok120 zc120 zd120 pl120 by120 fl120_0 fl120_1 sz121 ag121 ok121 sl121 ar121 zc121 zd121 pl121 by121 sz124 ag124 ok124 kk124 iu124 zc124 zd124 by124 sz133 ag133 ok133 kk133 iu133 zc133 zd133 by133 sz137 ag137 ok137 zc137 by137
section
attribute [local go_sem] frD insD rwS_len killC_rwS killC_set frzL_rwS frzL_set renL_rwS renL_set hasL_rwS hasL_set rwS_set List.set_set Bool.and_false Bool.not_false rcs OBR OBS
theorem gap_made {n : Nd} {v : Int} (hs : n.sized v = true) (he : n.else0 = true) (hwin : rWin n.k = true) : mx n.gap 1 = gapV n := by
  have e6 : n.e6 = false := by
    unfold Nd.else0 at he
    cases e : n.e6 with
    | false => rfl
    | true => rw [e] at he; simp at he
  unfold gapV mx
  by_cases h12 : n.k = 12
  · unfold Nd.e6 at e6
    have h4 : rFour n.k = false := by rw [h12]; rfl
    rw [h4] at e6
    simp at e6
    rw [h12, e6.1.1.2]; rfl
  · have hb12 : (n.k == 12) = false := by simpa using h12
    have h4 : rFour n.k = true := by
      rw [rWin_four, hb12, Bool.or_false] at hwin; exact hwin
    have h8 : n.s8 = false := by
      unfold Nd.sized at hs
      cases e : n.s8 with
      | false => rfl
      | true => rw [e] at hs; simp at hs
    unfold Nd.s8 at h8
    rw [h4] at h8
    simp only [Bool.true_and, Bool.or_eq_false_iff, Bool.not_eq_false', inB_iff] at h8
    rw [hb12]
    simp only [Bool.false_eq_true, if_false]
    split <;> omega
theorem mayE_fin {wd lo hi many : Int} {fs : List (List Int)} (h : Fin18 wd lo hi many fs) : mayE wd lo hi fs = 0 := by
  have key : ∀ l : List (List Int), (∀ f ∈ l, f ∈ fs) → mayE wd lo hi l = 0 := by
    intro l
    induction l with
    | nil => intro _; rfl
    | cons f l ih =>
      intro hl
      have h1 := h.wid f (hl f (by simp))
      have h2 := h.num f (hl f (by simp))
      have e : frE18 wd lo hi f = 0 := by
        unfold frE18
        rw [h1, if_neg (by simp), if_pos]
        refine List.all_eq_true.2 fun x hx => ?_
        have := h2 x hx
        unfold inW
        simp; omega
      rw [mayE, e, if_neg (by decide)]
      exact ih fun g hg => hl g (by simp [hg])
  exact key fs fun _ h => h
theorem node_g {T : World → Prop} (Tk : KT T) {wd lo hi out : Int} {ns : List Nd} {W R : Int → Int} {rk : Int → Nat} {W2 R2 : List Int} (h : GF wd lo hi out ns W R rk W2 R2) {i : Int} (i1 : 1 ≤ i) (i2 : i ≤ ns.length) {u : Int → List (List Int)} (hu : ∀ j ∈ (nd ns (i - 1)).inn, SG (W j) (1000 + 10 * rk j) (u j))
    (ds : List D) (hdl : ds.length = ns.length + 1) (hnil : ds.getD i.toNat .nil = .nil) (hds : ∀ j ∈ (nd ns (i - 1)).inn, j ≠ i ∧ ds.getD j.toNat .nil = frD (u j)) :
    Cg Go.Proofs.Tryz.prog T 24 (OBS wd lo hi out ns W2 ds) [.fps (rcs wd lo hi out ns W2 1001), .d (.i .i64 i)] (fun r H => H = OBS wd lo hi out ns W2 (ds.set i.toNat (frD (frF ns W2 u i))) ∧ r = .tup []) := by
  obtain ⟨b, hb, e, hs⟩ := h.sgs i1 i2 hu
  have hn := (h.gg.node i i1 i2).1
  have hw2 := h.w2 i1 i2
  have hn0 := h.n0
  have hwl := h.wl
  have hinn := hn.inn
  unfold frF
  generalize hnd : nd ns (i - 1) = n at *
  have hw := hn.w0
  obtain ⟨_, _, _, he, hsz, _⟩ := rchk_unpack hn.chk
  obtain ⟨l1, l2⟩ := hn.lens (u := u) (b := b) fun j hj => (hs j hj).len
  have hc := hn.cnt (by omega) l1 l2
  have key := fun (k : Int) (k0 : 0 ≤ k) (k1 : k < n.rCount ((n.inn.map u).map fun s => (s.length : Int))) => hn.ni (by omega) hs k0 k1
  have hl1 := hn.l1
  have hl2 := hn.l2
  have h0i := hinn _ (rd_mem (l := n.inn) (j := 0) (by omega) (by omega))
  have hw3 : (rd W2 (rd n.inn 0)).toNat = (W (rd n.inn 0)).toNat := by rw [hw2]
  rw [hw3]
  generalize hwn : (W (rd n.inn 0)).toNat = w at *
  have hw4 : rd W2 (rd n.inn 0) = (w : Int) := by omega
  have hk : rWin n.k = false → n.k ≠ 5 → n.rCount ((n.inn.map u).map fun s => (s.length : Int)) = fewestV ((n.inn.map u).map fun s => (s.length : Int)) := fun hwin h5 => by
    unfold Nd.rCount
    rw [hwin, Bool.false_and, if_neg (by decide), show (n.k == 5) = false by simpa using h5, Bool.false_and, if_neg (by decide)]
  have hce := count_eqW hn.wf ((n.inn.map u).map fun s => (s.length : Int))
  unfold nodeF
  generalize hC : n.rCount ((n.inn.map u).map fun s => (s.length : Int)) = C at *
  have hC2 : n.count ((n.inn.map u).map fun s => (s.length : Int)) = (C.toNat : Nat) := by rw [hce]; omega
  have a2 : w ≤ 65536 := by omega
  have a3 : C.toNat ≤ 65536 := by omega
  have a4 : ds[i.toNat]? = some .nil := by
    have : i.toNat < ds.length := by omega
    rw [List.getD_eq_getElem?_getD, List.getElem?_eq_getElem this] at hnil
    rw [List.getElem?_eq_getElem this]
    exact congrArg some hnil
  refine node_c Tk wd lo hi out ns W2 ds i n u w C.toNat (fun k => frameV n (inpF n (n.inn.map u) w k) w) (by omega) ⟨i1, i2, by omega⟩ hnd a4 (by omega) ⟨by omega, by omega⟩ (fun j hj => ?_) (by omega) hw4 a2 (fun hwin => gap_made hsz he hwin) (fun hwin => ?_) hC2 a3 (fun _ => by rw [stp_eqW]; exact hn.st0) (fun hwin h5 j hj => ?_) fun k k0 k1 => ?_
  · have h1 := hinn j hj
    have h2 := hds j hj
    have h3 := (hs j hj).len
    exact ⟨h1.1, by omega, fun e => h2.1 (by omega), h2.2, by omega⟩
  · have := win_size hsz hwin; omega
  · have hk := hk hwin h5
    have hCt : (C.toNat : Int) = C := by omega
    refine Int.ofNat_le.1 ?_
    rw [hCt, hk]
    clear hk hC hC2 key hCt hce
    rcases inn12 hn with ⟨a, ha⟩ | ⟨a, c, ha⟩
    · rw [ha] at hj ⊢
      obtain rfl := List.mem_singleton.1 hj
      simp only [List.map_cons, List.map_nil]
      rw [fewest1 (by omega)]; omega
    · rw [ha] at hj ⊢
      simp only [List.map_cons, List.map_nil]
      rw [fewest2 (by omega) (by omega)]
      unfold mn
      split <;> rcases List.mem_cons.1 hj with rfl | hj <;> (try obtain rfl := List.mem_singleton.1 hj) <;> omega
  · have hk := key k k0 (by omega)
    have hf := hk.fok hn
    rw [hwn] at hf
    exact (Frame_w Tk n _ w hf (hk.right hn)).data
end
section
attribute [local go_sem] frD insD rwS_len killC_rwS killC_set frzL_rwS frzL_set renL_rwS renL_set hasL_rwS hasL_set rwS_set List.set_set Bool.and_false Bool.not_false rcs OBR OBS
theorem ds_ins {ds : List D} {o : List (List (List Int))} (hl : ds.length = o.length) (h : ∀ x : Nat, x < o.length → ds.getD x .nil = frD (o.getD x [])) : (ds.map fun d => [d]) = o.map insE := by
  apply List.ext_getElem?
  intro x
  rw [List.getElem?_map, List.getElem?_map]
  by_cases hx : x < o.length
  · have := h x hx
    rw [List.getD_eq_getElem?_getD, List.getD_eq_getElem?_getD, List.getElem?_eq_getElem (by omega), List.getElem?_eq_getElem hx] at this
    rw [List.getElem?_eq_getElem (by omega), List.getElem?_eq_getElem hx]
    unfold insE
    exact congrArg some (congrArg (fun d => [d]) this)
  · rw [List.getElem?_eq_none (by omega), List.getElem?_eq_none (by omega)]; rfl
theorem Streams_w {T : World → Prop} (Tk : KT T) {wd lo hi out : Int} {ns : List Nd} {W R : Int → Int} {rk : Int → Nat} {W2 R2 : List Int} (h : GF wd lo hi out ns W R rk W2 R2) {many : Int} {fs : List (List Int)} (hfs : Fin18 wd lo hi many fs) (hm : 0 ≤ many ∧ many ≤ 1000) :
    Cg Go.Proofs.Tryz.prog T 8 [] [.agg (gcs wd lo hi out (.d (rowN ns))), .d (frD fs)] (fun r H => H = [] ∧ r = .tup [.d (insD (strL ns W2 fs)), .d (.i .i64 0)]) := by
  have hn0 := h.n0
  have hrg := may_rng h.may
  have hl0 := hfs.len
  have cM := wmay_c Tk wd lo hi out ns fs (by omega) h.inn (by omega) (fun f hf => by have := hfs.wid f hf; omega)
  have cW := Widths_c Tk wd lo hi out ns (by omega) h.inn
  have cO := Order_c Tk wd lo hi out ns (by omega) h.inn
  rw [h.look] at cM cW cO
  rw [mayE_fin hfs] at cM
  simp only [bne_self_eq_false, Bool.false_eq_true, if_false] at cM
  have w1 : wrap64 ((ns.length : Int) + 1) = ((ns.length + 1 : Nat) : Int) := by rw [w64 (by omega) (by omega)]; omega
  refine Cg_of [] Tk.m Go.Proofs.Tryz.func8 rfl rfl Go.Proofs.Tryz.ntmps8 (by simp) rfl (rs := [.tmp 4, .tmp 5]) rfl fun E hP hn hT hpn => ?_
  (repeat (first | refine TS.imp ?_ | refine n9 (by decide) ?_))
  refine TR.imp ?_; intro K hK; simp only [go_sem, hP, hn]; (repeat refine vc ?_); refine hK _ ?_; clear K hK
  (repeat (first | refine TS.imp ?_ | refine n9 (by decide) ?_))
  refine TR.imp ?_; intro K hK; simp only [go_sem, hP, hn]
  (repeat refine vc ?_)
  refine CallN_cs (Hi := [] ) (by rw [hP, hT]; exact  cM) rfl rfl rfl trivial (by simp only [go_sem, hP, hn]; try trivial) (by simp only [go_sem, hP, hn]; try rfl) (by simp only [inH, go_sem, hP, hn]; try simp) (by rw [hn]; decide) ?_; simp only [go_sem, hP, hn]; (repeat refine vc ?_)
  refine hK _ ?_; clear K hK
  (repeat (first | refine TS.imp ?_ | refine n9 (by decide) ?_))
  refine TR.imp ?_; intro K hK; simp only [go_sem, hP, hn]; (repeat refine vc ?_); refine hK _ ?_; clear K hK
  (repeat (first | refine TS.imp ?_ | refine n9 (by decide) ?_))
  refine Tr.cond rfl (fun hb => ?_) (fun hb => ?_)
  · cases hb
  clear hb
  refine Tr.le (Le.keep [1, 2]) ?_; simp only [List.map_cons, List.map_nil, lk, Nat.reduceEqDiff, reduceIte]
  (repeat (first | refine TS.imp ?_ | refine n9 (by decide) ?_))
  refine Tr.mono (Q := thenS (fun s' => Le E s' ⟨[(1, .d (frD fs)), (2, .ptr 2 0), (7, .ptr 28 0)], [(2, .box 28 (gcs wd lo hi out (.d (rowN ns)))), (28, .box 56 (rcs wd lo hi out ns W2 26)), (26, .row 29 [.nil] (List.replicate (ns.length + 1) [.nil]))]⟩) fun _ _ => False) ?_ ?_
  · refine d5 (.p true 0 (.p true 1 (.p true 3 (.p true 4 (.p true 5 (.p true 6 (.alt 2 (.alt 7 (.p false 8 (.alt 9 (.p false 10 .nil) .nil)) .nil) (.alt 7 (.alt 2 (.p false 8 (.alt 9 (.p false 10 .nil) .nil)) .nil) .nil)))))))) [] (by rw [hP]; kernel_rfl) (by kernel_rfl) (by simp only [go_sem, hP, hn]; try simp) (by exact fun _ _ h => h) ?_; intro K hK; simp only [go_sem, hP, hn]
    rw [w1]
    simp only [go_sem, hP, hn]
    repeat' (first
      | refine And.intro ?_ ?_
      | trivial
      | omega
      | (refine CallP_cs (by rw [hP, hT]; exact cW) rfl rfl rfl trivial (by simp only [go_sem, hP, hn]; try trivial) (by simp only [go_sem, hP, hn]; try rfl) (by rw [hn]; decide) ?_; simp only [go_sem, hP, hn])
      | (rw [w1]; simp only [go_sem, hP, hn]))
    all_goals
      refine hK _ ?_
      show Le E _ _
      exact (Le.mv (by simp only [go_sem, hP, hn]; first | done | (simp; done) | (simp [intC]; done) | (repeat (first | rfl | constructor))) (by simp only [go_sem, hP, hn]; first | done | (simp; done) | (simp [intC]; done) | (repeat (first | rfl | constructor))))
  · intro e s' hl
    cases e <;> simp only [thenS] at hl
    simp only [thenS]
    refine Tr.le hl ?_
    simp only [go_sem, hP, hn]
    refine Tr.le (Le.fzs 7 28 rfl rfl) ?_
    simp only [go_sem, hP, hn]
    refine Tr.le (Le.ren 26 1001 (by rw [hpn] <;> rfl) rfl (by simp [freeH, closedO, hasL_set, hasL_rwS, k1, S.hasL, S.has, go_sem])) ?_; simp only [renT, renH, renO, renS, renL, rn, go_sem, hP, hn]
    rw [show List.replicate (ns.length + 1) [D.nil] = (List.replicate (ns.length + 1) D.nil).map (fun d => [d]) by simp]
    refine Tr.le (Le.rows 1001 (List.replicate (ns.length + 1) .nil) rfl rfl) ?_
    simp only [go_sem, hP, hn]
    refine Tr.le (Le.nilrows 1002 1001 0 22 [.nil] rfl (by unfold rwS; simp) (by rw [hpn] <;> rfl) rfl (by simp [freeH, closedO, hasL_set, hasL_rwS, k1, S.hasL, S.has, go_sem])) ?_
    simp only [go_sem, hP, hn]
    have hd0 : (List.replicate (ns.length + 1) D.nil).length = ns.length + 1 := by simp
    have hdn : ∀ x : Nat, (List.replicate (ns.length + 1) D.nil).getD x .nil = .nil := fun x => by
      rw [List.getD_eq_getElem?_getD, List.getElem?_replicate]
      split <;> rfl
    generalize List.replicate (ns.length + 1) D.nil = ds0 at *
    (repeat (first | refine TS.imp ?_ | refine n9 (by decide) ?_))
    refine TR.imp ?_; intro K hK; simp only [go_sem, hP, hn]; (repeat refine vc ?_); refine hK _ ?_; clear K hK
    (repeat (first | refine TS.imp ?_ | refine n9 (by decide) ?_))
    refine Tr.loop (fun q s => ∃ i : Int, s = ⟨[(2, .ptr 2 0), (7, .fps (rcs wd lo hi out ns W2 1001)), (29, .d (frD fs)), (30, .d (.i .i64 fs.length)), (31, .d (.i .i64 i))], [(2, .box 28 (gcs wd lo hi out (.d (rowN ns)))), (1001, .rows 29 ((rwS ds0).set 0 (.own 1002))), (1002, .row 22 [.nil] ((fs.take i.toNat).map frE))]⟩ ∧ 0 ≤ i ∧ i + q = fs.length) fs.length ⟨_, ?_, 0, rfl, by omega, by omega⟩ ?_
    · exact (Le.mv (by simp only [go_sem, hP, hn]; first | done | (simp; done) | (simp [intC]; done) | (repeat (first | rfl | constructor))) (by simp only [go_sem, hP, hn]; first | done | (simp; done) | (simp [intC]; done) | (repeat (first | rfl | constructor))))
    rintro q s ⟨i, rfl, i0, iq⟩
    (repeat (first | refine TS.imp ?_ | refine n9 (by decide) ?_))
    refine TR.imp ?_; intro K hK; simp only [go_sem, hP, hn]; (repeat refine vc ?_); refine hK _ ?_; clear K hK
    (repeat (first | refine TS.imp ?_ | refine n9 (by decide) ?_))
    refine Tr.cond rfl (fun hb => ?_) (fun hb => ?_)
    · have hi1 : i < fs.length := of_decide_eq_true hb
      clear hb
      have hrf := rw_fr fs i i0 hi1
      have hfl := hfs.wid _ (fr_mem i0 hi1)
      have w2 : wrap64 (i + 1) = i + 1 := w64 (by omega) (by omega)
      have hk1 : 0 < ds0.length := by omega
      have hgk : ((rwS ds0).set 0 (.own 1002)).getD 0 .any = .own 1002 := by rw [set_getD (by rw [rwS_len]; exact hk1), if_pos rfl]
      have htk : fs.take (i + 1).toNat = fs.take i.toNat ++ [fr fs i] := by
        rw [show (i + 1).toNat = i.toNat + 1 by omega, List.take_succ_eq_append_getElem (by omega)]
        unfold fr
        simp [List.getD, show i.toNat < fs.length by omega]
      have hTl : (fs.take i.toNat).length ≤ 1000 := by rw [List.length_take]; omega
      (repeat (first | refine TS.imp ?_ | refine n9 (by decide) ?_))
      refine TR.imp ?_; intro K hK; simp only [hrf, go_sem, hP, hn]; (repeat refine vc ?_); refine hK _ ?_; clear K hK
      (repeat (first | refine TS.imp ?_ | refine n9 (by decide) ?_))
      generalize fs.take i.toNat = F at *
      generalize fr fs i = f at *
      refine Tr.mono (Q := thenS (fun s' => Le E s' ⟨[(2, .ptr 2 0), (7, .fps (rcs wd lo hi out ns W2 1001)), (29, .d (frD fs)), (30, .d (.i .i64 fs.length)), (31, .d (.i .i64 i))], [(2, .box 28 (gcs wd lo hi out (.d (rowN ns)))), (1001, .rows 29 ((rwS ds0).set 0 (.own 1002))), (1002, .row 22 [.nil] ((F ++ [f]).map frE))]⟩) fun _ _ => False) ?_ ?_
      · refine d5 (.p true 0 (.p true 1 (.p true 2 (.p true 3 (.p true 4 (.p true 5 (.p true 6 (.p true 7 (.p true 8 (.p true 11 (.alt 9 (.alt 10 (.alt 12 (.alt 13 (.alt 14 (.p true 15 (.alt 16 .nil .nil)) .nil) .nil) .nil) .nil) (.alt 10 (.alt 9 (.alt 12 (.alt 13 (.alt 14 (.p true 15 (.alt 16 .nil .nil)) .nil) .nil) .nil) (.alt 12 (.alt 9 (.alt 13 (.alt 14 (.p true 15 (.alt 16 .nil .nil)) .nil) .nil) (.alt 13 (.alt 9 (.alt 14 (.p true 15 (.alt 16 .nil .nil)) .nil) .nil) .nil)) .nil)) .nil)))))))))))) [1001, 1002] (by rw [hP]; kernel_rfl) (by kernel_rfl) (by simp only [go_sem, hP, hn]; try simp) (by exact fun _ _ h => h) ?_; intro K hK; simp only [go_sem, hP, hn]
        repeat' (first
          | refine And.intro ?_ ?_
          | trivial
          | omega
          | (rw [hgk]; simp only [go_sem, hP, hn])
          | (simp only [List.length_set, rwS_len]; first | exact hk1 | omega))
        all_goals
          refine hK _ ?_
          show Le E _ _
          refine Le.trans (b := ⟨[(2, .ptr 2 0), (7, .fps (rcs wd lo hi out ns W2 1001)), (29, .d (frD fs)), (30, .d (.i .i64 fs.length)), (31, .d (.i .i64 i))], [(2, .box 28 (gcs wd lo hi out (.d (rowN ns)))), (1001, .rows 29 ((rwS ds0).set 0 (.own 49))), (49, .row 22 [.nil] ((F ++ [f]).map frE))]⟩) ?_ ?_
          · rw [List.map_append (l₁ := F)]
            exact (Le.mv (by simp only [go_sem, hP, hn]; first | done | (simp; done) | (simp [intC]; done) | (repeat (first | rfl | constructor))) (by simp only [go_sem, hP, hn]; first | done | (simp; done) | (simp [intC]; done) | (repeat (first | rfl | constructor))))
          refine Le.trans (Le.ren 49 1002 (by rw [hpn] <;> rfl) rfl (by simp [freeH, closedO, hasL_set, hasL_rwS, k1, S.hasL, S.has, go_sem])) ?_; simp only [renT, renH, renO, renS, renL, rn, go_sem, hP, hn]
          exact Le.refl _
      · intro e s' hl
        cases e <;> simp only [thenS] at hl
        simp only [inBlk, thenS]
        refine Tr.le hl ?_
        (repeat (first | refine TS.imp ?_ | refine n9 (by decide) ?_))
        refine TR.imp ?_; intro K hK; simp only [w2, go_sem, hP, hn]; (repeat refine vc ?_); refine hK _ ?_; clear K hK
        (repeat (first | refine TS.imp ?_ | refine n9 (by decide) ?_))
        exact ⟨q - 1, _, by omega, by rw [htk]; exact (Le.mv (by simp only [go_sem, hP, hn]; first | done | (simp; done) | (simp [intC]; done) | (repeat (first | rfl | constructor))) (by simp only [go_sem, hP, hn]; first | done | (simp; done) | (simp [intC]; done) | (repeat (first | rfl | constructor)))), i + 1, rfl, by omega, by omega⟩
    obtain rfl : i = fs.length := by have := of_decide_eq_false hb; omega
    rw [Int.toNat_natCast, List.take_length]
    clear hb
    refine Tr.le (Le.freeze 1002) ?_
    simp only [go_sem, hP, hn]
    refine Tr.le (Le.keep [2, 7]) ?_; simp only [List.map_cons, List.map_nil, lk, Nat.reduceEqDiff, reduceIte]
    (repeat (first | refine TS.imp ?_ | refine n9 (by decide) ?_))
    refine TR.imp ?_; intro K hK; simp only [go_sem, hP, hn]; (repeat refine vc ?_); refine hK _ ?_; clear K hK
    (repeat (first | refine TS.imp ?_ | refine n9 (by decide) ?_))
    refine TR.imp ?_; intro K hK; simp only [go_sem, hP, hn]
    (repeat refine vc ?_)
    refine CallN_cs (Hi := [] ) (by rw [hP, hT]; exact  cO) rfl rfl rfl trivial (by simp only [go_sem, hP, hn]; try trivial) (by simp only [go_sem, hP, hn]; try rfl) (by simp only [inH, go_sem, hP, hn]; try simp) (by rw [hn]; decide) ?_; simp only [go_sem, hP, hn]; (repeat refine vc ?_)
    refine hK _ ?_; clear K hK
    refine Tr.le (Le.keep [7, 10, 55, 56, 57]) ?_; simp only [List.map_cons, List.map_nil, lk, Nat.reduceEqDiff, reduceIte]
    (repeat (first | refine TS.imp ?_ | refine n9 (by decide) ?_))
    have hord := h.ord
    have htop : ∀ (o1 : List Int) (i : Int) (r : List Int), order ns = o1 ++ i :: r → i ∉ o1 ∧ ∀ j ∈ (nd ns (i - 1)).inn, j = 0 ∨ j ∈ o1 := fun o1 i r e => mayO_iff.1 (order_top ns o1 i r e).1
    have hmem := h.gg.mem_order
    have hol := h.gg.order_len
    unfold strL
    generalize order ns = os at *
    generalize hOUT : ordL [] (fun u _ i => frF ns W2 u i) os (fs :: List.replicate ns.length []) = OUT
    refine Tr.loop (fun q s => ∃ (k : Nat) (o : List (List (List Int))) (ds : List D), s = ⟨[(7, .fps (rcs wd lo hi out ns W2 1001)), (10, .mth 24 [.fps (rcs wd lo hi out ns W2 1001)]), (55, .d (.row [.i .i64 0] (os.map intC))), (56, .d (.i .i64 os.length)), (57, .d (.i .i64 k))], [(1001, .rows 29 (rwS ds))]⟩ ∧ k + q = os.length ∧ o.length = ns.length + 1 ∧ ordL [] (fun u _ i => frF ns W2 u i) (os.drop k) o = OUT ∧ ds.length = ns.length + 1 ∧ (∀ x : Int, 0 ≤ x → x ≤ ns.length → ds.getD x.toNat .nil = if x = 0 ∨ x ∈ os.take k then frD (ga [] o x) else .nil) ∧ ∀ j : Int, (j = 0 ∨ j ∈ os.take k) → SG (W j) (1000 + 10 * rk j) (ga [] o j)) os.length ⟨_, ?_, 0, fs :: List.replicate ns.length [], ds0.set 0 (frD fs), rfl, by omega, by simp, hOUT, by simp [hd0], fun x x0 x1 => ?_, fun j hj => ?_⟩ ?_
    · exact (Le.mv (by simp only [go_sem, hP, hn]; first | done | (simp; done) | (simp [intC]; done) | (repeat (first | rfl | constructor))) (by simp only [go_sem, hP, hn]; first | done | (simp; done) | (simp [intC]; done) | (repeat (first | rfl | constructor))))
    · rw [set_getD (by omega)]
      by_cases hx : x = 0
      · subst hx; rfl
      · rw [if_neg (by omega), if_neg (by simpa using hx), hdn]
    · obtain rfl : j = 0 := by simpa using hj
      exact h.sg0 hfs hm
    rintro q s ⟨k, o, ds, rfl, kq, hl, hro, hdl, hds, hsg⟩
    (repeat (first | refine TS.imp ?_ | refine n9 (by decide) ?_))
    refine TR.imp ?_; intro K hK; simp only [go_sem, hP, hn]; (repeat refine vc ?_); refine hK _ ?_; clear K hK
    (repeat (first | refine TS.imp ?_ | refine n9 (by decide) ?_))
    refine Tr.cond rfl (fun hb => ?_) (fun hb => ?_)
    · have hk : k < os.length := by have := of_decide_eq_true hb; omega
      clear hb
      have hmo := rd_mem (l := os) (j := (k : Int)) (by omega) (by omega)
      obtain ⟨hi1, hi2⟩ := hord _ hmo
      have hdr := drop_rd (l := os) (j := (k : Int)) (by omega) (by omega)
      rw [show ((k : Int) + 1).toNat = k + 1 by omega, Int.toNat_natCast] at hdr
      have hsp := (List.take_append_drop k os).symm
      rw [hdr] at hsp
      obtain ⟨hni, hjo⟩ := htop _ _ _ hsp
      clear hsp
      rw [hdr, ordL] at hro
      clear hdr
      have htk : os.take (k + 1) = os.take k ++ [rd os k] := by
        have := take_rd (l := os) (j := (k : Int)) (by omega) (by omega)
        rwa [show ((k : Int) + 1).toNat = k + 1 by omega, Int.toNat_natCast] at this
      have w3 : Unit → wrap64 ((k : Int) + 1) = ((k + 1 : Nat) : Int) := fun _ => by
        rw [w64 (by omega) (by omega)]; omega
      have q1 : (0 : Int) ≤ (k : Int) := by omega
      have q2 : (k : Int) < os.length := by omega
      have hk2 : (os.map intC).getD k [.i .i64 0] = [.i .i64 (rd os k)] := by
        have := rw_intC os (k : Int)
        rwa [Int.toNat_natCast] at this
      (repeat (first | refine TS.imp ?_ | refine n9 (by decide) ?_))
      refine TR.imp ?_; intro K hK; simp only [go_sem, hP, hn]
      rw [hk2]
      simp only [go_sem, hP, hn]
      (repeat (refine ⟨by first | trivial | omega, ?_⟩))
      refine hK _ ?_; clear K hK
      (repeat (first | refine TS.imp ?_ | refine n9 (by decide) ?_))
      generalize rd os k = i at *
      have hu := fun j hj => hsg j (hjo j hj)
      have hGi := h.sg_step hi1 hi2 hu
      have cN := node_g Tk h hi1 hi2 hu ds hdl (by rw [hds i (by omega) hi2, if_neg]; intro e; rcases e with e | e; (· omega); (· exact hni e)) (fun j hj => by
        have hjr := ((h.gg.node i hi1 hi2).1.inn j hj)
        refine ⟨fun e => ?_, by rw [hds j hjr.1 hjr.2.1, if_pos (hjo j hj)]⟩
        subst e
        rcases hjo j hj with e | e
        · omega
        · exact hni e)
      generalize hv : frF ns W2 (ga [] o) i = v at *
      refine TR.imp ?_; intro K hK; simp only [go_sem, hP, hn]
      (repeat refine vc ?_)
      refine CallN_mx (Hi := OBS wd lo hi out ns W2 ds) (by rw [hP, hT]; exact cN) rfl rfl rfl trivial (by simp only [go_sem, hP, hn]; try trivial) (by simp only [go_sem, hP, hn]; try rfl) (by simp [inH, lh, OBS]) (by rw [hn]; decide) (fun r Ho hr => ?_)
      obtain ⟨rfl, rfl⟩ := hr
      refine ⟨fun k hk => ?_, ?_⟩
      · exfalso
        revert hk
        simp only [newK, lh, OBS]
        by_cases e : 1001 = k <;> simp [e]
      simp only [cgS, newK, touK, go_sem, hP, hn]
      (repeat refine vc ?_)
      refine hK _ ?_; clear K hK
      (repeat (first | refine TS.imp ?_ | refine n9 (by decide) ?_))
      replace w3 := w3 ()
      refine TR.imp ?_; intro K hK; simp only [w3, go_sem, hP, hn]; (repeat refine vc ?_); refine hK _ ?_; clear K hK
      (repeat (first | refine TS.imp ?_ | refine n9 (by decide) ?_))
      clear w3
      have hga : ∀ x : Int, 0 ≤ x → ga [] (o.set i.toNat v) x = if x = i then v else ga [] o x := fun x x0 => ga_set (by omega) (by omega) x0
      refine ⟨q - 1, _, by omega, ?_, k + 1, o.set i.toNat v, ds.set i.toNat (frD v), rfl, by omega, by simp [hl], hro, by simp [hdl], fun x x0 x1 => ?_, fun j hj => ?_⟩
      · exact (Le.mv (by simp only [go_sem, hP, hn]; first | done | (simp; done) | (simp [intC]; done) | (repeat (first | rfl | constructor))) (by simp only [go_sem, hP, hn]; first | done | (simp; done) | (simp [intC]; done) | (repeat (first | rfl | constructor))))
      · rw [set_getD (by omega), hga x x0, htk]
        by_cases hx : x = i
        · subst hx
          rw [if_pos rfl, if_pos rfl, if_pos (.inr (by simp))]
        · rw [if_neg (by omega), if_neg hx, hds x x0 x1]
          have : (x = 0 ∨ x ∈ os.take k) ↔ (x = 0 ∨ x ∈ os.take k ++ [i]) := by simp [hx]
          simp only [this]
      · have hj0 : 0 ≤ j := by
          rcases hj with rfl | hj
          · exact Int.le_refl _
          · have := (hord j (List.mem_of_mem_take hj)).1; omega
        rw [hga j hj0]
        by_cases hx : j = i
        · subst hx
          rw [if_pos rfl]; exact hGi
        · rw [if_neg hx]
          refine hsg j ?_
          rcases hj with hj | hj
          · exact .inl hj
          · rw [htk] at hj
            rcases List.mem_append.1 hj with hj | hj
            · exact .inr hj
            · exact absurd (by simpa using hj) hx
    have hk : k = os.length := by
      have : ¬ k < os.length := by simpa using hb
      omega
    subst hk
    rw [List.drop_length, ordL] at hro
    subst hro
    clear hb
    have hdi := ds_ins (ds := ds) (o := o) (by omega) fun x hx => by
      have := hds (x : Int) (by omega) (by omega)
      rw [Int.toNat_natCast, List.take_length, if_pos] at this
      · rw [this]; unfold ga; rw [Int.toNat_natCast]
      · rcases Nat.eq_zero_or_pos x with e | e
        · exact .inl (by omega)
        · exact .inr (hmem _ (by omega) (by omega))
    refine Tr.le (Le.unrows 1001 [.nil] ds rfl rfl) ?_
    simp only [go_sem, hP, hn]
    rw [hdi]
    refine Tr.le (Le.freeze 1001) ?_
    simp only [go_sem, hP, hn]
    (repeat (first | refine TS.imp ?_ | refine n9 (by decide) ?_))
    refine TR.imp ?_; intro K hK; simp only [go_sem, hP, hn]; (repeat refine vc ?_); refine hK _ ?_; clear K hK
    (repeat (first | refine TS.imp ?_ | refine n9 (by decide) ?_))
    simp only [RetG, go_sem]; (repeat with_reducible refine vc ?_)
end
theorem counted_c {T : World → Prop} (Tk : KT T) (wd lo hi out N : Int) (fk : Nat) (g : Nd → List Int → Int) (ns : List Nd) (os W R : List Int) (hns : ns.length ≤ 65536) (hin : ∀ n ∈ ns, n.inn.length ≤ 4096 ∧ n.ws.length ≤ 65536 ∧ n.bs.length ≤ 65536) (hok : lookG wd lo hi out ns = (0, os, W, R)) (hC : CO ns os)
    (hg : ∀ (n : Nd) (l : List Int), l.length ≤ 65536 → 1 ≤ n.rStp → Ct Go.Proofs.Tryz.prog T fk [.agg n.cs, .d (.row [.i .i64 0] (l.map intC))] true (fun r => r = .d (.i .i64 (g n l)))) :
    Cg Go.Proofs.Tryz.prog T 29 [] [.agg (gcs wd lo hi out (.d (rowN ns))), .d (.i .i64 N), .fn fk []] (fun r H => H = [] ∧ r = .d (.row [.i .i64 0] ((cntO ns os g N).map intC))) := by
  have cC := Check_c Tk wd lo hi out ns hns hin
  have cO := Order_c Tk wd lo hi out ns hns hin
  rw [hok] at cC cO
  have hol := hC.le
  refine Cg_of [] Tk.m Go.Proofs.Tryz.func29 rfl rfl Go.Proofs.Tryz.ntmps29 (by simp) rfl (rs := [.tmp 6]) rfl fun E hP hn hT hpn => ?_
  (repeat (first | refine TS.imp ?_ | refine n9 (by decide) ?_))
  refine TR.imp ?_; intro K hK; simp only [go_sem, hP, hn]; (repeat refine vc ?_); refine hK _ ?_; clear K hK
  (repeat (first | refine TS.imp ?_ | refine n9 (by decide) ?_))
  refine TR.imp ?_; intro K hK; simp only [go_sem, hP, hn]
  (repeat refine vc ?_)
  refine CallN_cs (Hi := [] ) (by rw [hP, hT]; exact  cC) rfl rfl rfl trivial (by simp only [go_sem, hP, hn]; try trivial) (by simp only [go_sem, hP, hn]; try rfl) (by simp only [inH, go_sem, hP, hn]; try simp) (by rw [hn]; decide) ?_; simp only [go_sem, hP, hn]; (repeat refine vc ?_)
  refine hK _ ?_; clear K hK
  (repeat (first | refine TS.imp ?_ | refine n9 (by decide) ?_))
  unfold cntO
  refine Tr.cond rfl (fun hb => ?_) (fun hb => ?_)
  · rw [if_pos (show many62 N = true by unfold many62; simpa using hb)]
    (repeat (first | refine TS.imp ?_ | refine n9 (by decide) ?_))
    refine TR.imp ?_; intro K hK; simp only [go_sem, hP, hn]; (repeat refine vc ?_); refine hK _ ?_; clear K hK
    refine Tr.le (Le.nilrow 6 [.i .i64 0] rfl) ?_
    (repeat (first | (refine TR.imp ?_; intro K hK; simp only [go_sem, hP, hn]; (repeat refine vc ?_); refine hK _ ?_; clear K hK) | refine TS.imp ?_ | refine n9 (by decide) ?_))
    simp only [RetG, go_sem]; (repeat with_reducible refine vc ?_)
  rw [if_neg (show ¬ many62 N = true by unfold many62; simpa using hb)]
  clear hb
  have g1 : wrap64 ((ns.length : Int) + 1) = ((ns.length + 1 : Nat) : Int) := by rw [w64 (by omega) (by omega)]; omega
  refine Tr.le (Le.keep [1, 2, 3]) ?_; simp only [List.map_cons, List.map_nil, lk, Nat.reduceEqDiff, reduceIte]
  (repeat (first | refine TS.imp ?_ | refine n9 (by decide) ?_))
  refine TR.imp ?_; intro K hK; simp only [g1, go_sem, hP, hn]; (repeat refine vc ?_); refine hK _ ?_; clear K hK
  (repeat (first | refine TS.imp ?_ | refine n9 (by decide) ?_))
  refine TR.imp ?_; intro K hK; simp only [go_sem, hP, hn]; (repeat refine vc ?_); refine hK _ ?_; clear K hK
  (repeat (first | refine TS.imp ?_ | refine n9 (by decide) ?_))
  refine TR.imp ?_; intro K hK; simp only [go_sem, hP, hn]
  (repeat refine vc ?_)
  refine CallN_cs (Hi := [] ) (by rw [hP, hT]; exact  cO) rfl rfl rfl trivial (by simp only [go_sem, hP, hn]; try trivial) (by simp only [go_sem, hP, hn]; try rfl) (by simp only [inH, go_sem, hP, hn]; try simp) (by rw [hn]; decide) ?_; simp only [go_sem, hP, hn]; (repeat refine vc ?_)
  refine hK _ ?_; clear K hK
  (repeat (first | refine TS.imp ?_ | refine n9 (by decide) ?_))
  refine Tr.le (Le.keep [2, 3, 7, 34, 35, 36]) ?_; simp only [List.map_cons, List.map_nil, lk, Nat.reduceEqDiff, reduceIte]
  rw [show (List.replicate (ns.length + 1) (0 : Int)).set 0 N = N :: List.replicate ns.length 0 by rw [List.replicate_succ]; rfl]
  generalize hf : cntF ns g = f
  generalize hV : ordL 0 f os (N :: List.replicate ns.length 0) = V
  refine Tr.loop (fun q s => ∃ (k : Int) (o : List Int), s = ⟨[(2, .fn fk []), (3, .ptr 3 0), (7, .own 29), (34, .d (.row [.i .i64 0] (os.map intC))), (35, .d (.i .i64 os.length)), (36, .d (.i .i64 k))], [(29, .row 3 [.i .i64 0] (o.map intC)), (3, .box 28 (gcs wd lo hi out (.d (rowN ns))))]⟩ ∧ 0 ≤ k ∧ k + q = os.length ∧ o.length = ns.length + 1 ∧ V = ordL 0 f (os.drop k.toNat) o) os.length ⟨_, (Le.mv (by simp only [go_sem, hP, hn]; first | done | (simp; done) | (simp [intC]; done) | (repeat (first | rfl | constructor))) (by simp only [go_sem, hP, hn]; first | done | (simp; done) | (simp [intC]; done) | (repeat (first | rfl | constructor)))), 0, N :: List.replicate ns.length 0, rfl, by omega, by omega, by simp, hV.symm⟩ ?_
  rintro q s ⟨k, o, rfl, k0, kq, hol2, hst⟩
  (repeat (first | refine TS.imp ?_ | refine n9 (by decide) ?_))
  refine TR.imp ?_; intro K hK; simp only [go_sem, hP, hn]; (repeat refine vc ?_); refine hK _ ?_; clear K hK
  (repeat (first | refine TS.imp ?_ | refine n9 (by decide) ?_))
  refine Tr.cond rfl (fun hb => ?_) (fun hb => ?_)
  · have hk : k < os.length := by simpa using hb
    clear hb
    obtain ⟨⟨hi1, hi2⟩, hj, hst1⟩ := hC.nd _ (rd_mem k0 hk)
    rw [drop_rd k0 hk, ordL] at hst
    generalize hii : rd os k = i at *
    have hnd := rw_nd ns (i - 1) (by omega) (by omega)
    have g2 : wrap64 (i - 1) = i - 1 := w64 (by omega) (by omega)
    have hini := hin _ (nd_mem (ns := ns) (i := i - 1) (by omega) (by omega))
    have hfi : f (ga 0 o) (ga 0 o i) i = g (nd ns (i - 1)) ((nd ns (i - 1)).inn.map (rd o)) := by rw [← hf]; rfl
    rw [hfi] at hst
    clear hfi
    have hgc := hg (nd ns (i - 1)) ((nd ns (i - 1)).inn.map (rd o)) (by rw [List.length_map]; omega) hst1
    generalize nd ns (i - 1) = n at *
    (repeat (first | refine TS.imp ?_ | refine n9 (by decide) ?_))
    refine TR.imp ?_; intro K hK; simp only [go_sem, hP, hn]
    rw [hii]
    (repeat refine vc ?_)
    refine hK _ ?_; clear K hK
    (repeat (first | refine TS.imp ?_ | refine n9 (by decide) ?_))
    refine TR.imp ?_; intro K hK; simp only [g2, go_sem, hP, hn]
    rw [hnd]
    simp only [go_sem, hP, hn]
    (repeat refine vc ?_)
    refine hK _ ?_; clear K hK
    refine Tr.le (Le.keep [2, 3, 7, 9, 10, 34, 35, 36]) ?_; simp only [List.map_cons, List.map_nil, lk, Nat.reduceEqDiff, reduceIte]
    (repeat (first | refine TS.imp ?_ | refine n9 (by decide) ?_))
    refine TR.imp ?_; intro K hK; simp only [go_sem, hP, hn]; (repeat refine vc ?_); refine hK _ ?_; clear K hK
    (repeat (first | refine TS.imp ?_ | refine n9 (by decide) ?_))
    refine TR.imp ?_; intro K hK; simp only [go_sem, hP, hn]; (repeat refine vc ?_); refine hK _ ?_; clear K hK
    (repeat (first | refine TS.imp ?_ | refine n9 (by decide) ?_))
    refine Tr.le (Le.keep [2, 3, 7, 9, 10, 11, 34, 35, 36, 51, 52, 53]) ?_; simp only [List.map_cons, List.map_nil, lk, Nat.reduceEqDiff, reduceIte]
    refine Tr.loop (fun p s => ∃ (j : Int) (I : List Int), s = ⟨[(2, .fn fk []), (3, .ptr 3 0), (7, .own 29), (9, .d (.i .i64 i)), (10, .ptr 10 0), (11, .own 49), (34, .d (.row [.i .i64 0] (os.map intC))), (35, .d (.i .i64 os.length)), (36, .d (.i .i64 k)), (51, .d (.row [.i .i64 0] (n.inn.map intC))), (52, .d (.i .i64 n.inn.length)), (53, .d (.i .i64 j))], [(49, .row 3 [.i .i64 0] (I.map intC)), (10, .box 50 n.cs), (29, .row 3 [.i .i64 0] (o.map intC)), (3, .box 28 (gcs wd lo hi out (.d (rowN ns))))]⟩ ∧ 0 ≤ j ∧ j + p = n.inn.length ∧ I.length = n.inn.length ∧ I.take j.toNat = (n.inn.map (rd o)).take j.toNat) n.inn.length ⟨_, (Le.mv (by simp only [go_sem, hP, hn]; first | done | (simp; done) | (simp [intC]; done) | (repeat (first | rfl | constructor))) (by simp only [go_sem, hP, hn]; first | done | (simp; done) | (simp [intC]; done) | (repeat (first | rfl | constructor)))), 0, List.replicate n.inn.length 0, rfl, by omega, by omega, by simp, by simp⟩ ?_
    rintro p s ⟨j, I, rfl, j0, jp, hI, hIt⟩
    (repeat (first | refine TS.imp ?_ | refine n9 (by decide) ?_))
    refine TR.imp ?_; intro K hK; simp only [go_sem, hP, hn]; (repeat refine vc ?_); refine hK _ ?_; clear K hK
    (repeat (first | refine TS.imp ?_ | refine n9 (by decide) ?_))
    refine Tr.cond rfl (fun hb => ?_) (fun hb => ?_)
    · have hjl : j < n.inn.length := by simpa using hb
      clear hb
      have hjo := hj _ (rd_mem j0 hjl)
      (repeat (first | refine TS.imp ?_ | refine n9 (by decide) ?_))
      refine TR.imp ?_; intro K hK; simp only [go_sem, hP, hn]; (repeat refine vc ?_); refine hK _ ?_; clear K hK
      (repeat (first | refine TS.imp ?_ | refine n9 (by decide) ?_))
      refine TR.imp ?_; intro K hK; simp only [go_sem, hP, hn]; (repeat refine vc ?_); refine hK _ ?_; clear K hK
      (repeat (first | refine TS.imp ?_ | refine n9 (by decide) ?_))
      refine TR.imp ?_; intro K hK; simp only [go_sem, hP, hn]; (repeat refine vc ?_); refine hK _ ?_; clear K hK
      (repeat (first | refine TS.imp ?_ | refine n9 (by decide) ?_))
      rw [w64 (x := j + 1) (by omega) (by omega)]
      refine ⟨p - 1, _, by omega, ?_, j + 1, I.set j.toNat (rd o (rd n.inn j)), rfl, by omega, by omega, by simpa using hI, ?_⟩
      · exact (Le.mv (by simp only [go_sem, hP, hn]; first | done | (simp; done) | (simp [intC]; done) | (repeat (first | rfl | constructor))) (by simp only [go_sem, hP, hn]; first | done | (simp; done) | (simp [intC]; done) | (repeat (first | rfl | constructor))))
      · have hk1 : j.toNat < I.length := by omega
        have hk2 : j.toNat < n.inn.length := by omega
        rw [show (j + 1).toNat = j.toNat + 1 by omega, List.take_succ_eq_append_getElem (by simpa using hk1), List.take_succ_eq_append_getElem (by simpa using hk2), List.take_set_of_le (Nat.le_refl _), hIt]
        simp [rd, List.getD, hk2]
    · have hjl : j = n.inn.length := by have := of_decide_eq_false hb; omega
      clear hb
      have hII : I = n.inn.map (rd o) := by
        rw [hjl, Int.toNat_natCast, List.take_of_length_le (by omega), List.take_of_length_le (by simp)] at hIt
        exact hIt
      subst hII
      clear hI hIt j0 jp hjl
      refine Tr.le (Le.freeze 49) ?_
      simp only [go_sem, hP, hn]
      refine Tr.le (Le.keep [2, 3, 7, 9, 10, 11, 34, 35, 36]) ?_; simp only [List.map_cons, List.map_nil, lk, Nat.reduceEqDiff, reduceIte]
      (repeat (first | refine TS.imp ?_ | refine n9 (by decide) ?_))
      refine TR.imp ?_; intro K hK; simp only [go_sem, hP, hn]
      (repeat refine vc ?_)
      refine c1 (by rw [hP, hT]; exact hgc) rfl rfl rfl trivial (by simp only [go_sem, hP, hn]; try trivial) (by simp only [go_sem, hP, hn]; try rfl) (by rw [hn]; decide) (by rfl) ?_; simp only [go_sem, hP, hn]; (repeat refine vc ?_)
      refine hK _ ?_; clear K hK
      (repeat (first | refine TS.imp ?_ | refine n9 (by decide) ?_))
      refine TR.imp ?_; intro K hK; simp only [go_sem, hP, hn]; (repeat refine vc ?_); refine hK _ ?_; clear K hK
      (repeat (first | refine TS.imp ?_ | refine n9 (by decide) ?_))
      rw [w64 (x := k + 1) (by omega) (by omega)]
      refine ⟨q - 1, _, by omega, ?_, k + 1, _, rfl, by omega, by omega, by simpa using hol2, hst⟩
      exact (Le.mv (by simp only [go_sem, hP, hn]; first | done | (simp; done) | (simp [intC]; done) | (repeat (first | rfl | constructor))) (by simp only [go_sem, hP, hn]; first | done | (simp; done) | (simp [intC]; done) | (repeat (first | rfl | constructor))))
  · rw [drop_end (by simpa using hb)] at hst
    simp only [ordL] at hst
    subst hst
    refine Tr.le (Le.keep [7]) ?_; simp only [List.map_cons, List.map_nil, lk, Nat.reduceEqDiff, reduceIte]
    refine Tr.le (Le.freeze 29) ?_
    simp only [go_sem, hP, hn]
    (repeat (first | (refine TR.imp ?_; intro K hK; simp only [go_sem, hP, hn]; (repeat refine vc ?_); refine hK _ ?_; clear K hK) | refine TS.imp ?_ | refine n9 (by decide) ?_))
    simp only [RetG, go_sem]; (repeat with_reducible refine vc ?_)
section
attribute [local go_sem] frD insD rtup
section
variable {T : World → Prop} {wd lo hi out : Int} {ns : List Nd} {W R : Int → Int} {rk : Int → Nat} {W2 R2 : List Int} (h : GF wd lo hi out ns W R rk W2 R2)
include h
theorem GF.cntO_ready (N : Int) : cntO ns (order ns) Nd.ready N = cntO ns (order ns) Nd.rReady N := by
  have e : cntL ns Nd.ready N = cntL ns Nd.rReady N := h.cntL_ready N
  unfold cntL at e
  unfold cntO
  rw [e]
end
theorem Readies_w {T : World → Prop} (Tk : KT T) {wd lo hi out : Int} {ns : List Nd} {W R : Int → Int} {rk : Int → Nat} {W2 R2 : List Int} (h : GF wd lo hi out ns W R rk W2 R2) (N : Int) :
    Cg Go.Proofs.Tryz.prog T 19 [] [.agg (gcs wd lo hi out (.d (rowN ns))), .d (.i .i64 N)] (fun r H => H = [] ∧ r = .d (.row [.i .i64 0] ((cntO ns (order ns) Nd.rReady N).map intC))) := by
  have hn0 := h.n0
  have cC := counted_c Tk wd lo hi out N 32 Nd.ready ns _ _ _ (by omega) h.inn h.look h.co (fun n l hl hst => kReady_k Tk n l hl (fun _ => by rw [stp_eqW]; exact hst))
  rw [h.cntO_ready] at cC
  refine Cg_of [] Tk.m Go.Proofs.Tryz.func19 rfl rfl Go.Proofs.Tryz.ntmps19 (by simp) rfl (rs := [.tmp 4]) rfl fun E hP hn hT hpn => ?_
  (repeat (first | refine TS.imp ?_ | refine n9 (by decide) ?_))
  refine TR.imp ?_; intro K hK; simp only [go_sem, hP, hn]; (repeat refine vc ?_); refine hK _ ?_; clear K hK
  (repeat (first | refine TS.imp ?_ | refine n9 (by decide) ?_))
  refine TR.imp ?_; intro K hK; simp only [go_sem, hP, hn]
  (repeat refine vc ?_)
  refine CallN_cs (Hi := [] ) (by rw [hP, hT]; exact  cC) rfl rfl rfl trivial (by simp only [go_sem, hP, hn]; try trivial) (by simp only [go_sem, hP, hn]; try rfl) (by simp only [inH, go_sem, hP, hn]; try simp) (by rw [hn]; decide) ?_; simp only [go_sem, hP, hn]; (repeat refine vc ?_)
  refine hK _ ?_; clear K hK
  (repeat (first | refine TS.imp ?_ | refine n9 (by decide) ?_))
  simp only [RetG, go_sem]; (repeat with_reducible refine vc ?_)
theorem inF_g7 (o : List (List (List Int))) (i : Int) : inF o i = ga [] o i := rfl
/-- a made graph's frames: all of a node, and those that are ready -/
def outL (ns : List Nd) (W : List Int) (out : Int) (fs : List (List Int)) : List (List Int) := inF (strL ns W fs) out
def rdyN (ns : List Nd) (out many : Int) : Int := rd (cntL ns Nd.rReady many) out
theorem Eval_w {T : World → Prop} (Tk : KT T) {wd lo hi out : Int} {ns : List Nd} {W R : Int → Int} {rk : Int → Nat} {W2 R2 : List Int} (h : GF wd lo hi out ns W R rk W2 R2) {many : Int} {fs : List (List Int)} (hfs : Fin18 wd lo hi many fs) (hm : 0 ≤ many ∧ many ≤ 1000) :
    Cg Go.Proofs.Tryz.prog T 11 [] [.agg (gcs wd lo hi out (.d (rowN ns))), .d (frD fs)] (fun r H => H = [] ∧ r = .tup [.d (frD (outL ns W2 out fs)), .d (.i .i64 0)]) := by
  have cS := Streams_w Tk h hfs hm
  have hrg := may_rng h.may
  have hsl := strL_len ns W2 fs
  have hri := rw_ins (strL ns W2 fs) out (by omega) (by omega)
  have o1 : 0 ≤ out ∧ out < (strL ns W2 fs).length := by omega
  have o2 : out.toNat < (strL ns W2 fs).length := by omega
  unfold outL
  refine Cg_of [] Tk.m Go.Proofs.Tryz.func11 rfl rfl Go.Proofs.Tryz.ntmps11 (by simp) rfl (rs := [.tmp 4, .tmp 5]) rfl fun E hP hn hT hpn => ?_
  (repeat (first | refine TS.imp ?_ | refine n9 (by decide) ?_))
  refine TR.imp ?_; intro K hK; simp only [go_sem, hP, hn]; (repeat refine vc ?_); refine hK _ ?_; clear K hK
  (repeat (first | refine TS.imp ?_ | refine n9 (by decide) ?_))
  refine TR.imp ?_; intro K hK; simp only [go_sem, hP, hn]
  (repeat refine vc ?_)
  refine CallN_cs (Hi := [] ) (by rw [hP, hT]; exact  cS) rfl rfl rfl trivial (by simp only [go_sem, hP, hn]; try trivial) (by simp only [go_sem, hP, hn]; try rfl) (by simp only [inH, go_sem, hP, hn]; try simp) (by rw [hn]; decide) ?_; simp only [go_sem, hP, hn]; (repeat refine vc ?_)
  refine hK _ ?_; clear K hK
  (repeat (first | refine TS.imp ?_ | refine n9 (by decide) ?_))
  refine TR.imp ?_; intro K hK; simp only [go_sem, hP, hn]; (repeat refine vc ?_); refine hK _ ?_; clear K hK
  (repeat (first | refine TS.imp ?_ | refine n9 (by decide) ?_))
  refine Tr.cond rfl (fun hb => ?_) (fun hb => ?_)
  · cases hb
  clear hb
  (repeat (first | refine TS.imp ?_ | refine n9 (by decide) ?_))
  refine TR.imp ?_; intro K hK; simp only [hri, go_sem, hP, hn]
  (repeat refine vc ?_)
  refine hK _ ?_; clear K hK
  (repeat (first | refine TS.imp ?_ | refine n9 (by decide) ?_))
  simp only [RetG, go_sem]; (repeat with_reducible refine vc ?_)
theorem Ready_w {T : World → Prop} (Tk : KT T) {wd lo hi out : Int} {ns : List Nd} {W R : Int → Int} {rk : Int → Nat} {W2 R2 : List Int} (h : GF wd lo hi out ns W R rk W2 R2) {many : Int} {fs : List (List Int)} (hfs : Fin18 wd lo hi many fs) (hm : 0 ≤ many ∧ many ≤ 1000) :
    Cg Go.Proofs.Tryz.prog T 12 [] [.agg (gcs wd lo hi out (.d (rowN ns))), .d (frD fs)] (fun r H => H = [] ∧ r = .tup [.d (frD ((outL ns W2 out fs).take (rdyN ns out many).toNat)), .d (.i .i64 0)]) := by
  have cE := Eval_w Tk h hfs hm
  have hrg := may_rng h.may
  have cR := Readies_w Tk h many
  have hl0 := hfs.len
  rw [show cntO ns (order ns) Nd.rReady many = cntL ns Nd.rReady many from if_neg (by unfold many62; simp; omega)] at cR
  have hl := h.lens hfs hm 12 out (by omega) (by omega) (h.rank out (by omega) (by omega))
  have hcl : (cntL ns Nd.rReady many).length = ns.length + 1 := by unfold cntL; rw [ordL_len]; simp
  have o1 : 0 ≤ out ∧ out < (cntL ns Nd.rReady many).length := by omega
  have hr1 : 0 ≤ rdyN ns out many ∧ rdyN ns out many ≤ (outL ns W2 out fs).length := by
    unfold rdyN outL
    rw [inF_g7]
    omega
  have hrd : rd (cntL ns Nd.rReady many) out = rdyN ns out many := rfl
  generalize outL ns W2 out fs = L at *
  generalize rdyN ns out many = c at *
  generalize cntL ns Nd.rReady many = CL at *
  refine Cg_of [] Tk.m Go.Proofs.Tryz.func12 rfl rfl Go.Proofs.Tryz.ntmps12 (by simp) rfl (rs := [.tmp 4, .tmp 5]) rfl fun E hP hn hT hpn => ?_
  (repeat (first | refine TS.imp ?_ | refine n9 (by decide) ?_))
  refine TR.imp ?_; intro K hK; simp only [go_sem, hP, hn]; (repeat refine vc ?_); refine hK _ ?_; clear K hK
  (repeat (first | refine TS.imp ?_ | refine n9 (by decide) ?_))
  refine TR.imp ?_; intro K hK; simp only [go_sem, hP, hn]
  (repeat refine vc ?_)
  refine CallN_cs (Hi := [] ) (by rw [hP, hT]; exact  cE) rfl rfl rfl trivial (by simp only [go_sem, hP, hn]; try trivial) (by simp only [go_sem, hP, hn]; try rfl) (by simp only [inH, go_sem, hP, hn]; try simp) (by rw [hn]; decide) ?_; simp only [go_sem, hP, hn]; (repeat refine vc ?_)
  refine hK _ ?_; clear K hK
  (repeat (first | refine TS.imp ?_ | refine n9 (by decide) ?_))
  refine TR.imp ?_; intro K hK; simp only [go_sem, hP, hn]; (repeat refine vc ?_); refine hK _ ?_; clear K hK
  (repeat (first | refine TS.imp ?_ | refine n9 (by decide) ?_))
  refine Tr.cond rfl (fun hb => ?_) (fun hb => ?_)
  · cases hb
  clear hb
  refine Tr.le (Le.keep [1, 2, 6]) ?_; simp only [List.map_cons, List.map_nil, lk, Nat.reduceEqDiff, reduceIte]
  (repeat (first | refine TS.imp ?_ | refine n9 (by decide) ?_))
  refine d5 (.p true 0 (.p true 1 (.p true 2 (.p true 3 (.p true 5 (.p true 6 (.alt 4 (.p false 7 (.alt 8 (.p false 9 (.p false 10 (.p true 11 .nil))) .nil)) .nil))))))) [] (by rw [hP]; kernel_rfl) (by kernel_rfl) (by simp only [go_sem, hP, hn]; try simp) (by exact fun _ _ h => h) ?_; intro K hK; simp only [go_sem, hP, hn]
  have hr2 : 0 ≤ rd CL out ∧ rd CL out ≤ L.length := by rw [hrd]; exact hr1
  have hr3 : (rd CL out).toNat ≤ L.length := by omega
  rw [← hl0] at cR
  (repeat refine vc ?_)
  refine CallP_cs (by rw [hP, hT]; exact cR) rfl rfl rfl trivial (by simp only [go_sem, hP, hn]; try trivial) (by simp only [go_sem, hP, hn]; try rfl) (by rw [hn]; decide) ?_; simp only [go_sem, hP, hn]; (repeat refine vc ?_)
  refine hK _ ?_; clear K hK
  (repeat (first | refine TS.imp ?_ | refine n9 (by decide) ?_))
  simp only [RetG, go_sem]; (repeat with_reducible refine vc ?_)
  rw [hrd, List.map_take]
end
section
attribute [local go_sem] frD insD rtup
/-! the chapter's example -/
def nM18 : Nd := ⟨4, [0], 0, 3, 1, 1, 1, 1, [], [], 0, 0, 0, 0, 0⟩
theorem nM18_ng : NodeG 1 nM18 (fun _ => 1) (fun _ => 1) Int.toNat 1 := ⟨by decide, by decide, fun j hj => by
    have : j = 0 := by simpa [nM18] using hj
    subst this; decide, by decide +kernel, by decide +kernel, by decide +kernel, fun _ _ _ _ => rfl, fun _ _ e => absurd e (by decide), by decide, by decide, by decide +kernel, by decide +kernel, by decide +kernel, by decide +kernel, rfl⟩
theorem nM18_gg : GG 1 [nM18] (fun _ => 1) (fun _ => 1) Int.toNat := ⟨rfl, rfl, rfl, fun i i1 i2 => by
  have : i = 1 := by simp at i2; omega
  subst this
  exact ⟨nM18_ng, by decide⟩⟩
theorem aw18_look : lookG 1 0 9 1 [nM18] = (0, order [nM18], [1, 1], [1, 1]) := by decide +kernel
theorem aw18_gf : GF 1 0 9 1 [nM18] (fun _ => 1) (fun _ => 1) Int.toNat [1, 1] [1, 1] := ⟨nM18_gg, by decide, aw18_look, rfl, rfl, fun x h0 h1 => by
  have : x = 0 ∨ x = 1 := by simp at h1; omega
  rcases this with rfl | rfl <;> exact ⟨rfl, rfl⟩, by decide⟩
def fs18 : List (List Int) := [[3], [6], [9]]
theorem fs18_fin : Fin18 1 0 9 3 fs18 := ⟨rfl, by decide, by decide⟩
theorem out18 : outL [nM18] [1, 1] 1 fs18 = [[3], [6], [5]] := by decide +kernel
theorem rdy18 : rdyN [nM18] 1 3 = 2 := by decide +kernel
end
section
attribute [local go_sem] frD insD nM18 fs18
theorem awake18_c {T : World → Prop} (Tk : KT T) : Cg Go.Proofs.Tryz.prog T 6 [] [] (fun r H => H = [] ∧ r = .d (.b true)) := by
  have cE := Eval_w Tk aw18_gf fs18_fin (by decide)
  have cR := Ready_w Tk aw18_gf fs18_fin (by decide)
  rw [out18] at cE cR
  rw [rdy18, show ([[3], [6], [5]] : List (List Int)).take (2 : Int).toNat = [[3], [6]] from rfl] at cR
  refine Cg_of [] Tk.m Go.Proofs.Tryz.func6 rfl rfl Go.Proofs.Tryz.ntmps6 (by simp) rfl (rs := [.tmp 0]) rfl fun E hP hn hT hpn => ?_
  (repeat (first | refine TS.imp ?_ | refine n9 (by decide) ?_))
  refine TR.imp ?_; intro K hK; simp only [go_sem, hP, hn]; (repeat refine vc ?_); refine hK _ ?_; clear K hK
  (repeat (first | refine TS.imp ?_ | refine n9 (by decide) ?_))
  refine TR.imp ?_; intro K hK; simp only [go_sem, hP, hn]; (repeat refine vc ?_); refine hK _ ?_; clear K hK
  refine Tr.le (Le.keep [1]) ?_; simp only [List.map_cons, List.map_nil, lk, Nat.reduceEqDiff, reduceIte]
  refine Tr.le (Le.wrow 10 ([nM18].map Nd.ds) rfl ⟨by simp [Aw.wd, Nd.ds, nM18, intC], trivial⟩) ?_
  simp only [go_sem, hP, hn]
  refine Tr.le (Le.freeze 10) ?_
  simp only [go_sem, hP, hn]
  (repeat (first | refine TS.imp ?_ | refine n9 (by decide) ?_))
  refine TR.imp ?_; intro K hK; simp only [go_sem, hP, hn]
  (repeat refine vc ?_)
  refine CallN_frz 17 ?_; simp only [go_sem, hP, hn]
  refine CallN_cs (Hi := [] ) (by rw [hP, hT]; exact  cE) rfl rfl rfl trivial (by simp only [go_sem, hP, hn]; try trivial) (by simp only [go_sem, hP, hn]; try rfl) (by simp only [inH, go_sem, hP, hn]; try simp) (by rw [hn]; decide) ?_; simp only [go_sem, hP, hn]; (repeat refine vc ?_)
  refine hK _ ?_; clear K hK
  refine Tr.le (Le.keep [1, 2, 3]) ?_; simp only [List.map_cons, List.map_nil, lk, Nat.reduceEqDiff, reduceIte]
  (repeat (first | refine TS.imp ?_ | refine n9 (by decide) ?_))
  refine TR.imp ?_; intro K hK; simp only [go_sem, hP, hn]
  (repeat refine vc ?_)
  refine CallN_frz 26 ?_; simp only [go_sem, hP, hn]
  refine CallN_cs (Hi := [] ) (by rw [hP, hT]; exact  cR) rfl rfl rfl trivial (by simp only [go_sem, hP, hn]; try trivial) (by simp only [go_sem, hP, hn]; try rfl) (by simp only [inH, go_sem, hP, hn]; try simp) (by rw [hn]; decide) ?_; simp only [go_sem, hP, hn]; (repeat refine vc ?_)
  refine hK _ ?_; clear K hK
  refine Tr.le (Le.keep [2, 3, 4, 5]) ?_; simp only [List.map_cons, List.map_nil, lk, Nat.reduceEqDiff, reduceIte]
  (repeat (first | refine TS.imp ?_ | refine n9 (by decide) ?_))
  refine TR.imp ?_; intro K hK; simp only [go_sem, hP, hn]
  (repeat refine vc ?_)
  refine CallN_frz 34 ?_; simp only [go_sem, hP, hn]
  refine c1 (by rw [hP, hT]; exact Same18_c Tk.m [[3], [6], [5]] [[3], [6], [5]] (by decide) (by decide)) rfl rfl rfl trivial (by simp only [go_sem, hP, hn]; try trivial) (by simp only [go_sem, hP, hn]; try rfl) (by rw [hn]; decide) (by rfl) ?_; simp only [go_sem, hP, hn]; (repeat refine vc ?_)
  refine hK _ ?_; clear K hK
  refine Tr.le (Le.keep [3, 4, 5, 6]) ?_; simp only [List.map_cons, List.map_nil, lk, Nat.reduceEqDiff, reduceIte]
  (repeat (first | refine TS.imp ?_ | refine n9 (by decide) ?_))
  refine TR.imp ?_; intro K hK; simp only [go_sem, hP, hn]
  (repeat refine vc ?_)
  refine CallN_frz 39 ?_; simp only [go_sem, hP, hn]
  refine c1 (by rw [hP, hT]; exact Same18_c Tk.m [[3], [6]] [[3], [6]] (by decide) (by decide)) rfl rfl rfl trivial (by simp only [go_sem, hP, hn]; try trivial) (by simp only [go_sem, hP, hn]; try rfl) (by rw [hn]; decide) (by rfl) ?_; simp only [go_sem, hP, hn]; (repeat refine vc ?_)
  refine hK _ ?_; clear K hK
  refine Tr.le (Le.keep [3, 5, 6, 7]) ?_; simp only [List.map_cons, List.map_nil, lk, Nat.reduceEqDiff, reduceIte]
  (repeat (first | (refine TR.imp ?_; intro K hK; simp only [go_sem, hP, hn]; (repeat refine vc ?_); refine hK _ ?_; clear K hK) | refine TS.imp ?_ | refine n9 (by decide) ?_))
  simp only [RetG, go_sem]; (repeat with_reducible refine vc ?_)
  all_goals simp
end
section
attribute [local go_sem] PMade frD
/-- a call in a drawn region whose answer is told by what it has -/
theorem CallP_rx {E : Env} {ops : List Oper} {o : Oper} {s sr : St} {nw wr : List Nat} {AP' : St → St → List Nat → Prop} {fx : Operand} {args : Array Operand} {ts : Array TypeId} {f : Nat} {caps xs : List S} {d : Nat} {Q0 : S → Prop}
    (C : Cg E.P E.T f [] xs (fun r H => H = [] ∧ Q0 r)) (ho : o.op = .call { callee := .value fx, args := args, argTypes := ts }) (hd : o.dst = some d) (hf : stp (ev s fx) = .fn f caps) (c1 : stc (ev s fx)) (c2 : stcL s args.toList)
    (hxs : stpL s args.toList ++ caps = xs) (hdn : d < E.n) (hr : ∀ r, Q0 r → AP' ⟨(d, r) :: s.t, s.h⟩ ⟨(d, .any) :: sr.t, sr.h⟩ nw) : CallP E ops wr o none s sr nw AP' := by
  intro Q Kc a w η h _ hg hK
  rw [if_pos (by simp [Region.wanted, hg rfl])]
  obtain ⟨vs, h1, h2⟩ := call_run h ho hf c1 c2 C.1
  unfold Oper.wp
  rw [h1]
  show Calls E.P f vs.toArray w _
  refine (C.2 (Fr E s.h η) w η vs h.hT (In.of h (show inH s.h [] from trivial)) (hxs ▸ h2)).mono ?_
  rintro e w' ⟨r, v, Ho, η', rfl, ⟨rfl, hq⟩, hv, hO⟩
  have hη : η' = η := funext fun k => hO.eta k rfl
  subst hη
  obtain ⟨hR, hG, hS⟩ := hO.rel h (show inH s.h [] from trivial) fun k' hk' => by rw [newK_same] at hk'; cases hk'
  have hi : inH s.h [] := trivial
  have hR2 : Rel E s a w' η' := by
    have := hR.ext (h' := s.h) fun k => (cgS_same hi k).symm
    rw [show (cgS s [] []).t = s.t by show killT (newK [] []) s.t = s.t; rw [newK_same, killT_none]] at this
    exact this
  have hF : Sub (Fr E (cgS s [] []).h η') w' (Fr E s.h η') w' := fun b o hb ho => ⟨⟨hb.1, fun k o' hk => hb.2 k o' (by rw [cgS_same hi k]; exact hk)⟩, ho⟩
  refine hK d ⟨(d, r) :: s.t, s.h⟩ v w' η' [] hd (by simp [subL]) (by rw [hd]; exact hR2.put hdn (RS.mono hF _ _ (RS.mono hG _ _ hv))) ⟨hS.trans hF, fun j _ => rfl, fun j b e _ => (by cases e), hO.bel.size, fun b o2 hb hn => ?_⟩ (hr r hq)
  rw [hO.bel.block b (Array.getElem?_eq_some_iff.1 hb).1 fun ⟨k', o', h3, h4⟩ => by cases h3]
  exact hb
theorem many25 (m : Int) : 0 ≤ Int.tmod (wrap64 (Int.tmod m 25 + 25)) 25 ∧ Int.tmod (wrap64 (Int.tmod m 25 + 25)) 25 ≤ 24 := by
  have h2 := Int.lt_tmod_of_pos m (show (0 : Int) < 25 by decide)
  have h3 := Int.tmod_lt_of_pos m (show (0 : Int) < 25 by decide)
  rw [w64 (x := Int.tmod m 25 + 25) (by omega) (by omega)]
  have h4 := Int.tmod_nonneg (25 : Int) (show 0 ≤ Int.tmod m 25 + 25 by omega)
  have h5 := Int.tmod_lt_of_pos (Int.tmod m 25 + 25) (show (0 : Int) < 25 by decide)
  omega
/-- a made graph, and frames of its input -/
def PQ18 (r : S) (H : Hp) : Prop := ∃ wd lo hi out ns many fs, r = .tup [.agg (gcs wd lo hi out (.d (rowN ns))), .d (frD fs)] ∧ H = [] ∧ GM wd lo hi out ns ∧ Fin18 wd lo hi many fs ∧ 0 ≤ many ∧ many ≤ 24
theorem made18_c {T : World → Prop} (Tm : TP T) (l xs : List Int) (m : Int) : Cg Go.Proofs.Tryz.prog T 7 [] [.agg [.d (.row [.i .i64 0] (l.map intC)), .d (.row [.i .i64 0] (xs.map intC)), .d (.i .i64 m)]] PQ18 := by
  refine Cg_of [] Tm Go.Proofs.Tryz.func7 rfl rfl Go.Proofs.Tryz.ntmps7 (by simp) rfl (rs := [.cell 2 28, .tmp 3]) rfl fun E hP hn hT hpn => ?_
  (repeat (first | refine TS.imp ?_ | refine n9 (by decide) ?_))
  refine TR.imp ?_; intro K hK; simp only [go_sem, hP, hn]; (repeat refine vc ?_); refine hK _ ?_; clear K hK
  (repeat (first | refine TS.imp ?_ | refine n9 (by decide) ?_))
  refine TR.imp ?_; intro K hK; simp only [go_sem, hP, hn]
  (repeat refine vc ?_)
  refine CallN_cx (Hi := []) (by rw [hP, hT]; exact Made16_c Tm l ) rfl rfl rfl trivial (by simp only [go_sem, hP, hn]; try trivial) (by simp only [go_sem, hP, hn]; try rfl) trivial (by rw [hn]; decide) (fun r Ho hr => ?_); obtain  ⟨wd, lo, hi, out, ns, rfl, rfl, hG⟩ := hr; refine ⟨fun k _ => hpn k rfl, ?_⟩; simp only [cgS, newK, touK, go_sem, hP, hn]; (repeat refine vc ?_)
  refine hK _ ?_; clear K hK
  refine Tr.le (Le.freeze 2000) ?_
  simp only [go_sem, hP, hn]
  obtain ⟨W, R, rk, W2, R2, hF⟩ := hG.gf
  have hwd := hG.wd0
  have hlo := hG.lo0
  have hhi := hG.hi0
  have hmm := many25 m
  (repeat (first | refine TS.imp ?_ | refine n9 (by decide) ?_))
  refine d5 (.p true 0 (.p true 1 (.p true 2 (.p true 3 (.p true 4 (.p true 5 (.p true 6 (.p true 7 (.p true 8 (.alt 9 (.alt 10 (.p false 11 .nil) .nil) .nil)))))))))) [2] (by rw [hP]; kernel_rfl) (by kernel_rfl) (by simp only [go_sem, hP, hn]; try simp) (by exact fun _ _ h => h) ?_; intro K hK; simp only [go_sem, hP, hn]
  generalize Int.tmod (wrap64 (Int.tmod m 25 + 25)) 25 = many at *
  (repeat refine vc ?_)
  refine CallP_rx (by rw [hP, hT]; exact Made18_c Tm wd lo hi out many ns xs ⟨by omega, by omega⟩ (by omega) ⟨by omega, by omega⟩ ⟨by omega, by omega⟩) rfl rfl rfl trivial (by simp only [go_sem, hP, hn]; try trivial) (by simp only [go_sem, hP, hn]; try rfl) (by rw [hn]; decide) (fun r hr => ?_)
  obtain ⟨fs, hfs, rfl⟩ := hr
  simp only [go_sem, hP, hn]
  (repeat refine vc ?_)
  refine hK _ ?_; clear K hK
  (repeat (first | refine TS.imp ?_ | refine n9 (by decide) ?_))
  simp only [RetG, go_sem]; (repeat with_reducible refine vc ?_)
  exact ⟨wd, lo, hi, out, ns, many, fs, rfl, rfl, hG, hfs, hmm.1, hmm.2⟩
end
section
attribute [local go_sem] frD insD rtup
theorem Eval18_c {T : World → Prop} (Tm : TP T) {wd lo hi out : Int} {ns : List Nd} {W R : Int → Int} {rk : Int → Nat} {W2 R2 : List Int} (h : GF wd lo hi out ns W R rk W2 R2) {many : Int} {fs : List (List Int)} (hfs : Fin18 wd lo hi many fs) (hm : 0 ≤ many ∧ many ≤ 1000) :
    Cg Go.Proofs.Tryz.prog T 13 [] [.agg (gcs wd lo hi out (.d (rowN ns))), .d (frD fs)] (fun r H => H = [] ∧ r = .d (frD (outL ns W2 out fs))) := by
  have cS := Streams_g Tm h hfs hm
  have hrg := may_rng h.may
  have hsl := strL_len ns W2 fs
  have hri := rw_ins (strL ns W2 fs) out (by omega) (by omega)
  have o1 : 0 ≤ out ∧ out < (strL ns W2 fs).length := by omega
  have o2 : out.toNat < (strL ns W2 fs).length := by omega
  unfold outL
  refine Cg_of [] Tm Go.Proofs.Tryz.func13 rfl rfl Go.Proofs.Tryz.ntmps13 (by simp) rfl (rs := [.tmp 4]) rfl fun E hP hn hT hpn => ?_
  (repeat (first | refine TS.imp ?_ | refine n9 (by decide) ?_))
  refine TR.imp ?_; intro K hK; simp only [go_sem, hP, hn]; (repeat refine vc ?_); refine hK _ ?_; clear K hK
  (repeat (first | refine TS.imp ?_ | refine n9 (by decide) ?_))
  refine TR.imp ?_; intro K hK; simp only [go_sem, hP, hn]
  (repeat refine vc ?_)
  refine CallN_cs (Hi := [] ) (by rw [hP, hT]; exact  cS) rfl rfl rfl trivial (by simp only [go_sem, hP, hn]; try trivial) (by simp only [go_sem, hP, hn]; try rfl) (by simp only [inH, go_sem, hP, hn]; try simp) (by rw [hn]; decide) ?_; simp only [go_sem, hP, hn]; (repeat refine vc ?_)
  refine hK _ ?_; clear K hK
  (repeat (first | refine TS.imp ?_ | refine n9 (by decide) ?_))
  refine TR.imp ?_; intro K hK; simp only [go_sem, hP, hn]; (repeat refine vc ?_); refine hK _ ?_; clear K hK
  (repeat (first | refine TS.imp ?_ | refine n9 (by decide) ?_))
  refine Tr.cond rfl (fun hb => ?_) (fun hb => ?_)
  · cases hb
  clear hb
  (repeat (first | refine TS.imp ?_ | refine n9 (by decide) ?_))
  refine TR.imp ?_; intro K hK; simp only [hri, go_sem, hP, hn]
  (repeat refine vc ?_)
  refine hK _ ?_; clear K hK
  (repeat (first | refine TS.imp ?_ | refine n9 (by decide) ?_))
  simp only [RetG, go_sem]; (repeat with_reducible refine vc ?_)
theorem Ready18_c {T : World → Prop} (Tm : TP T) {wd lo hi out : Int} {ns : List Nd} {W R : Int → Int} {rk : Int → Nat} {W2 R2 : List Int} (h : GF wd lo hi out ns W R rk W2 R2) {many : Int} {fs : List (List Int)} (hfs : Fin18 wd lo hi many fs) (hm : 0 ≤ many ∧ many ≤ 1000) :
    Cg Go.Proofs.Tryz.prog T 14 [] [.agg (gcs wd lo hi out (.d (rowN ns))), .d (frD fs)] (fun r H => H = [] ∧ r = .d (frD ((outL ns W2 out fs).take (rdyN ns out many).toNat))) := by
  have cE := Eval18_c Tm h hfs hm
  have hrg := may_rng h.may
  have hn0 := h.n0
  have cR := Readies18_c Tm wd lo hi out many ns _ _ _ (by omega) h.inn h.look h.co
  have hl0 := hfs.len
  rw [show cntO ns (order ns) Nd.rReady many = cntL ns Nd.rReady many from if_neg (by unfold many62; simp; omega)] at cR
  have hl := h.lens hfs hm 12 out (by omega) (by omega) (h.rank out (by omega) (by omega))
  have hcl : (cntL ns Nd.rReady many).length = ns.length + 1 := by unfold cntL; rw [ordL_len]; simp
  have o1 : 0 ≤ out ∧ out < (cntL ns Nd.rReady many).length := by omega
  have hr1 : 0 ≤ rdyN ns out many ∧ rdyN ns out many ≤ (outL ns W2 out fs).length := by
    unfold rdyN outL
    rw [inF_g7]
    omega
  have hrd : rd (cntL ns Nd.rReady many) out = rdyN ns out many := rfl
  generalize outL ns W2 out fs = L at *
  generalize rdyN ns out many = c at *
  generalize cntL ns Nd.rReady many = CL at *
  refine Cg_of [] Tm Go.Proofs.Tryz.func14 rfl rfl Go.Proofs.Tryz.ntmps14 (by simp) rfl (rs := [.tmp 4]) rfl fun E hP hn hT hpn => ?_
  (repeat (first | refine TS.imp ?_ | refine n9 (by decide) ?_))
  refine TR.imp ?_; intro K hK; simp only [go_sem, hP, hn]; (repeat refine vc ?_); refine hK _ ?_; clear K hK
  (repeat (first | refine TS.imp ?_ | refine n9 (by decide) ?_))
  refine TR.imp ?_; intro K hK; simp only [go_sem, hP, hn]
  (repeat refine vc ?_)
  refine CallN_cs (Hi := [] ) (by rw [hP, hT]; exact  cE) rfl rfl rfl trivial (by simp only [go_sem, hP, hn]; try trivial) (by simp only [go_sem, hP, hn]; try rfl) (by simp only [inH, go_sem, hP, hn]; try simp) (by rw [hn]; decide) ?_; simp only [go_sem, hP, hn]; (repeat refine vc ?_)
  refine hK _ ?_; clear K hK
  (repeat (first | refine TS.imp ?_ | refine n9 (by decide) ?_))
  refine TR.imp ?_; intro K hK; simp only [go_sem, hP, hn]; (repeat refine vc ?_); refine hK _ ?_; clear K hK
  (repeat (first | refine TS.imp ?_ | refine n9 (by decide) ?_))
  refine Tr.cond rfl (fun hb => ?_) (fun hb => ?_)
  · have hL : L = [] := List.eq_nil_of_length_eq_zero (by simpa using hb)
    rw [hL, List.take_nil]
    (repeat (first | refine TS.imp ?_ | refine n9 (by decide) ?_))
    refine TR.imp ?_; intro K hK; simp only [go_sem, hP, hn]; (repeat refine vc ?_); refine hK _ ?_; clear K hK
    refine Tr.le (Le.nilrow 4 [.nil] rfl) ?_
    (repeat (first | (refine TR.imp ?_; intro K hK; simp only [go_sem, hP, hn]; (repeat refine vc ?_); refine hK _ ?_; clear K hK) | refine TS.imp ?_ | refine n9 (by decide) ?_))
    simp only [RetG, go_sem]; (repeat with_reducible refine vc ?_)
  clear hb
  refine Tr.le (Le.keep [1, 2, 5]) ?_; simp only [List.map_cons, List.map_nil, lk, Nat.reduceEqDiff, reduceIte]
  (repeat (first | refine TS.imp ?_ | refine n9 (by decide) ?_))
  refine d5 (.p true 0 (.p true 1 (.p true 2 (.p true 3 (.p true 5 (.p true 6 (.alt 4 (.p false 7 (.alt 8 (.p false 9 (.p false 10 .nil)) .nil)) .nil))))))) [] (by rw [hP]; kernel_rfl) (by kernel_rfl) (by simp only [go_sem, hP, hn]; try simp) (by exact fun _ _ h => h) ?_; intro K hK; simp only [go_sem, hP, hn]
  have hr2 : 0 ≤ rd CL out ∧ rd CL out ≤ L.length := by rw [hrd]; exact hr1
  have hr3 : (rd CL out).toNat ≤ L.length := by omega
  rw [← hl0] at cR
  (repeat refine vc ?_)
  refine CallP_cs (by rw [hP, hT]; exact cR) rfl rfl rfl trivial (by simp only [go_sem, hP, hn]; try trivial) (by simp only [go_sem, hP, hn]; try rfl) (by rw [hn]; decide) ?_; simp only [go_sem, hP, hn]; (repeat refine vc ?_)
  refine hK _ ?_; clear K hK
  (repeat (first | refine TS.imp ?_ | refine n9 (by decide) ?_))
  simp only [RetG, go_sem]; (repeat with_reducible refine vc ?_)
  rw [hrd, List.map_take]
end
section
attribute [local go_sem] frD insD PQ18
theorem WholeTells_c {T : World → Prop} (Tk : KT T) (l xs : List Int) (m : Int) : Cg Go.Proofs.Tryz.prog T 3 [] [.agg [.d (.row [.i .i64 0] (l.map intC)), .d (.row [.i .i64 0] (xs.map intC)), .d (.i .i64 m)]] (fun r H => H = [] ∧ r = .d (.b true)) := by
  refine Cg_of [] Tk.m Go.Proofs.Tryz.func3 rfl rfl Go.Proofs.Tryz.ntmps3 (by simp) rfl (rs := [.tmp 2]) rfl fun E hP hn hT hpn => ?_
  (repeat (first | refine TS.imp ?_ | refine n9 (by decide) ?_))
  refine TR.imp ?_; intro K hK; simp only [go_sem, hP, hn]; (repeat refine vc ?_); refine hK _ ?_; clear K hK
  (repeat (first | refine TS.imp ?_ | refine n9 (by decide) ?_))
  refine TR.imp ?_; intro K hK; simp only [go_sem, hP, hn]
  (repeat refine vc ?_)
  refine CallN_cs (Hi := [] ) (by rw [hP, hT]; exact  awake18_c Tk) rfl rfl rfl trivial (by simp only [go_sem, hP, hn]; try trivial) (by simp only [go_sem, hP, hn]; try rfl) (by simp only [inH, go_sem, hP, hn]; try simp) (by rw [hn]; decide) ?_; simp only [go_sem, hP, hn]; (repeat refine vc ?_)
  refine hK _ ?_; clear K hK
  (repeat (first | refine TS.imp ?_ | refine n9 (by decide) ?_))
  refine TR.imp ?_; intro K hK; simp only [go_sem, hP, hn]
  (repeat refine vc ?_)
  refine CallN_cx (Hi := []) (by rw [hP, hT]; exact made18_c Tk.m l xs m ) rfl rfl rfl trivial (by simp only [go_sem, hP, hn]; try trivial) (by simp only [go_sem, hP, hn]; try rfl) trivial (by rw [hn]; decide) (fun r Ho hr => ?_); obtain  ⟨wd, lo, hi, out, ns, many, fs, rfl, rfl, hG, hfs, hm0, hm1⟩ := hr; refine ⟨fun k _ => hpn k rfl, ?_⟩; simp only [cgS, newK, touK, go_sem, hP, hn]; (repeat refine vc ?_)
  refine hK _ ?_; clear K hK
  refine Tr.le (Le.keep [3, 4, 5]) ?_; simp only [List.map_cons, List.map_nil, lk, Nat.reduceEqDiff, reduceIte]
  obtain ⟨W, R, rk, W2, R2, hF⟩ := hG.gf
  have hm : 0 ≤ many ∧ many ≤ 1000 := by omega
  have cS := Streams_w Tk hF hfs hm
  have cG := Streams_g Tk.m hF hfs hm
  have cE := Eval_w Tk hF hfs hm
  have cR := Ready_w Tk hF hfs hm
  have cE2 := Eval18_c Tk.m hF hfs hm
  have cR2 := Ready18_c Tk.m hF hfs hm
  have hn0 := hF.n0
  have hrg := may_rng hF.may
  have hl0 := hfs.len
  have hsl := strL_len ns W2 fs
  have hsg : ∀ i : Int, 0 ≤ i → i < (strL ns W2 fs).length → (inF (strL ns W2 fs) i).length ≤ 65536 ∧ ∀ f ∈ inF (strL ns W2 fs) i, f.length ≤ 65536 := fun i i0 i1 => by
    have hk := hF.rank i i0 (by omega)
    have hs := hF.strL_sg hfs hm 12 i i0 (by omega) hk
    rw [inF_g7]
    refine ⟨by have := hs.len; omega, fun f hf => ?_⟩
    have e1 := hs.wid f hf
    rcases Int.lt_or_le 0 i with i2 | i2
    · have e2 := (hF.gg.node i i2 (by omega)).1.wd
      have e3 := (rwide_range (nd ns (i - 1)) ((nd ns (i - 1)).inn.map W)).2
      omega
    · obtain rfl : i = 0 := by omega
      rw [hF.gg.W0] at e1; omega
  have ho := hsg out (by omega) (by omega)
  have hoL : (outL ns W2 out fs).length ≤ 65536 ∧ ∀ f ∈ outL ns W2 out fs, f.length ≤ 65536 := ho
  have hoT : ((outL ns W2 out fs).take (rdyN ns out many).toNat).length ≤ 65536 ∧ ∀ f ∈ (outL ns W2 out fs).take (rdyN ns out many).toNat, f.length ≤ 65536 := ⟨by rw [List.length_take]; omega, fun f hf => hoL.2 f (List.mem_of_mem_take hf)⟩
  (repeat (first | refine TS.imp ?_ | refine n9 (by decide) ?_))
  refine TR.imp ?_; intro K hK; simp only [go_sem, hP, hn]
  (repeat refine vc ?_)
  refine CallN_cs (Hi := [] ) (by rw [hP, hT]; exact  cS) rfl rfl rfl trivial (by simp only [go_sem, hP, hn]; try trivial) (by simp only [go_sem, hP, hn]; try rfl) (by simp only [inH, go_sem, hP, hn]; try simp) (by rw [hn]; decide) ?_; simp only [go_sem, hP, hn]; (repeat refine vc ?_)
  refine hK _ ?_; clear K hK
  refine Tr.le (Le.keep [3, 4, 5, 6, 7]) ?_; simp only [List.map_cons, List.map_nil, lk, Nat.reduceEqDiff, reduceIte]
  (repeat (first | refine TS.imp ?_ | refine n9 (by decide) ?_))
  refine TR.imp ?_; intro K hK; simp only [go_sem, hP, hn]
  (repeat refine vc ?_)
  refine CallN_cs (Hi := [] ) (by rw [hP, hT]; exact  cG) rfl rfl rfl trivial (by simp only [go_sem, hP, hn]; try trivial) (by simp only [go_sem, hP, hn]; try rfl) (by simp only [inH, go_sem, hP, hn]; try simp) (by rw [hn]; decide) ?_; simp only [go_sem, hP, hn]; (repeat refine vc ?_)
  refine hK _ ?_; clear K hK
  refine Tr.le (Le.keep [3, 4, 5, 6, 7, 8]) ?_; simp only [List.map_cons, List.map_nil, lk, Nat.reduceEqDiff, reduceIte]
  generalize hOA : strL ns W2 fs = OA at *
  (repeat (first | refine TS.imp ?_ | refine n9 (by decide) ?_))
  refine TR.imp ?_; intro K hK; simp only [go_sem, hP, hn]; (repeat refine vc ?_); refine hK _ ?_; clear K hK
  (repeat (first | refine TS.imp ?_ | refine n9 (by decide) ?_))
  refine Tr.cond rfl (fun hb => ?_) (fun hb => ?_)
  · simp at hb
  clear hb
  refine Tr.le (Le.keep [3, 4, 5, 6, 8]) ?_; simp only [List.map_cons, List.map_nil, lk, Nat.reduceEqDiff, reduceIte]
  (repeat (first | refine TS.imp ?_ | refine n9 (by decide) ?_))
  refine TR.imp ?_; intro K hK; simp only [go_sem, hP, hn]; (repeat refine vc ?_); refine hK _ ?_; clear K hK
  (repeat (first | refine TS.imp ?_ | refine n9 (by decide) ?_))
  refine Tr.loop (fun q s => ∃ i : Int, s = ⟨[(3, .d (.b true)), (4, .ptr 4 0), (5, .d (frD fs)), (6, .d (insD OA)), (8, .ptr 8 0), (9, .d (.i .i64 i))], [(8, .box 37 [.d (insD OA), .d (.i .i64 0)]), (4, .box 28 (gcs wd lo hi out (.d (rowN ns))))]⟩ ∧ 0 ≤ i ∧ i + q = OA.length) OA.length ⟨_, ?_, 0, rfl, by omega, by omega⟩ ?_
  · exact (Le.mv (by simp only [go_sem, hP, hn]; first | done | (simp; done) | (simp [intC]; done) | (repeat (first | rfl | constructor))) (by simp only [go_sem, hP, hn]; first | done | (simp; done) | (simp [intC]; done) | (repeat (first | rfl | constructor))))
  rintro q s ⟨i, rfl, i0, iq⟩
  (repeat (first | refine TS.imp ?_ | refine n9 (by decide) ?_))
  refine TR.imp ?_; intro K hK; simp only [go_sem, hP, hn]; (repeat refine vc ?_); refine hK _ ?_; clear K hK
  (repeat (first | refine TS.imp ?_ | refine n9 (by decide) ?_))
  refine Tr.cond rfl (fun hb => ?_) (fun hb => ?_)
  · have hi1 : i < OA.length := by simpa using hb
    clear hb
    have hri := rw_ins OA i i0 hi1
    have hi2 : i.toNat < OA.length := by omega
    have hs := hsg i i0 hi1
    have w2 : wrap64 (i + 1) = i + 1 := w64 (by omega) (by omega)
    (repeat (first | refine TS.imp ?_ | refine n9 (by decide) ?_))
    refine d5 (.p true 0 (.p true 1 (.p true 2 (.p true 3 (.p true 4 (.p true 5 (.p true 6 (.p true 7 (.p true 8 (.alt 9 (.p false 10 .nil) .nil)))))))))) [] (by rw [hP]; kernel_rfl) (by kernel_rfl) (by simp only [go_sem, hP, hn]; try simp) (by exact fun _ _ h => h) ?_; intro K hK; simp only [go_sem, hP, hn]
    rw [hri]
    simp only [go_sem, hP, hn]
    simp only [i0, hi1, hi2, and_self, true_and, List.length_map]
    (repeat refine vc ?_)
    refine p1 (by rw [hP, hT]; exact Same18_c Tk.m (inF OA i) (inF OA i) hs.1 hs.2) rfl rfl rfl trivial (by simp only [go_sem, hP, hn]; try trivial) (by simp only [go_sem, hP, hn]; try rfl) (by rw [hn]; decide) (by rfl) ?_; simp only [go_sem, hP, hn]; (repeat refine vc ?_)
    refine hK _ ?_; clear K hK
    (repeat (first | refine TS.imp ?_ | refine n9 (by decide) ?_))
    refine TR.imp ?_; intro K hK; simp only [go_sem, hP, hn]; (repeat refine vc ?_); refine hK _ ?_; clear K hK
    (repeat (first | refine TS.imp ?_ | refine n9 (by decide) ?_))
    refine Tr.cond rfl (fun hc => ?_) (fun hc => ?_)
    · simp at hc
    clear hc
    (repeat (first | refine TS.imp ?_ | refine n9 (by decide) ?_))
    refine TR.imp ?_; intro K hK; simp only [w2, go_sem, hP, hn]; (repeat refine vc ?_); refine hK _ ?_; clear K hK
    (repeat (first | refine TS.imp ?_ | refine n9 (by decide) ?_))
    exact ⟨q - 1, _, by omega, (Le.mv (by simp only [go_sem, hP, hn]; first | done | (simp; done) | (simp [intC]; done) | (repeat (first | rfl | constructor))) (by simp only [go_sem, hP, hn]; first | done | (simp; done) | (simp [intC]; done) | (repeat (first | rfl | constructor)))), i + 1, rfl, by omega, by omega⟩
  clear hb
  refine Tr.le (Le.keep [3, 4, 5]) ?_; simp only [List.map_cons, List.map_nil, lk, Nat.reduceEqDiff, reduceIte]
  (repeat (first | refine TS.imp ?_ | refine n9 (by decide) ?_))
  refine TR.imp ?_; intro K hK; simp only [go_sem, hP, hn]
  (repeat refine vc ?_)
  refine CallN_cs (Hi := [] ) (by rw [hP, hT]; exact  cE) rfl rfl rfl trivial (by simp only [go_sem, hP, hn]; try trivial) (by simp only [go_sem, hP, hn]; try rfl) (by simp only [inH, go_sem, hP, hn]; try simp) (by rw [hn]; decide) ?_; simp only [go_sem, hP, hn]; (repeat refine vc ?_)
  refine hK _ ?_; clear K hK
  refine Tr.le (Le.keep [3, 4, 5, 11, 12]) ?_; simp only [List.map_cons, List.map_nil, lk, Nat.reduceEqDiff, reduceIte]
  (repeat (first | refine TS.imp ?_ | refine n9 (by decide) ?_))
  refine TR.imp ?_; intro K hK; simp only [go_sem, hP, hn]
  (repeat refine vc ?_)
  refine CallN_cs (Hi := [] ) (by rw [hP, hT]; exact  cR) rfl rfl rfl trivial (by simp only [go_sem, hP, hn]; try trivial) (by simp only [go_sem, hP, hn]; try rfl) (by simp only [inH, go_sem, hP, hn]; try simp) (by rw [hn]; decide) ?_; simp only [go_sem, hP, hn]; (repeat refine vc ?_)
  refine hK _ ?_; clear K hK
  refine Tr.le (Le.keep [3, 4, 5, 11, 12, 13, 14]) ?_; simp only [List.map_cons, List.map_nil, lk, Nat.reduceEqDiff, reduceIte]
  (repeat (first | refine TS.imp ?_ | refine n9 (by decide) ?_))
  refine TR.imp ?_; intro K hK; simp only [go_sem, hP, hn]
  (repeat refine vc ?_)
  refine CallN_cs (Hi := [] ) (by rw [hP, hT]; exact  cE2) rfl rfl rfl trivial (by simp only [go_sem, hP, hn]; try trivial) (by simp only [go_sem, hP, hn]; try rfl) (by simp only [inH, go_sem, hP, hn]; try simp) (by rw [hn]; decide) ?_; simp only [go_sem, hP, hn]; (repeat refine vc ?_)
  refine c1 (by rw [hP, hT]; exact Same18_c Tk.m (outL ns W2 out fs) (outL ns W2 out fs) hoL.1 hoL.2) rfl rfl rfl trivial (by simp only [go_sem, hP, hn]; try trivial) (by simp only [go_sem, hP, hn]; try rfl) (by rw [hn]; decide) (by rfl) ?_; simp only [go_sem, hP, hn]; (repeat refine vc ?_)
  refine hK _ ?_; clear K hK
  refine Tr.le (Le.keep [3, 4, 5, 12, 13, 14, 15]) ?_; simp only [List.map_cons, List.map_nil, lk, Nat.reduceEqDiff, reduceIte]
  (repeat (first | refine TS.imp ?_ | refine n9 (by decide) ?_))
  refine TR.imp ?_; intro K hK; simp only [go_sem, hP, hn]
  (repeat refine vc ?_)
  refine CallN_cs (Hi := [] ) (by rw [hP, hT]; exact  cR2) rfl rfl rfl trivial (by simp only [go_sem, hP, hn]; try trivial) (by simp only [go_sem, hP, hn]; try rfl) (by simp only [inH, go_sem, hP, hn]; try simp) (by rw [hn]; decide) ?_; simp only [go_sem, hP, hn]; (repeat refine vc ?_)
  refine c1 (by rw [hP, hT]; exact Same18_c Tk.m ((outL ns W2 out fs).take (rdyN ns out many).toNat) ((outL ns W2 out fs).take (rdyN ns out many).toNat) hoT.1 hoT.2) rfl rfl rfl trivial (by simp only [go_sem, hP, hn]; try trivial) (by simp only [go_sem, hP, hn]; try rfl) (by rw [hn]; decide) (by rfl) ?_; simp only [go_sem, hP, hn]; (repeat refine vc ?_)
  refine hK _ ?_; clear K hK
  refine Tr.le (Le.keep [3, 12, 14, 15, 16]) ?_; simp only [List.map_cons, List.map_nil, lk, Nat.reduceEqDiff, reduceIte]
  (repeat (first | (refine TR.imp ?_; intro K hK; simp only [go_sem, hP, hn]; (repeat refine vc ?_); refine hK _ ?_; clear K hK) | refine TS.imp ?_ | refine n9 (by decide) ?_))
  simp only [RetG, go_sem]; (repeat with_reducible refine vc ?_)
  all_goals simp
end
end Go.Proofs.YtgomeljgbjgbkaaGreatDoor.Aw
