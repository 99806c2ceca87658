/- The abstract walk, and contracts of Go functions: each call returns what the Lean function named tells. Conditions: those that each theorem names, none else. -/
import Derived.Test.YtohhaonjckfkaaaDoorZGraphChecks4
set_option linter.unusedVariables false
set_option linter.unusedSimpArgs false
set_option linter.unusedSectionVars false
set_option maxRecDepth 100000
set_option maxHeartbeats 4000000
namespace Go.Proofs.YtohhaonjckfkaaaDoor.Aw
open Go.RowKit
/-! the plain law of graphs: what graph's functions compute -/
def mayN (N : Int) (n : Nd) : Bool := n.inn.all (inB · 0 N)
def mayQ (wd lo hi out N : Int) : Bool := decide (wd < 1) || decide (16 < wd) || decide (hi < lo) || decide (lo < -32768) || decide (32767 < hi) || decide (out < 1) || decide (N < out)
def mayG (wd lo hi out : Int) (ns : List Nd) : Int := if (decide ((ns.length : Int) < 1) || decide (12 < (ns.length : Int))) = true then 22 else if mayQ wd lo hi out ns.length = true then 1 else if ns.all (mayN ns.length) = true then 0 else 1
/-- may number i come next, behind o? -/
def mayO (ns : List Nd) (o : List Int) (i : Int) : Bool := !o.contains i && (nd ns (i - 1)).inn.all fun j => j == 0 || o.contains j
/-- the first that may, of m numbers from i on -/
def nextO (ns : List Nd) (o : List Int) : Nat → Int → Option Int
  | 0, _ => none
  | m + 1, i => if mayO ns o i = true then some i else nextO ns o m (i + 1)
/-- the order, as far as it goes, in k more rounds -/
def ordR (ns : List Nd) : Nat → List Int → List Int
  | 0, o => o
  | k + 1, o => match nextO ns o ns.length 1 with
    | none => ordR ns k o
    | some i => ordR ns k (o ++ [i])
/-- a node's rate, as graph.rate tells it -/
def Nd.gwin (n : Nd) : Bool := decide (1 < n.span) || decide (n.k ≤ 4) || n.k == 12
def Nd.grate (n : Nd) (l : List Int) : Int × Bool := if (l.any (· != rd l 0) || (rd l 0 == 0 && (n.gwin || n.k == 5))) = true then (0, false) else if (n.k == 5) = true then (0, true) else (wrap64 (rd l 0 * n.stp), true)
/-- what graph.look tells, walking along an order -/
def lookL (ns : List Nd) : List Int → List Int → List Int → Int × List Int × List Int
  | [], W, R => (0, W, R)
  | i :: r, W, R =>
    let n := nd ns (i - 1)
    if (n.chk (n.inn.map (rd W)) != 0) = true then (n.chk (n.inn.map (rd W)), [], [])
    else if (!(n.grate (n.inn.map (rd R))).2) = true then (15, [], [])
    else lookL ns r (W.set i.toNat (n.wide (n.inn.map (rd W)))) (R.set i.toNat (n.grate (n.inn.map (rd R))).1)
def order (ns : List Nd) : List Int := ordR ns ns.length []
/-- the error, the order, the widths, the rates -/
def lookG (wd lo hi out : Int) (ns : List Nd) : Int × List Int × List Int × List Int :=
  if (mayG wd lo hi out ns != 0) = true then (mayG wd lo hi out ns, [], [], [])
  else if (!((order ns).length == ns.length)) = true then (13, [], [], [])
  else match lookL ns (order ns) (wd :: List.replicate ns.length 0) (1 :: List.replicate ns.length 0) with
    | (e, W, R) => if (e != 0) = true then (e, [], [], []) else (0, order ns, W, R)
theorem nextO_range {ns : List Nd} {o : List Int} : ∀ {m : Nat} {i x : Int}, nextO ns o m i = some x → i ≤ x ∧ x < i + m ∧ mayO ns o x = true
  | 0, i, x, h => by cases h
  | m + 1, i, x, h => by
    unfold nextO at h
    split at h
    · rename_i hm
      cases h
      exact ⟨by omega, by omega, hm⟩
    · have := nextO_range h
      exact ⟨by omega, by omega, this.2.2⟩
theorem ordR_range {ns : List Nd} : ∀ {k : Nat} {o : List Int}, (∀ x ∈ o, 1 ≤ x ∧ x ≤ ns.length) → ∀ x ∈ ordR ns k o, 1 ≤ x ∧ x ≤ ns.length
  | 0, o, h => h
  | k + 1, o, h => by
    unfold ordR
    split
    · exact ordR_range h
    · rename_i i hi
      have := nextO_range hi
      refine ordR_range fun x hx => ?_
      rcases List.mem_append.1 hx with hx | hx
      · exact h x hx
      · simp at hx; subst hx; omega
theorem ordR_length {ns : List Nd} : ∀ (k : Nat) (o : List Int), o.length ≤ (ordR ns k o).length ∧ (ordR ns k o).length ≤ o.length + k
  | 0, o => ⟨Nat.le_refl _, Nat.le_refl _⟩
  | k + 1, o => by
    unfold ordR
    split
    · have := ordR_length (ns := ns) k o; omega
    · rename_i i hi
      have := ordR_length (ns := ns) k (o ++ [i])
      simp at this
      omega
theorem mayG_ok {wd lo hi out : Int} {ns : List Nd} (h : mayG wd lo hi out ns = 0) : 1 ≤ ns.length ∧ ns.length ≤ 12 ∧ ∀ n ∈ ns, ∀ j ∈ n.inn, 0 ≤ j ∧ j ≤ ns.length := by
  unfold mayG at h
  split at h
  · cases h
  · rename_i h1
    split at h
    · cases h
    · split at h
      · rename_i h3
        simp only [Bool.or_eq_true, decide_eq_true_eq] at h1
        refine ⟨by omega, by omega, fun n hn j hj => ?_⟩
        have := List.all_eq_true.1 h3 n hn
        unfold mayN at this
        exact inB_iff.1 (List.all_eq_true.1 this j hj)
      · cases h
end Go.Proofs.YtohhaonjckfkaaaDoor.Aw
namespace Go.Proofs.YtohhaonjckfkaaaDoor.Aw
open Go.RowKit
attribute [local go_sem_proc] Nat.reduceAdd Nat.reduceMul Nat.reduceSub Nat.reduceEqDiff Nat.reduceLeDiff Nat.reduceBEq Nat.reduceBNe Int.reduceToNat reduceIte reduceCtorEq
attribute [local go_sem] initT SQ so pe he ev lk constS stp stc gdS nth pickS pickD loadS cellsAt okAt fieldAddrS fieldS partS indexAddrS indexS extractS binS binD binI isShift unS convS lenS sliceS bndI bndC mmS mm2 mmD builtS fillS okCells cellsS splS solid aliveL alive okS boxS allocS makeS bsliceS elemsOf dcells stF storeS frzA frz frzT frzS frzL frzO frzH appS srcS appVC killS killT killC killH killO k1 k2 S.has S.hasL St.add St.upd dropH lh cond_or cond_and rw_intC rw_intC0 rw_set rw_app rw_apps rw_rep rw_slice wr64 cond_true cond_false true_and and_true List.map_cons List.map_nil List.length_cons List.length_nil List.drop_succ_cons List.drop_zero List.take_succ_cons List.take_zero List.nil_append List.cons_append List.getD_cons_zero List.getD_cons_succ List.headD_cons List.length_map ite_true ite_false if_true if_false Bool.false_eq_true and_self forall_const List.drop_nil List.take_nil List.append_nil Option.map_some Option.map_none List.mapM_cons List.mapM_nil Option.bind_eq_bind Option.bind_some Option.pure_def knows resL resV oneS freshS freshL cv cvL stpL stcL or_true true_or or_false false_or List.all_cons List.all_nil Bool.and_self Bool.or_self Bool.true_and Bool.and_true Bool.or_false Bool.false_or implies_true flatD allm_nil allm_cons List.getElem?_cons_zero List.getElem?_cons_succ Nd.cs Nd.ds ml mln Option.isSome_some Option.isSome_none eq_self Int.toNat_natCast AP ldOk isLd inL subL crt chg chgS chgP idxs aliveW Option.toList_some Option.toList_none Option.toList RetG Nd.win frzA offK keepH aliveK nkH closedH closedO keysK inH St.upd rowO List.contains_cons List.contains_nil Bool.or_self Option.isNone_none Option.isNone_some Bool.not_true Bool.not_false gcs rowN e0N frzC
attribute [local go_sem] sz2 ag2 ok2 kk2 iu2 zc2 zd2 by2 sz3 ag3 ok3 kk3 iu3 zc3 zd3 by3 sz4 ag4 ok4 bo4 zc4 zd4 by4 sz5 ag5 ok5 kk5 iu5 zc5 zd5 by5 sz9 ag9 ok9 st9 zc9 zd9 by9 sz12 ag12 ok12 kk12 iu12 zc12 zd12 by12 sz15 ag15 ok15 zc15 by15 sz16 ag16 ok16 zc16 by16 sz21 ag21 ok21 kk21 iu21 zc21 zd21 by21 sz22 ag22 ok22 sl22 zc22 zd22 by22 sz23 ag23 ok23 zc23 zd23 pl23 by23 fl23_0 fl23_1 fl23_2 sz24 ag24 ok24 zc24 zd24 pl24 by24 fl24_0 fl24_1 fl24_2 sz25 ag25 ok25 zc25 zd25 pl25 by25 fl25_0 fl25_1 sz26 ag26 ok26 zc26 zd26 pl26 by26 fl26_0 fl26_1 sz28 ag28 ok28 zc28 zd28 pl28 by28 fl28_0 fl28_1 fl28_2 fl28_3 fl28_4 fl28_5 fl28_6 fl28_7 fl28_8 fl28_9 fl28_10 fl28_11 fl28_12 fl28_13 fl28_14 sz29 ag29 ok29 zc29 zd29 pl29 by29 fl29_0 fl29_1 fl29_2 fl29_3 fl29_4 fl29_5 fl29_6 fl29_7 fl29_8 fl29_9 fl29_10 fl29_11 fl29_12 fl29_13 fl29_14 sz39 ag39 ok39 kk39 iu39 zc39 zd39 by39 sz43 ag43 ok43 sl43 ar43 zc43 zd43 pl43 by43 sz46 ag46 ok46 sl46 zc46 zd46 by46 sz47 ag47 ok47 zc47 zd47 pl47 by47 fl47_0 fl47_1 fl47_2 fl47_3 fl47_4 sz48 ag48 ok48 zc48 zd48 pl48 by48 fl48_0 fl48_1 fl48_2 fl48_3 fl48_4 sz52 ag52 ok52 zc52 zd52 pl52 by52 fl52_0 fl52_1 fl52_2 sz53 ag53 ok53 zc53 zd53 pl53 by53 fl53_0 fl53_1 fl53_2 sz54 ag54 ok54 sl54 ar54 zc54 zd54 pl54 by54 sz58 ag58 ok58 sl58 zc58 zd58 by58 sz59 ag59 ok59 kk59 iu59 zc59 zd59 by59 sz62 ag62 ok62 sl62 ar62 zc62 zd62 pl62 by62 sz67 ag67 ok67 zc67 by67 sz68 ag68 ok68 zc68 zd68 pl68 by68 fl68_0 fl68_1 sz69 ag69 ok69 zc69 zd69 pl69 by69 fl69_0 fl69_1 sz75 ag75 ok75 zc75 zd75 pl75 by75 fl75_0 fl75_1 fl75_2 sz76 ag76 ok76 zc76 zd76 pl76 by76 fl76_0 fl76_1 fl76_2 sz79 ag79 ok79 zc79 zd79 pl79 by79 fl79_0 fl79_1 fl79_2 fl79_3 sz80 ag80 ok80 zc80 zd80 pl80 by80 fl80_0 fl80_1 fl80_2 fl80_3 sz82 ag82 ok82 zc82 by82 sz84 ag84 ok84 kk84 iu84 zc84 zd84 by84 sz88 ag88 ok88 zc88 zd88 pl88 by88 fl88_0 fl88_1 fl88_2 sz89 ag89 ok89 zc89 zd89 pl89 by89 fl89_0 fl89_1 fl89_2 sz94 ag94 ok94 sl94 ar94 zc94 zd94 pl94 by94 sz98 ag98 ok98 sl98 ar98 zc98 zd98 pl98 by98 sz105 ag105 ok105 sl105 ar105 zc105 zd105 pl105 by105 sz107 ag107 ok107 zc107 zd107 pl107 by107 fl107_0 fl107_1 sz108 ag108 ok108 sl108 ar108 zc108 zd108 pl108 by108 sz109 ag109 ok109 zc109 by109 sz118 ag118 ok118 kk118 iu118 zc118 zd118 by118 sz122 ag122 ok122 zc122 by122
theorem Same_c {T : World → Prop} (Tm : TP T) (a b : List Int) (hl : a.length ≤ 4096) : Ct Go.Proofs.Tryd.prog T 47 [.d (.row [.i .i64 0] (a.map intC)), .d (.row [.i .i64 0] (b.map intC))] true (fun r => r = .d (.b (decide (a = b)))) := by
  refine Ct_of Tm Go.Proofs.Tryd.func47 rfl rfl Go.Proofs.Tryd.ntmps47 (by simp) (rs := [.tmp 4]) rfl fun E hP hn hT => ?_
  (repeat (first | ((first | refine r1 ?_ | refine r2 ?_ | refine r3 ?_); intro K hK; simp only [go_sem, hP, hn]; (repeat (refine ⟨by first | trivial | omega | (simp <;> omega) | (simp +contextual; done) | (clear hK; grind), ?_⟩)); refine hK _ ?_; clear K hK) | refine Tr.seq ?_ | refine Tr.skip ?_ | refine Tr.label ?_ | refine Tr.block ?_ | refine Tr.scope ?_ | refine gs1 ?_ | refine gs2 ?_ | refine gs3 ?_ | refine Tr.exit ?_ | refine Tr.goto ?_ | refine Tr.ret ?_ | refine n1 ?_ | refine n2 ?_ | refine n3 ?_ | refine n4 ?_ | refine n5 ?_ | refine n6 ?_ | refine n7 ?_ | refine n8 ?_ | refine n9 (by decide) ?_))
  refine Tr.cond rfl (fun hb => ?_) (fun hb => ?_)
  · (repeat (first | ((first | refine r1 ?_ | refine r2 ?_ | refine r3 ?_); intro K hK; simp only [go_sem, hP, hn]; (repeat (refine ⟨by first | trivial | omega | (simp <;> omega) | (simp +contextual; done) | (clear hK; grind), ?_⟩)); refine hK _ ?_; clear K hK) | refine Tr.seq ?_ | refine Tr.skip ?_ | refine Tr.label ?_ | refine Tr.block ?_ | refine Tr.scope ?_ | refine gs1 ?_ | refine gs2 ?_ | refine gs3 ?_ | refine Tr.exit ?_ | refine Tr.goto ?_ | refine Tr.ret ?_ | refine n1 ?_ | refine n2 ?_ | refine n3 ?_ | refine n4 ?_ | refine n5 ?_ | refine n6 ?_ | refine n7 ?_ | refine n8 ?_ | refine n9 (by decide) ?_))
    simp only [RetQ, go_sem]
    have : ¬ a = b := fun e => by subst e; simp at hb
    simp [this]
  have hlen : a.length = b.length := by simp at hb; omega
  (repeat (first | ((first | refine r1 ?_ | refine r2 ?_ | refine r3 ?_); intro K hK; simp only [go_sem, hP, hn]; (repeat (refine ⟨by first | trivial | omega | (simp <;> omega) | (simp +contextual; done) | (clear hK; grind), ?_⟩)); refine hK _ ?_; clear K hK) | refine Tr.seq ?_ | refine Tr.skip ?_ | refine Tr.label ?_ | refine Tr.block ?_ | refine Tr.scope ?_ | refine gs1 ?_ | refine gs2 ?_ | refine gs3 ?_ | refine Tr.exit ?_ | refine Tr.goto ?_ | refine Tr.ret ?_ | refine n1 ?_ | refine n2 ?_ | refine n3 ?_ | refine n4 ?_ | refine n5 ?_ | refine n6 ?_ | refine n7 ?_ | refine n8 ?_ | refine n9 (by decide) ?_))
  refine Tr.loop (fun n s => ∃ j : Int, s = ⟨[(0, .d (.row [.i .i64 0] (a.map intC))), (1, .d (.row [.i .i64 0] (b.map intC))), (5, .d (.i .i64 j))], []⟩ ∧ 0 ≤ j ∧ j + n = a.length ∧ (a = b ↔ a.drop j.toNat = b.drop j.toNat)) a.length ⟨_, (Le.mv (by simp only [go_sem, hP, hn]; first | done | (simp; done) | (simp [intC]; done) | (repeat (first | rfl | constructor))) (by simp only [go_sem, hP, hn]; first | done | (simp; done) | (simp [intC]; done) | (repeat (first | rfl | constructor)))), 0, rfl, by omega, by omega, by simp⟩ ?_
  rintro n s ⟨j, rfl, h0, h1, h2⟩
  (repeat (first | ((first | refine r1 ?_ | refine r2 ?_ | refine r3 ?_); intro K hK; simp only [go_sem, hP, hn]; (repeat (refine ⟨by first | trivial | omega | (simp <;> omega) | (simp +contextual; done) | (clear hK; grind), ?_⟩)); refine hK _ ?_; clear K hK) | refine Tr.seq ?_ | refine Tr.skip ?_ | refine Tr.label ?_ | refine Tr.block ?_ | refine Tr.scope ?_ | refine gs1 ?_ | refine gs2 ?_ | refine gs3 ?_ | refine Tr.exit ?_ | refine Tr.goto ?_ | refine Tr.ret ?_ | refine n1 ?_ | refine n2 ?_ | refine n3 ?_ | refine n4 ?_ | refine n5 ?_ | refine n6 ?_ | refine n7 ?_ | refine n8 ?_ | refine n9 (by decide) ?_))
  refine Tr.cond rfl (fun hb => ?_) (fun hb => ?_)
  · have hj : j < a.length := by simpa using hb
    (repeat (first | ((first | refine r1 ?_ | refine r2 ?_ | refine r3 ?_); intro K hK; simp only [go_sem, hP, hn]; (repeat (refine ⟨by first | trivial | omega | (simp <;> omega) | (simp +contextual; done) | (clear hK; grind), ?_⟩)); refine hK _ ?_; clear K hK) | refine Tr.seq ?_ | refine Tr.skip ?_ | refine Tr.label ?_ | refine Tr.block ?_ | refine Tr.scope ?_ | refine gs1 ?_ | refine gs2 ?_ | refine gs3 ?_ | refine Tr.exit ?_ | refine Tr.goto ?_ | refine Tr.ret ?_ | refine n1 ?_ | refine n2 ?_ | refine n3 ?_ | refine n4 ?_ | refine n5 ?_ | refine n6 ?_ | refine n7 ?_ | refine n8 ?_ | refine n9 (by decide) ?_))
    (first | refine d1 (.p true 0 (.p true 1 (.p true 2 (.p true 3 (.p true 4 (.p true 5 (.p true 6 (.p true 7 (.p true 8 .nil))))))))) [] (by rw [hP]; kernel_rfl) (by kernel_rfl) (by simp only [go_sem, hP, hn]; try simp) (fun _ _ h => h) fun K hK => ?_ | refine d2 (.p true 0 (.p true 1 (.p true 2 (.p true 3 (.p true 4 (.p true 5 (.p true 6 (.p true 7 (.p true 8 .nil))))))))) [] (by rw [hP]; kernel_rfl) (by kernel_rfl) (by simp only [go_sem, hP, hn]; try simp) (fun _ _ h => h) fun K hK => ?_ | refine d4 (.p true 0 (.p true 1 (.p true 2 (.p true 3 (.p true 4 (.p true 5 (.p true 6 (.p true 7 (.p true 8 .nil))))))))) [] (by rw [hP]; kernel_rfl) (by kernel_rfl) (by simp only [go_sem, hP, hn]; try simp) (fun _ _ h => h) fun K hK => ?_); simp only [go_sem, hP, hn]; (repeat (refine ⟨by first | trivial | omega | (simp <;> omega) | (simp +contextual; done) | (clear hK; grind), ?_⟩)); refine hK _ ?_; clear K hK
    refine Tr.cond rfl (fun hb => ?_) (fun hb => ?_)
    · (repeat (first | ((first | refine r1 ?_ | refine r2 ?_ | refine r3 ?_); intro K hK; simp only [go_sem, hP, hn]; (repeat (refine ⟨by first | trivial | omega | (simp <;> omega) | (simp +contextual; done) | (clear hK; grind), ?_⟩)); refine hK _ ?_; clear K hK) | refine Tr.seq ?_ | refine Tr.skip ?_ | refine Tr.label ?_ | refine Tr.block ?_ | refine Tr.scope ?_ | refine gs1 ?_ | refine gs2 ?_ | refine gs3 ?_ | refine Tr.exit ?_ | refine Tr.goto ?_ | refine Tr.ret ?_ | refine n1 ?_ | refine n2 ?_ | refine n3 ?_ | refine n4 ?_ | refine n5 ?_ | refine n6 ?_ | refine n7 ?_ | refine n8 ?_ | refine n9 (by decide) ?_))
      simp only [RetQ, go_sem]
      rw [drop_rd h0 hj, drop_rd h0 (by omega)] at h2
      have : ¬ a = b := fun e => by have := h2.1 e; simp_all
      simp [this]
    · (repeat (first | ((first | refine r1 ?_ | refine r2 ?_ | refine r3 ?_); intro K hK; simp only [go_sem, hP, hn]; (repeat (refine ⟨by first | trivial | omega | (simp <;> omega) | (simp +contextual; done) | (clear hK; grind), ?_⟩)); refine hK _ ?_; clear K hK) | refine Tr.seq ?_ | refine Tr.skip ?_ | refine Tr.label ?_ | refine Tr.block ?_ | refine Tr.scope ?_ | refine gs1 ?_ | refine gs2 ?_ | refine gs3 ?_ | refine Tr.exit ?_ | refine Tr.goto ?_ | refine Tr.ret ?_ | refine n1 ?_ | refine n2 ?_ | refine n3 ?_ | refine n4 ?_ | refine n5 ?_ | refine n6 ?_ | refine n7 ?_ | refine n8 ?_ | refine n9 (by decide) ?_))
      rw [w64 (by omega) (by omega)]
      refine ⟨n - 1, _, by omega, ?_, j + 1, rfl, by omega, by omega, ?_⟩
      · exact (Le.mv (by simp only [go_sem, hP, hn]; first | done | (simp; done) | (simp [intC]; done) | (repeat (first | rfl | constructor))) (by simp only [go_sem, hP, hn]; first | done | (simp; done) | (simp [intC]; done) | (repeat (first | rfl | constructor))))
      rw [drop_rd h0 hj, drop_rd h0 (by omega)] at h2
      simp_all
  · (repeat (first | ((first | refine r1 ?_ | refine r2 ?_ | refine r3 ?_); intro K hK; simp only [go_sem, hP, hn]; (repeat (refine ⟨by first | trivial | omega | (simp <;> omega) | (simp +contextual; done) | (clear hK; grind), ?_⟩)); refine hK _ ?_; clear K hK) | refine Tr.seq ?_ | refine Tr.skip ?_ | refine Tr.label ?_ | refine Tr.block ?_ | refine Tr.scope ?_ | refine gs1 ?_ | refine gs2 ?_ | refine gs3 ?_ | refine Tr.exit ?_ | refine Tr.goto ?_ | refine Tr.ret ?_ | refine n1 ?_ | refine n2 ?_ | refine n3 ?_ | refine n4 ?_ | refine n5 ?_ | refine n6 ?_ | refine n7 ?_ | refine n8 ?_ | refine n9 (by decide) ?_))
    simp only [RetQ, go_sem]
    rw [drop_end (by simpa using hb), drop_end (by have := of_decide_eq_false hb; omega)] at h2
    have : a = b := h2.2 rfl
    simp [this]
theorem pick_c {T : World → Prop} (Tm : TP T) (of_ l : List Int) (hl : l.length ≤ 4096) (ho : of_.length ≤ 4096) (hi : ∀ x ∈ l, 0 ≤ x ∧ x < of_.length) : Ct Go.Proofs.Tryd.prog T 75 [.d (.row [.i .i64 0] (of_.map intC)), .d (.row [.i .i64 0] (l.map intC))] true (fun r => r = .d (.row [.i .i64 0] ((l.map (rd of_)).map intC))) := by
  refine Ct_of Tm Go.Proofs.Tryd.func75 rfl rfl Go.Proofs.Tryd.ntmps75 (by simp) (rs := [.tmp 4]) rfl fun E hP hn hT => ?_
  (repeat (first | ((first | refine r1 ?_ | refine r2 ?_ | refine r3 ?_); intro K hK; simp only [go_sem, hP, hn]; (repeat (refine ⟨by first | trivial | omega | (simp <;> omega) | (simp +contextual; done) | (clear hK; grind), ?_⟩)); refine hK _ ?_; clear K hK) | refine Tr.seq ?_ | refine Tr.skip ?_ | refine Tr.label ?_ | refine Tr.block ?_ | refine Tr.scope ?_ | refine gs1 ?_ | refine gs2 ?_ | refine gs3 ?_ | refine Tr.exit ?_ | refine Tr.goto ?_ | refine Tr.ret ?_ | refine n1 ?_ | refine n2 ?_ | refine n3 ?_ | refine n4 ?_ | refine n5 ?_ | refine n6 ?_ | refine n7 ?_ | refine n8 ?_ | refine n9 (by decide) ?_))
  refine Tr.loop (fun n s => ∃ (j : Int) (m : List Int), s = ⟨[(0, .d (.row [.i .i64 0] (of_.map intC))), (11, .d (.row [.i .i64 0] (l.map intC))), (12, .d (.i .i64 l.length)), (13, .d (.i .i64 j)), (5, .own 10)], [(10, .row 3 [.i .i64 0] (m.map intC))]⟩ ∧ 0 ≤ j ∧ j + n = l.length ∧ m.length = l.length ∧ m.take j.toNat = (l.take j.toNat).map (rd of_)) l.length ⟨_, (Le.mv (by simp only [go_sem, hP, hn]; first | done | (simp; done) | (simp [intC]; done) | (repeat (first | rfl | constructor))) (by simp only [go_sem, hP, hn]; first | done | (simp; done) | (simp [intC]; done) | (repeat (first | rfl | constructor)))), 0, List.replicate l.length 0, rfl, by omega, by omega, by simp, by simp⟩ ?_
  rintro n s ⟨j, m, rfl, h0, h1, h2, h3⟩
  (repeat (first | ((first | refine r1 ?_ | refine r2 ?_ | refine r3 ?_); intro K hK; simp only [go_sem, hP, hn]; (repeat (refine ⟨by first | trivial | omega | (simp <;> omega) | (simp +contextual; done) | (clear hK; grind), ?_⟩)); refine hK _ ?_; clear K hK) | refine Tr.seq ?_ | refine Tr.skip ?_ | refine Tr.label ?_ | refine Tr.block ?_ | refine Tr.scope ?_ | refine gs1 ?_ | refine gs2 ?_ | refine gs3 ?_ | refine Tr.exit ?_ | refine Tr.goto ?_ | refine Tr.ret ?_ | refine n1 ?_ | refine n2 ?_ | refine n3 ?_ | refine n4 ?_ | refine n5 ?_ | refine n6 ?_ | refine n7 ?_ | refine n8 ?_ | refine n9 (by decide) ?_))
  refine Tr.cond rfl (fun hb => ?_) (fun hb => ?_)
  · have hj : j < l.length := by simpa using hb
    have hr := hi _ (rd_mem h0 hj)
    (repeat (first | ((first | refine r1 ?_ | refine r2 ?_ | refine r3 ?_); intro K hK; simp only [go_sem, hP, hn]; (repeat (refine ⟨by first | trivial | omega | (simp <;> omega) | (simp +contextual; done) | (clear hK; grind), ?_⟩)); refine hK _ ?_; clear K hK) | refine Tr.seq ?_ | refine Tr.skip ?_ | refine Tr.label ?_ | refine Tr.block ?_ | refine Tr.scope ?_ | refine gs1 ?_ | refine gs2 ?_ | refine gs3 ?_ | refine Tr.exit ?_ | refine Tr.goto ?_ | refine Tr.ret ?_ | refine n1 ?_ | refine n2 ?_ | refine n3 ?_ | refine n4 ?_ | refine n5 ?_ | refine n6 ?_ | refine n7 ?_ | refine n8 ?_ | refine n9 (by decide) ?_))
    rw [w64 (by omega) (by omega)]
    refine ⟨n - 1, _, by omega, ?_, j + 1, m.set j.toNat (rd of_ (rd l j)), rfl, by omega, by omega, by simpa using h2, ?_⟩
    · exact (Le.mv (by simp only [go_sem, hP, hn]; first | done | (simp; done) | (simp [intC]; done) | (repeat (first | rfl | constructor))) (by simp only [go_sem, hP, hn]; first | done | (simp; done) | (simp [intC]; done) | (repeat (first | rfl | constructor))))
    · rw [take_set h0 (by omega), take_rd h0 hj, h3]; simp
  · (repeat (first | ((first | refine r1 ?_ | refine r2 ?_ | refine r3 ?_); intro K hK; simp only [go_sem, hP, hn]; (repeat (refine ⟨by first | trivial | omega | (simp <;> omega) | (simp +contextual; done) | (clear hK; grind), ?_⟩)); refine hK _ ?_; clear K hK) | refine Tr.seq ?_ | refine Tr.skip ?_ | refine Tr.label ?_ | refine Tr.block ?_ | refine Tr.scope ?_ | refine gs1 ?_ | refine gs2 ?_ | refine gs3 ?_ | refine Tr.exit ?_ | refine Tr.goto ?_ | refine Tr.ret ?_ | refine n1 ?_ | refine n2 ?_ | refine n3 ?_ | refine n4 ?_ | refine n5 ?_ | refine n6 ?_ | refine n7 ?_ | refine n8 ?_ | refine n9 (by decide) ?_))
    simp only [RetQ, go_sem]
    have e : j.toNat = l.length := by have := of_decide_eq_false hb; omega
    rw [e, List.take_of_length_le (by omega), List.take_of_length_le (by omega)] at h3
    rw [h3]
    exact ⟨flat_ints _, rfl⟩
theorem may_c {T : World → Prop} (Tm : TP T) (wd lo hi out : Int) (ns : List Nd) (hn : ns.length ≤ 65536) (hin : ∀ n ∈ ns, n.inn.length ≤ 65536) : Ct Go.Proofs.Tryd.prog T 73 [.agg (gcs wd lo hi out (.d (rowN ns)))] true (fun r => r = .d (.i .i64 (mayG wd lo hi out ns))) := by
  refine Ct_of Tm Go.Proofs.Tryd.func73 rfl rfl Go.Proofs.Tryd.ntmps73 (by simp) (rs := [.tmp 2]) rfl fun E hP hn hT => ?_
  (repeat (first | ((first | refine r1 ?_ | refine r2 ?_ | refine r3 ?_); intro K hK; simp only [go_sem, hP, hn]; (repeat (refine ⟨by first | trivial | omega | (simp <;> omega) | (simp +contextual; done) | (clear hK; grind), ?_⟩)); refine hK _ ?_; clear K hK) | refine Tr.seq ?_ | refine Tr.skip ?_ | refine Tr.label ?_ | refine Tr.block ?_ | refine Tr.scope ?_ | refine gs1 ?_ | refine gs2 ?_ | refine gs3 ?_ | refine Tr.exit ?_ | refine Tr.goto ?_ | refine Tr.ret ?_ | refine n1 ?_ | refine n2 ?_ | refine n3 ?_ | refine n4 ?_ | refine n5 ?_ | refine n6 ?_ | refine n7 ?_ | refine n8 ?_ | refine n9 (by decide) ?_))
  refine Tr.cond rfl (fun h1 => ?_) (fun h1 => ?_)
  · (repeat (first | ((first | refine r1 ?_ | refine r2 ?_ | refine r3 ?_); intro K hK; simp only [go_sem, hP, hn]; (repeat (refine ⟨by first | trivial | omega | (simp <;> omega) | (simp +contextual; done) | (clear hK; grind), ?_⟩)); refine hK _ ?_; clear K hK) | refine Tr.seq ?_ | refine Tr.skip ?_ | refine Tr.label ?_ | refine Tr.block ?_ | refine Tr.scope ?_ | refine gs1 ?_ | refine gs2 ?_ | refine gs3 ?_ | refine Tr.exit ?_ | refine Tr.goto ?_ | refine Tr.ret ?_ | refine n1 ?_ | refine n2 ?_ | refine n3 ?_ | refine n4 ?_ | refine n5 ?_ | refine n6 ?_ | refine n7 ?_ | refine n8 ?_ | refine n9 (by decide) ?_))
    simp only [RetQ, go_sem]
    unfold mayG; rw [if_pos h1]
  (repeat (first | ((first | refine r1 ?_ | refine r2 ?_ | refine r3 ?_); intro K hK; simp only [go_sem, hP, hn]; (repeat (refine ⟨by first | trivial | omega | (simp <;> omega) | (simp +contextual; done) | (clear hK; grind), ?_⟩)); refine hK _ ?_; clear K hK) | refine Tr.seq ?_ | refine Tr.skip ?_ | refine Tr.label ?_ | refine Tr.block ?_ | refine Tr.scope ?_ | refine gs1 ?_ | refine gs2 ?_ | refine gs3 ?_ | refine Tr.exit ?_ | refine Tr.goto ?_ | refine Tr.ret ?_ | refine n1 ?_ | refine n2 ?_ | refine n3 ?_ | refine n4 ?_ | refine n5 ?_ | refine n6 ?_ | refine n7 ?_ | refine n8 ?_ | refine n9 (by decide) ?_))
  refine Tr.cond rfl (fun h2 => ?_) (fun h2 => ?_)
  · (repeat (first | ((first | refine r1 ?_ | refine r2 ?_ | refine r3 ?_); intro K hK; simp only [go_sem, hP, hn]; (repeat (refine ⟨by first | trivial | omega | (simp <;> omega) | (simp +contextual; done) | (clear hK; grind), ?_⟩)); refine hK _ ?_; clear K hK) | refine Tr.seq ?_ | refine Tr.skip ?_ | refine Tr.label ?_ | refine Tr.block ?_ | refine Tr.scope ?_ | refine gs1 ?_ | refine gs2 ?_ | refine gs3 ?_ | refine Tr.exit ?_ | refine Tr.goto ?_ | refine Tr.ret ?_ | refine n1 ?_ | refine n2 ?_ | refine n3 ?_ | refine n4 ?_ | refine n5 ?_ | refine n6 ?_ | refine n7 ?_ | refine n8 ?_ | refine n9 (by decide) ?_))
    simp only [RetQ, go_sem]
    unfold mayG; rw [if_neg (by rw [h1]; decide), if_pos (show mayQ wd lo hi out ns.length = true from h2)]
  (repeat (first | ((first | refine r1 ?_ | refine r2 ?_ | refine r3 ?_); intro K hK; simp only [go_sem, hP, hn]; (repeat (refine ⟨by first | trivial | omega | (simp <;> omega) | (simp +contextual; done) | (clear hK; grind), ?_⟩)); refine hK _ ?_; clear K hK) | refine Tr.seq ?_ | refine Tr.skip ?_ | refine Tr.label ?_ | refine Tr.block ?_ | refine Tr.scope ?_ | refine gs1 ?_ | refine gs2 ?_ | refine gs3 ?_ | refine Tr.exit ?_ | refine Tr.goto ?_ | refine Tr.ret ?_ | refine n1 ?_ | refine n2 ?_ | refine n3 ?_ | refine n4 ?_ | refine n5 ?_ | refine n6 ?_ | refine n7 ?_ | refine n8 ?_ | refine n9 (by decide) ?_))
  have hN : ns.length ≤ 12 := by
    simp only [Bool.or_eq_false_iff, decide_eq_false_iff_not] at h1; omega
  have key : ∀ b, ns.all (mayN ns.length) = b → mayG wd lo hi out ns = if b = true then 0 else 1 := fun b e => by
    unfold mayG; rw [if_neg (by rw [h1]; decide), if_neg (show ¬ mayQ wd lo hi out ns.length = true from fun h => by rw [show mayQ wd lo hi out ns.length = false from h2] at h; cases h), e]
  clear h1 h2
  refine Tr.le (Le.keep [1, 2, 3, 54, 55, 56]) ?_; simp only [List.map_cons, List.map_nil, lk, Nat.reduceEqDiff, reduceIte]
  refine Tr.loop (fun m s => ∃ (i : Int), s = ⟨[(1, .ptr 1 0), (2, .d (.i .i64 0)), (3, .d (.i .i64 ns.length)), (54, .d (rowN ns)), (55, .d (.i .i64 ns.length)), (56, .d (.i .i64 i))], [(1, .box 48 (gcs wd lo hi out (.d (rowN ns))))]⟩ ∧ 0 ≤ i ∧ i + m = ns.length ∧ ns.all (mayN ns.length) = (ns.drop i.toNat).all (mayN ns.length)) ns.length ⟨_, (Le.mv (by simp only [go_sem, hP, hn]; first | done | (simp; done) | (simp [intC]; done) | (repeat (first | rfl | constructor))) (by simp only [go_sem, hP, hn]; first | done | (simp; done) | (simp [intC]; done) | (repeat (first | rfl | constructor)))), 0, rfl, by omega, by omega, by simp⟩ ?_
  rintro m s ⟨i, rfl, hi0, him, hall⟩
  (repeat (first | ((first | refine r1 ?_ | refine r2 ?_ | refine r3 ?_); intro K hK; simp only [go_sem, hP, hn]; (repeat (refine ⟨by first | trivial | omega | (simp <;> omega) | (simp +contextual; done) | (clear hK; grind), ?_⟩)); refine hK _ ?_; clear K hK) | refine Tr.seq ?_ | refine Tr.skip ?_ | refine Tr.label ?_ | refine Tr.block ?_ | refine Tr.scope ?_ | refine gs1 ?_ | refine gs2 ?_ | refine gs3 ?_ | refine Tr.exit ?_ | refine Tr.goto ?_ | refine Tr.ret ?_ | refine n1 ?_ | refine n2 ?_ | refine n3 ?_ | refine n4 ?_ | refine n5 ?_ | refine n6 ?_ | refine n7 ?_ | refine n8 ?_ | refine n9 (by decide) ?_))
  refine Tr.cond rfl (fun hb => ?_) (fun hb => ?_)
  · have hin1 : i < ns.length := by simpa using hb
    have hnd := rw_nd ns i hi0 hin1
    have hq := hin _ (nd_mem hi0 hin1)
    rw [drop_nd hi0 hin1, List.all_cons] at hall
    (repeat (first | refine Tr.seq ?_ | refine Tr.skip ?_ | refine Tr.label ?_ | refine Tr.block ?_ | refine Tr.scope ?_ | refine gs1 ?_ | refine gs2 ?_ | refine gs3 ?_ | refine Tr.exit ?_ | refine Tr.goto ?_ | refine Tr.ret ?_ | refine n1 ?_ | refine n2 ?_ | refine n3 ?_ | refine n4 ?_ | refine n5 ?_ | refine n6 ?_ | refine n7 ?_ | refine n8 ?_ | refine n9 (by decide) ?_))
    (first | refine r1 ?_ | refine r2 ?_ | refine r3 ?_); intro K hK; simp only [hnd, go_sem, hP, hn]; (repeat (refine ⟨by first | trivial | omega | (simp <;> omega) | (simp +contextual; done) | (clear hK; grind), ?_⟩)); refine hK _ ?_; clear K hK
    generalize nd ns i = q at hq hall ⊢
    (repeat (first | ((first | refine r1 ?_ | refine r2 ?_ | refine r3 ?_); intro K hK; simp only [go_sem, hP, hn]; (repeat (refine ⟨by first | trivial | omega | (simp <;> omega) | (simp +contextual; done) | (clear hK; grind), ?_⟩)); refine hK _ ?_; clear K hK) | refine Tr.seq ?_ | refine Tr.skip ?_ | refine Tr.label ?_ | refine Tr.block ?_ | refine Tr.scope ?_ | refine gs1 ?_ | refine gs2 ?_ | refine gs3 ?_ | refine Tr.exit ?_ | refine Tr.goto ?_ | refine Tr.ret ?_ | refine n1 ?_ | refine n2 ?_ | refine n3 ?_ | refine n4 ?_ | refine n5 ?_ | refine n6 ?_ | refine n7 ?_ | refine n8 ?_ | refine n9 (by decide) ?_))
    refine Tr.le (Le.keep [1, 2, 3, 5, 54, 55, 56, 61, 62, 63]) ?_; simp only [List.map_cons, List.map_nil, lk, Nat.reduceEqDiff, reduceIte]
    refine Tr.loop (fun m2 s => ∃ (j : Int), s = ⟨[(1, .ptr 1 0), (2, .d (.i .i64 0)), (3, .d (.i .i64 ns.length)), (5, .ptr 5 0), (54, .d (rowN ns)), (55, .d (.i .i64 ns.length)), (56, .d (.i .i64 i)), (61, .d (.row [.i .i64 0] (q.inn.map intC))), (62, .d (.i .i64 q.inn.length)), (63, .d (.i .i64 j))], [(5, .box 29 q.cs), (1, .box 48 (gcs wd lo hi out (.d (rowN ns))))]⟩ ∧ 0 ≤ j ∧ j + m2 = q.inn.length ∧ mayN ns.length q = (q.inn.drop j.toNat).all (inB · 0 ns.length)) q.inn.length ⟨_, (Le.mv (by simp only [go_sem, hP, hn]; first | done | (simp; done) | (simp [intC]; done) | (repeat (first | rfl | constructor))) (by simp only [go_sem, hP, hn]; first | done | (simp; done) | (simp [intC]; done) | (repeat (first | rfl | constructor)))), 0, rfl, by omega, by omega, by simp [mayN]⟩ ?_
    rintro m2 s ⟨j, rfl, hj0, hjm, hqa⟩
    (repeat (first | ((first | refine r1 ?_ | refine r2 ?_ | refine r3 ?_); intro K hK; simp only [go_sem, hP, hn]; (repeat (refine ⟨by first | trivial | omega | (simp <;> omega) | (simp +contextual; done) | (clear hK; grind), ?_⟩)); refine hK _ ?_; clear K hK) | refine Tr.seq ?_ | refine Tr.skip ?_ | refine Tr.label ?_ | refine Tr.block ?_ | refine Tr.scope ?_ | refine gs1 ?_ | refine gs2 ?_ | refine gs3 ?_ | refine Tr.exit ?_ | refine Tr.goto ?_ | refine Tr.ret ?_ | refine n1 ?_ | refine n2 ?_ | refine n3 ?_ | refine n4 ?_ | refine n5 ?_ | refine n6 ?_ | refine n7 ?_ | refine n8 ?_ | refine n9 (by decide) ?_))
    refine Tr.cond rfl (fun hc => ?_) (fun hc => ?_)
    · have hj : j < q.inn.length := by simpa using hc
      rw [drop_rd hj0 hj, List.all_cons] at hqa
      (repeat (first | ((first | refine r1 ?_ | refine r2 ?_ | refine r3 ?_); intro K hK; simp only [go_sem, hP, hn]; (repeat (refine ⟨by first | trivial | omega | (simp <;> omega) | (simp +contextual; done) | (clear hK; grind), ?_⟩)); refine hK _ ?_; clear K hK) | refine Tr.seq ?_ | refine Tr.skip ?_ | refine Tr.label ?_ | refine Tr.block ?_ | refine Tr.scope ?_ | refine gs1 ?_ | refine gs2 ?_ | refine gs3 ?_ | refine Tr.exit ?_ | refine Tr.goto ?_ | refine Tr.ret ?_ | refine n1 ?_ | refine n2 ?_ | refine n3 ?_ | refine n4 ?_ | refine n5 ?_ | refine n6 ?_ | refine n7 ?_ | refine n8 ?_ | refine n9 (by decide) ?_))
      refine Tr.cond rfl (fun hd => ?_) (fun hd => ?_)
      · (repeat (first | ((first | refine r1 ?_ | refine r2 ?_ | refine r3 ?_); intro K hK; simp only [go_sem, hP, hn]; (repeat (refine ⟨by first | trivial | omega | (simp <;> omega) | (simp +contextual; done) | (clear hK; grind), ?_⟩)); refine hK _ ?_; clear K hK) | refine Tr.seq ?_ | refine Tr.skip ?_ | refine Tr.label ?_ | refine Tr.block ?_ | refine Tr.scope ?_ | refine gs1 ?_ | refine gs2 ?_ | refine gs3 ?_ | refine Tr.exit ?_ | refine Tr.goto ?_ | refine Tr.ret ?_ | refine n1 ?_ | refine n2 ?_ | refine n3 ?_ | refine n4 ?_ | refine n5 ?_ | refine n6 ?_ | refine n7 ?_ | refine n8 ?_ | refine n9 (by decide) ?_))
        simp only [RetQ, go_sem]
        have : inB (rd q.inn j) 0 ns.length = false := by
          unfold inB; simp only [Bool.or_eq_true, decide_eq_true_eq] at hd; simp; omega
        rw [key false (by rw [hall, hqa, this, Bool.false_and, Bool.false_and])]; rfl
      · (repeat (first | ((first | refine r1 ?_ | refine r2 ?_ | refine r3 ?_); intro K hK; simp only [go_sem, hP, hn]; (repeat (refine ⟨by first | trivial | omega | (simp <;> omega) | (simp +contextual; done) | (clear hK; grind), ?_⟩)); refine hK _ ?_; clear K hK) | refine Tr.seq ?_ | refine Tr.skip ?_ | refine Tr.label ?_ | refine Tr.block ?_ | refine Tr.scope ?_ | refine gs1 ?_ | refine gs2 ?_ | refine gs3 ?_ | refine Tr.exit ?_ | refine Tr.goto ?_ | refine Tr.ret ?_ | refine n1 ?_ | refine n2 ?_ | refine n3 ?_ | refine n4 ?_ | refine n5 ?_ | refine n6 ?_ | refine n7 ?_ | refine n8 ?_ | refine n9 (by decide) ?_))
        rw [w64 (x := j + 1) (by omega) (by omega)]
        refine ⟨m2 - 1, _, by omega, ?_, j + 1, rfl, by omega, by omega, ?_⟩
        · exact (Le.mv (by simp only [go_sem, hP, hn]; first | done | (simp; done) | (simp [intC]; done) | (repeat (first | rfl | constructor))) (by simp only [go_sem, hP, hn]; first | done | (simp; done) | (simp [intC]; done) | (repeat (first | rfl | constructor))))
        have : inB (rd q.inn j) 0 ns.length = true := by
          unfold inB; simp only [Bool.or_eq_false_iff, decide_eq_false_iff_not] at hd; simp; omega
        rw [hqa, this, Bool.true_and]
    · rw [drop_end (by simpa using hc)] at hqa
      (repeat (first | ((first | refine r1 ?_ | refine r2 ?_ | refine r3 ?_); intro K hK; simp only [go_sem, hP, hn]; (repeat (refine ⟨by first | trivial | omega | (simp <;> omega) | (simp +contextual; done) | (clear hK; grind), ?_⟩)); refine hK _ ?_; clear K hK) | refine Tr.seq ?_ | refine Tr.skip ?_ | refine Tr.label ?_ | refine Tr.block ?_ | refine Tr.scope ?_ | refine gs1 ?_ | refine gs2 ?_ | refine gs3 ?_ | refine Tr.exit ?_ | refine Tr.goto ?_ | refine Tr.ret ?_ | refine n1 ?_ | refine n2 ?_ | refine n3 ?_ | refine n4 ?_ | refine n5 ?_ | refine n6 ?_ | refine n7 ?_ | refine n8 ?_ | refine n9 (by decide) ?_))
      rw [w64 (x := i + 1) (by omega) (by omega)]
      refine ⟨m - 1, _, by omega, ?_, i + 1, rfl, by omega, by omega, ?_⟩
      · exact (Le.mv (by simp only [go_sem, hP, hn]; first | done | (simp; done) | (simp [intC]; done) | (repeat (first | rfl | constructor))) (by simp only [go_sem, hP, hn]; first | done | (simp; done) | (simp [intC]; done) | (repeat (first | rfl | constructor))))
      rw [hall, hqa]; rfl
  · rw [drop_end (by simpa using hb)] at hall
    (repeat (first | ((first | refine r1 ?_ | refine r2 ?_ | refine r3 ?_); intro K hK; simp only [go_sem, hP, hn]; (repeat (refine ⟨by first | trivial | omega | (simp <;> omega) | (simp +contextual; done) | (clear hK; grind), ?_⟩)); refine hK _ ?_; clear K hK) | refine Tr.seq ?_ | refine Tr.skip ?_ | refine Tr.label ?_ | refine Tr.block ?_ | refine Tr.scope ?_ | refine gs1 ?_ | refine gs2 ?_ | refine gs3 ?_ | refine Tr.exit ?_ | refine Tr.goto ?_ | refine Tr.ret ?_ | refine n1 ?_ | refine n2 ?_ | refine n3 ?_ | refine n4 ?_ | refine n5 ?_ | refine n6 ?_ | refine n7 ?_ | refine n8 ?_ | refine n9 (by decide) ?_))
    simp only [RetQ, go_sem]
    rw [key true (by rw [hall]; rfl)]; rfl
/-! closures of graph, and slices' functions over them -/
theorem rateF_c {T : World → Prop} (Tm : TP T) (x r : Int) : Cg Go.Proofs.Tryd.prog T 84 [(1000, .box 3 [.d (.i .i64 r)])] [.d (.i .i64 x), .ptr 1000 0] (fun v H => H = [(1000, .box 3 [.d (.i .i64 r)])] ∧ v = .d (.b (x != r))) := by
  refine Cg_of [1000] Tm Go.Proofs.Tryd.func84 rfl rfl Go.Proofs.Tryd.ntmps84 (by simp) rfl (rs := [.tmp 3]) rfl fun E hP hn hT hpn => ?_
  (repeat (first | ((first | refine r1 ?_ | refine r2 ?_ | refine r3 ?_); intro K hK; simp only [go_sem, hP, hn]; (repeat (refine ⟨by first | trivial | omega | (simp <;> omega) | (simp +contextual; done) | (clear hK; grind), ?_⟩)); refine hK _ ?_; clear K hK) | refine Tr.seq ?_ | refine Tr.skip ?_ | refine Tr.label ?_ | refine Tr.block ?_ | refine Tr.scope ?_ | refine gs1 ?_ | refine gs2 ?_ | refine gs3 ?_ | refine Tr.exit ?_ | refine Tr.goto ?_ | refine Tr.ret ?_ | refine n1 ?_ | refine n2 ?_ | refine n3 ?_ | refine n4 ?_ | refine n5 ?_ | refine n6 ?_ | refine n7 ?_ | refine n8 ?_ | refine n9 (by decide) ?_))
  simp only [RetG, go_sem]; (repeat (with_reducible refine And.intro ?_ ?_; (· first | trivial | omega | (simp <;> omega) | (simp +contextual; done) | (clear hK; grind))))
theorem rateIdx_c {T : World → Prop} (Tm : TP T) (l : List Int) (r : Int) (hl : l.length ≤ 65536) : Cg Go.Proofs.Tryd.prog T 86 [(1000, .box 3 [.d (.i .i64 r)])] [.d (.row [.i .i64 0] (l.map intC)), .fn 84 [.ptr 1000 0]] (fun v H => H = [(1000, .box 3 [.d (.i .i64 r)])] ∧ ∃ j : Int, decide (0 ≤ j) = l.any (· != r) ∧ v = .d (.i .i64 j)) := by
  refine Cg_of [1000] Tm Go.Proofs.Tryd.func86 rfl rfl Go.Proofs.Tryd.ntmps86 (by simp) rfl (rs := [.tmp 4]) rfl fun E hP hn hT hpn => ?_
  (repeat (first | ((first | refine r1 ?_ | refine r2 ?_ | refine r3 ?_); intro K hK; simp only [go_sem, hP, hn]; (repeat (refine ⟨by first | trivial | omega | (simp <;> omega) | (simp +contextual; done) | (clear hK; grind), ?_⟩)); refine hK _ ?_; clear K hK) | refine Tr.seq ?_ | refine Tr.skip ?_ | refine Tr.label ?_ | refine Tr.block ?_ | refine Tr.scope ?_ | refine gs1 ?_ | refine gs2 ?_ | refine gs3 ?_ | refine Tr.exit ?_ | refine Tr.goto ?_ | refine Tr.ret ?_ | refine n1 ?_ | refine n2 ?_ | refine n3 ?_ | refine n4 ?_ | refine n5 ?_ | refine n6 ?_ | refine n7 ?_ | refine n8 ?_ | refine n9 (by decide) ?_))
  refine Tr.loop (fun m s => ∃ (j : Int), s = ⟨[(0, .d (.row [.i .i64 0] (l.map intC))), (1, .fn 84 [.ptr 1000 0]), (7, .d (.i .i64 l.length)), (8, .d (.i .i64 j))], [(1000, .box 3 [.d (.i .i64 r)])]⟩ ∧ 0 ≤ j ∧ j + m = l.length ∧ l.any (· != r) = (l.drop j.toNat).any (· != r)) l.length ⟨_, (Le.mv (by simp only [go_sem, hP, hn]; first | done | (simp; done) | (simp [intC]; done) | (repeat (first | rfl | constructor))) (by simp only [go_sem, hP, hn]; first | done | (simp; done) | (simp [intC]; done) | (repeat (first | rfl | constructor)))), 0, rfl, by omega, by omega, by simp⟩ ?_
  rintro m s ⟨j, rfl, hj0, hjm, hany⟩
  (repeat (first | ((first | refine r1 ?_ | refine r2 ?_ | refine r3 ?_); intro K hK; simp only [go_sem, hP, hn]; (repeat (refine ⟨by first | trivial | omega | (simp <;> omega) | (simp +contextual; done) | (clear hK; grind), ?_⟩)); refine hK _ ?_; clear K hK) | refine Tr.seq ?_ | refine Tr.skip ?_ | refine Tr.label ?_ | refine Tr.block ?_ | refine Tr.scope ?_ | refine gs1 ?_ | refine gs2 ?_ | refine gs3 ?_ | refine Tr.exit ?_ | refine Tr.goto ?_ | refine Tr.ret ?_ | refine n1 ?_ | refine n2 ?_ | refine n3 ?_ | refine n4 ?_ | refine n5 ?_ | refine n6 ?_ | refine n7 ?_ | refine n8 ?_ | refine n9 (by decide) ?_))
  refine Tr.cond rfl (fun hb => ?_) (fun hb => ?_)
  · have hj : j < l.length := by simpa using hb
    rw [drop_rd hj0 hj, List.any_cons] at hany
    (repeat (first | refine Tr.seq ?_ | refine Tr.skip ?_ | refine Tr.label ?_ | refine Tr.block ?_ | refine Tr.scope ?_ | refine gs1 ?_ | refine gs2 ?_ | refine gs3 ?_ | refine Tr.exit ?_ | refine Tr.goto ?_ | refine Tr.ret ?_ | refine n1 ?_ | refine n2 ?_ | refine n3 ?_ | refine n4 ?_ | refine n5 ?_ | refine n6 ?_ | refine n7 ?_ | refine n8 ?_ | refine n9 (by decide) ?_))
    (first | refine r1 ?_ | refine r2 ?_ | refine r3 ?_); intro K hK; simp only [go_sem, hP, hn]; (repeat (refine ⟨by first | trivial | omega | (simp <;> omega) | (simp +contextual; done) | (clear hK; grind), ?_⟩)); refine hK _ ?_; clear K hK
    (repeat (first | refine Tr.seq ?_ | refine Tr.skip ?_ | refine Tr.label ?_ | refine Tr.block ?_ | refine Tr.scope ?_ | refine gs1 ?_ | refine gs2 ?_ | refine gs3 ?_ | refine Tr.exit ?_ | refine Tr.goto ?_ | refine Tr.ret ?_ | refine n1 ?_ | refine n2 ?_ | refine n3 ?_ | refine n4 ?_ | refine n5 ?_ | refine n6 ?_ | refine n7 ?_ | refine n8 ?_ | refine n9 (by decide) ?_))
    (first | refine r1 ?_ | refine r2 ?_ | refine r3 ?_); intro K hK; simp only [go_sem, hP, hn]
    (repeat (refine ⟨by first | trivial | omega | (simp <;> omega) | (simp +contextual; done) | (clear hK; grind), ?_⟩))
    refine CallN_cs (Hi := [(1000, .box 3 [.d (.i .i64 r)])] ) (by rw [hP, hT]; exact  rateF_c Tm (rd l j) r) rfl rfl rfl trivial (by simp only [go_sem, hP, hn]; try trivial) (by simp only [go_sem, hP, hn]; try rfl) (by simp only [inH, go_sem, hP, hn]; try simp) (by rw [hn]; decide) ?_; simp only [go_sem, hP, hn]; (repeat (refine ⟨by first | trivial | omega | (simp <;> omega) | (simp +contextual; done) | (clear hK; grind), ?_⟩))
    refine hK _ ?_; clear K hK
    refine Tr.cond rfl (fun hc => ?_) (fun hc => ?_)
    · (repeat (first | ((first | refine r1 ?_ | refine r2 ?_ | refine r3 ?_); intro K hK; simp only [go_sem, hP, hn]; (repeat (refine ⟨by first | trivial | omega | (simp <;> omega) | (simp +contextual; done) | (clear hK; grind), ?_⟩)); refine hK _ ?_; clear K hK) | refine Tr.seq ?_ | refine Tr.skip ?_ | refine Tr.label ?_ | refine Tr.block ?_ | refine Tr.scope ?_ | refine gs1 ?_ | refine gs2 ?_ | refine gs3 ?_ | refine Tr.exit ?_ | refine Tr.goto ?_ | refine Tr.ret ?_ | refine n1 ?_ | refine n2 ?_ | refine n3 ?_ | refine n4 ?_ | refine n5 ?_ | refine n6 ?_ | refine n7 ?_ | refine n8 ?_ | refine n9 (by decide) ?_))
      simp only [RetG, go_sem]; (repeat (with_reducible refine And.intro ?_ ?_; (· first | trivial | omega | (simp <;> omega) | (simp +contextual; done) | (clear hK; grind))))
      refine ⟨_, ?_, rfl⟩
      rw [hany, hc, Bool.true_or]; simpa using hj0
    · (repeat (first | ((first | refine r1 ?_ | refine r2 ?_ | refine r3 ?_); intro K hK; simp only [go_sem, hP, hn]; (repeat (refine ⟨by first | trivial | omega | (simp <;> omega) | (simp +contextual; done) | (clear hK; grind), ?_⟩)); refine hK _ ?_; clear K hK) | refine Tr.seq ?_ | refine Tr.skip ?_ | refine Tr.label ?_ | refine Tr.block ?_ | refine Tr.scope ?_ | refine gs1 ?_ | refine gs2 ?_ | refine gs3 ?_ | refine Tr.exit ?_ | refine Tr.goto ?_ | refine Tr.ret ?_ | refine n1 ?_ | refine n2 ?_ | refine n3 ?_ | refine n4 ?_ | refine n5 ?_ | refine n6 ?_ | refine n7 ?_ | refine n8 ?_ | refine n9 (by decide) ?_))
      rw [w64 (x := j + 1) (by omega) (by omega)]
      refine ⟨m - 1, _, by omega, ?_, j + 1, rfl, by omega, by omega, ?_⟩
      · exact (Le.mv (by simp only [go_sem, hP, hn]; first | done | (simp; done) | (simp [intC]; done) | (repeat (first | rfl | constructor))) (by simp only [go_sem, hP, hn]; first | done | (simp; done) | (simp [intC]; done) | (repeat (first | rfl | constructor))))
      rw [hany, hc, Bool.false_or]
  · rw [drop_end (by simpa using hb)] at hany
    (repeat (first | ((first | refine r1 ?_ | refine r2 ?_ | refine r3 ?_); intro K hK; simp only [go_sem, hP, hn]; (repeat (refine ⟨by first | trivial | omega | (simp <;> omega) | (simp +contextual; done) | (clear hK; grind), ?_⟩)); refine hK _ ?_; clear K hK) | refine Tr.seq ?_ | refine Tr.skip ?_ | refine Tr.label ?_ | refine Tr.block ?_ | refine Tr.scope ?_ | refine gs1 ?_ | refine gs2 ?_ | refine gs3 ?_ | refine Tr.exit ?_ | refine Tr.goto ?_ | refine Tr.ret ?_ | refine n1 ?_ | refine n2 ?_ | refine n3 ?_ | refine n4 ?_ | refine n5 ?_ | refine n6 ?_ | refine n7 ?_ | refine n8 ?_ | refine n9 (by decide) ?_))
    simp only [RetG, go_sem]; (repeat (with_reducible refine And.intro ?_ ?_; (· first | trivial | omega | (simp <;> omega) | (simp +contextual; done) | (clear hK; grind))))
    refine ⟨_, ?_, rfl⟩
    rw [hany]; rfl
theorem rateAny_c {T : World → Prop} (Tm : TP T) (l : List Int) (r : Int) (hl : l.length ≤ 65536) : Cg Go.Proofs.Tryd.prog T 82 [(1000, .box 3 [.d (.i .i64 r)])] [.d (.row [.i .i64 0] (l.map intC)), .fn 84 [.ptr 1000 0]] (fun v H => H = [(1000, .box 3 [.d (.i .i64 r)])] ∧ v = .d (.b (l.any (· != r)))) := by
  refine Cg_of [1000] Tm Go.Proofs.Tryd.func82 rfl rfl Go.Proofs.Tryd.ntmps82 (by simp) rfl (rs := [.tmp 4]) rfl fun E hP hn hT hpn => ?_
  (repeat (first | refine Tr.seq ?_ | refine Tr.skip ?_ | refine Tr.label ?_ | refine Tr.block ?_ | refine Tr.scope ?_ | refine gs1 ?_ | refine gs2 ?_ | refine gs3 ?_ | refine Tr.exit ?_ | refine Tr.goto ?_ | refine Tr.ret ?_ | refine n1 ?_ | refine n2 ?_ | refine n3 ?_ | refine n4 ?_ | refine n5 ?_ | refine n6 ?_ | refine n7 ?_ | refine n8 ?_ | refine n9 (by decide) ?_))
  (first | refine r1 ?_ | refine r2 ?_ | refine r3 ?_); intro K hK; simp only [go_sem, hP, hn]; (repeat (refine ⟨by first | trivial | omega | (simp <;> omega) | (simp +contextual; done) | (clear hK; grind), ?_⟩)); refine hK _ ?_; clear K hK
  (first | refine r1 ?_ | refine r2 ?_ | refine r3 ?_); intro K hK; simp only [go_sem, hP, hn]
  (repeat (refine ⟨by first | trivial | omega | (simp <;> omega) | (simp +contextual; done) | (clear hK; grind), ?_⟩))
  refine CallN_cx (Hi := [(1000, .box 3 [.d (.i .i64 r)])] ) (by rw [hP, hT]; exact  rateIdx_c Tm l r hl ) rfl rfl rfl trivial (by simp only [go_sem, hP, hn]; try trivial) (by simp only [go_sem, hP, hn]; try rfl) (by simp only [inH, go_sem, hP, hn]; try simp) (by rw [hn]; decide) (fun r Ho hr => ?_); obtain ⟨rfl, hr⟩ := hr; obtain  ⟨j, hj, rfl⟩ := hr; refine ⟨fun k hk => (by rw [newK_same] at hk; cases hk), ?_⟩; simp only [cgS, newK, touK, go_sem, hP, hn]; (repeat (refine ⟨by first | trivial | omega | (simp <;> omega) | (simp +contextual; done) | (clear hK; grind), ?_⟩))
  refine hK _ ?_; clear K hK
  rw [hj]
  (repeat (first | ((first | refine r1 ?_ | refine r2 ?_ | refine r3 ?_); intro K hK; simp only [go_sem, hP, hn]; (repeat (refine ⟨by first | trivial | omega | (simp <;> omega) | (simp +contextual; done) | (clear hK; grind), ?_⟩)); refine hK _ ?_; clear K hK) | refine Tr.seq ?_ | refine Tr.skip ?_ | refine Tr.label ?_ | refine Tr.block ?_ | refine Tr.scope ?_ | refine gs1 ?_ | refine gs2 ?_ | refine gs3 ?_ | refine Tr.exit ?_ | refine Tr.goto ?_ | refine Tr.ret ?_ | refine n1 ?_ | refine n2 ?_ | refine n3 ?_ | refine n4 ?_ | refine n5 ?_ | refine n6 ?_ | refine n7 ?_ | refine n8 ?_ | refine n9 (by decide) ?_))
  simp only [RetG, go_sem]; (repeat (with_reducible refine And.intro ?_ ?_; (· first | trivial | omega | (simp <;> omega) | (simp +contextual; done) | (clear hK; grind))))
theorem rate_k {T : World → Prop} (Tk : KT T) (n : Nd) (l : List Int) (h0 : 0 < l.length) (hl : l.length ≤ 65536) : Cg Go.Proofs.Tryd.prog T 76 [] [.agg n.cs, .d (.row [.i .i64 0] (l.map intC))] (fun r H => H = [] ∧ r = .tup [.d (.i .i64 (n.grate l).1), .d (.b (n.grate l).2)]) := by
  refine Cg_of [] Tk.m Go.Proofs.Tryd.func76 rfl rfl Go.Proofs.Tryd.ntmps76 (by simp) rfl (rs := [.tmp 4, .tmp 5]) rfl fun E hP hn hT hpn => ?_
  (repeat (first | ((first | refine r1 ?_ | refine r2 ?_ | refine r3 ?_); intro K hK; simp only [go_sem, hP, hn]; (repeat (refine ⟨by first | trivial | omega | (simp <;> omega) | (simp +contextual; done) | (clear hK; grind), ?_⟩)); refine hK _ ?_; clear K hK) | refine Tr.seq ?_ | refine Tr.skip ?_ | refine Tr.label ?_ | refine Tr.block ?_ | refine Tr.scope ?_ | refine gs1 ?_ | refine gs2 ?_ | refine gs3 ?_ | refine Tr.exit ?_ | refine Tr.goto ?_ | refine Tr.ret ?_ | refine n1 ?_ | refine n2 ?_ | refine n3 ?_ | refine n4 ?_ | refine n5 ?_ | refine n6 ?_ | refine n7 ?_ | refine n8 ?_ | refine n9 (by decide) ?_))
  refine Tr.le (Le.keep [1, 2, 6]) ?_; simp only [List.map_cons, List.map_nil, lk, Nat.reduceEqDiff, reduceIte]
  refine Tr.le (Le.ren 6 1000 (by rw [hpn] <;> rfl) rfl rfl) ?_; simp only [renT, renH, renO, renS, renL, rn, go_sem, hP, hn]
  (first | refine r1 ?_ | refine r2 ?_ | refine r3 ?_); intro K hK; simp only [go_sem, hP, hn]; (repeat (refine ⟨by first | trivial | omega | (simp <;> omega) | (simp +contextual; done) | (clear hK; grind), ?_⟩)); refine c1 (by rw [hP, hT]; exact Span_k Tk n) rfl rfl rfl trivial (by simp only [go_sem, hP, hn]; try trivial) (by simp only [go_sem, hP, hn]; try rfl) (by rw [hn]; decide) (by rfl) ?_; simp only [go_sem, hP, hn]; (repeat (refine ⟨by first | trivial | omega | (simp <;> omega) | (simp +contextual; done) | (clear hK; grind), ?_⟩)); refine hK _ ?_; clear K hK
  refine Tr.le (Le.keep [1, 2, 6, 7]) ?_; simp only [List.map_cons, List.map_nil, lk, Nat.reduceEqDiff, reduceIte]
  (repeat (first | refine Tr.seq ?_ | refine Tr.skip ?_ | refine Tr.label ?_ | refine Tr.block ?_ | refine Tr.scope ?_ | refine gs1 ?_ | refine gs2 ?_ | refine gs3 ?_ | refine Tr.exit ?_ | refine Tr.goto ?_ | refine Tr.ret ?_ | refine n1 ?_ | refine n2 ?_ | refine n3 ?_ | refine n4 ?_ | refine n5 ?_ | refine n6 ?_ | refine n7 ?_ | refine n8 ?_ | refine n9 (by decide) ?_))
  (first | refine r1 ?_ | refine r2 ?_ | refine r3 ?_); intro K hK; simp only [go_sem, hP, hn]
  (repeat (refine ⟨by first | trivial | omega | (simp <;> omega) | (simp +contextual; done) | (clear hK; grind), ?_⟩))
  refine CallN_cs (Hi := [(1000, .box 3 [.d (.i .i64 (rd l 0))])] ) (by rw [hP, hT]; exact  rateAny_c Tk.m l (rd l 0) hl) rfl rfl rfl trivial (by simp only [go_sem, hP, hn]; try trivial) (by simp only [go_sem, hP, hn]; try rfl) (by simp only [inH, go_sem, hP, hn]; try simp) (by rw [hn]; decide) ?_; simp only [go_sem, hP, hn]; (repeat (refine ⟨by first | trivial | omega | (simp <;> omega) | (simp +contextual; done) | (clear hK; grind), ?_⟩))
  refine hK _ ?_; clear K hK
  refine Tr.cond rfl (fun h1 => ?_) (fun h1 => ?_)
  · (repeat (first | ((first | refine r1 ?_ | refine r2 ?_ | refine r3 ?_); intro K hK; simp only [go_sem, hP, hn]; (repeat (refine ⟨by first | trivial | omega | (simp <;> omega) | (simp +contextual; done) | (clear hK; grind), ?_⟩)); refine hK _ ?_; clear K hK) | refine Tr.seq ?_ | refine Tr.skip ?_ | refine Tr.label ?_ | refine Tr.block ?_ | refine Tr.scope ?_ | refine gs1 ?_ | refine gs2 ?_ | refine gs3 ?_ | refine Tr.exit ?_ | refine Tr.goto ?_ | refine Tr.ret ?_ | refine n1 ?_ | refine n2 ?_ | refine n3 ?_ | refine n4 ?_ | refine n5 ?_ | refine n6 ?_ | refine n7 ?_ | refine n8 ?_ | refine n9 (by decide) ?_))
    simp only [RetG, go_sem]; (repeat (with_reducible refine And.intro ?_ ?_; (· first | trivial | omega | (simp <;> omega) | (simp +contextual; done) | (clear hK; grind))))
    rw [show n.grate l = (0, false) from if_pos h1]
  (repeat (first | ((first | refine r1 ?_ | refine r2 ?_ | refine r3 ?_); intro K hK; simp only [go_sem, hP, hn]; (repeat (refine ⟨by first | trivial | omega | (simp <;> omega) | (simp +contextual; done) | (clear hK; grind), ?_⟩)); refine hK _ ?_; clear K hK) | refine Tr.seq ?_ | refine Tr.skip ?_ | refine Tr.label ?_ | refine Tr.block ?_ | refine Tr.scope ?_ | refine gs1 ?_ | refine gs2 ?_ | refine gs3 ?_ | refine Tr.exit ?_ | refine Tr.goto ?_ | refine Tr.ret ?_ | refine n1 ?_ | refine n2 ?_ | refine n3 ?_ | refine n4 ?_ | refine n5 ?_ | refine n6 ?_ | refine n7 ?_ | refine n8 ?_ | refine n9 (by decide) ?_))
  refine Tr.cond rfl (fun h2 => ?_) (fun h2 => ?_)
  · (repeat (first | ((first | refine r1 ?_ | refine r2 ?_ | refine r3 ?_); intro K hK; simp only [go_sem, hP, hn]; (repeat (refine ⟨by first | trivial | omega | (simp <;> omega) | (simp +contextual; done) | (clear hK; grind), ?_⟩)); refine hK _ ?_; clear K hK) | refine Tr.seq ?_ | refine Tr.skip ?_ | refine Tr.label ?_ | refine Tr.block ?_ | refine Tr.scope ?_ | refine gs1 ?_ | refine gs2 ?_ | refine gs3 ?_ | refine Tr.exit ?_ | refine Tr.goto ?_ | refine Tr.ret ?_ | refine n1 ?_ | refine n2 ?_ | refine n3 ?_ | refine n4 ?_ | refine n5 ?_ | refine n6 ?_ | refine n7 ?_ | refine n8 ?_ | refine n9 (by decide) ?_))
    simp only [RetG, go_sem]; (repeat (with_reducible refine And.intro ?_ ?_; (· first | trivial | omega | (simp <;> omega) | (simp +contextual; done) | (clear hK; grind))))
    rw [show n.grate l = (0, true) by unfold Nd.grate; rw [if_neg (by unfold Nd.gwin; rw [h1]; decide), if_pos h2]]
  (repeat (first | ((first | refine r1 ?_ | refine r2 ?_ | refine r3 ?_); intro K hK; simp only [go_sem, hP, hn]; (repeat (refine ⟨by first | trivial | omega | (simp <;> omega) | (simp +contextual; done) | (clear hK; grind), ?_⟩)); refine hK _ ?_; clear K hK) | refine Tr.seq ?_ | refine Tr.skip ?_ | refine Tr.label ?_ | refine Tr.block ?_ | refine Tr.scope ?_ | refine gs1 ?_ | refine gs2 ?_ | refine gs3 ?_ | refine Tr.exit ?_ | refine Tr.goto ?_ | refine Tr.ret ?_ | refine n1 ?_ | refine n2 ?_ | refine n3 ?_ | refine n4 ?_ | refine n5 ?_ | refine n6 ?_ | refine n7 ?_ | refine n8 ?_ | refine n9 (by decide) ?_))
  (first | refine d1 (.p true 0 (.p true 1 (.alt 2 (.p false 3 (.p false 4 (.p true 5 .nil))) .nil))) [] (by rw [hP]; kernel_rfl) (by kernel_rfl) (by simp only [go_sem, hP, hn]; try simp) (fun _ _ h => h) fun K hK => ?_ | refine d2 (.p true 0 (.p true 1 (.alt 2 (.p false 3 (.p false 4 (.p true 5 .nil))) .nil))) [] (by rw [hP]; kernel_rfl) (by kernel_rfl) (by simp only [go_sem, hP, hn]; try simp) (fun _ _ h => h) fun K hK => ?_ | refine d4 (.p true 0 (.p true 1 (.alt 2 (.p false 3 (.p false 4 (.p true 5 .nil))) .nil))) [] (by rw [hP]; kernel_rfl) (by kernel_rfl) (by simp only [go_sem, hP, hn]; try simp) (fun _ _ h => h) fun K hK => ?_); simp only [go_sem, hP, hn]; (repeat (refine ⟨by first | trivial | omega | (simp <;> omega) | (simp +contextual; done) | (clear hK; grind), ?_⟩)); refine p1 (by rw [hP, hT]; exact Step_k Tk n) rfl rfl rfl trivial (by simp only [go_sem, hP, hn]; try trivial) (by simp only [go_sem, hP, hn]; try rfl) (by rw [hn]; decide) (by rfl) ?_; simp only [go_sem, hP, hn]; (repeat (refine ⟨by first | trivial | omega | (simp <;> omega) | (simp +contextual; done) | (clear hK; grind), ?_⟩)); refine hK _ ?_; clear K hK
  (repeat (first | ((first | refine r1 ?_ | refine r2 ?_ | refine r3 ?_); intro K hK; simp only [go_sem, hP, hn]; (repeat (refine ⟨by first | trivial | omega | (simp <;> omega) | (simp +contextual; done) | (clear hK; grind), ?_⟩)); refine hK _ ?_; clear K hK) | refine Tr.seq ?_ | refine Tr.skip ?_ | refine Tr.label ?_ | refine Tr.block ?_ | refine Tr.scope ?_ | refine gs1 ?_ | refine gs2 ?_ | refine gs3 ?_ | refine Tr.exit ?_ | refine Tr.goto ?_ | refine Tr.ret ?_ | refine n1 ?_ | refine n2 ?_ | refine n3 ?_ | refine n4 ?_ | refine n5 ?_ | refine n6 ?_ | refine n7 ?_ | refine n8 ?_ | refine n9 (by decide) ?_))
  simp only [RetG, go_sem]; (repeat (with_reducible refine And.intro ?_ ?_; (· first | trivial | omega | (simp <;> omega) | (simp +contextual; done) | (clear hK; grind))))
  rw [show n.grate l = (wrap64 (rd l 0 * n.stp), true) by unfold Nd.grate; rw [if_neg (by unfold Nd.gwin; rw [h1]; decide), if_neg (by rw [h2]; decide)]]
section
/-! graph.ordered's closure, and slices' functions over it -/
theorem und109 : (Go.Proofs.Tryd.prog).underlying 109 = some (.map 3 3) := Go.Proofs.Tryd.underlying109
theorem und3 : (Go.Proofs.Tryd.prog).underlying 3 = some (.int .i64) := Go.Proofs.Tryd.underlying3
theorem zero3 (w : World) : (zeroValue 3).run Go.Proofs.Tryd.prog w = .ok (.int .i64 0) w := by rfl
def OB (m : List (Int × Int)) (n : Nat) : Hp := [(1000, .box 109 [.own 1001]), (1001, .mp (mapR Go.Proofs.Tryd.prog 3 3 n m))]
attribute [local go_sem] OB
theorem map0 (i : Int) : (mlook [(0, 0)] i).isSome = (i == 0 || ([] : List Int).contains i) := by
  simp only [mlook]
  by_cases e : (0 : Int) = i
  · subst e; rfl
  · rw [if_neg e, show (i == 0) = false by simpa using fun h : i = 0 => e h.symm]; rfl
theorem ordF_c {T : World → Prop} (Tm : TP T) (x : Int) (m : List (Int × Int)) (n : Nat) (hx : (Lit.int .i64 x).wf = true) : Cg Go.Proofs.Tryd.prog T 83 (OB m n) [.d (.i .i64 x), .ptr 1000 0] (fun v H => H = OB m n ∧ v = .d (.b !(mlook m x).isSome)) := by
  refine Cg_of [1000, 1001] Tm Go.Proofs.Tryd.func83 rfl rfl Go.Proofs.Tryd.ntmps83 (by simp) rfl (rs := [.tmp 3]) rfl fun E hP hn hT hpn => ?_
  (repeat (first | refine Tr.seq ?_ | refine Tr.skip ?_ | refine Tr.label ?_ | refine Tr.block ?_ | refine Tr.scope ?_ | refine gs1 ?_ | refine gs2 ?_ | refine gs3 ?_ | refine Tr.exit ?_ | refine Tr.goto ?_ | refine Tr.ret ?_ | refine n1 ?_ | refine n2 ?_ | refine n3 ?_ | refine n4 ?_ | refine n5 ?_ | refine n6 ?_ | refine n7 ?_ | refine n8 ?_ | refine n9 (by decide) ?_))
  (first | refine r1 ?_ | refine r2 ?_ | refine r3 ?_); intro K hK; simp only [go_sem, hP, hn]; (repeat (refine ⟨by first | trivial | omega | (simp <;> omega) | (simp +contextual; done) | (clear hK; grind), ?_⟩)); refine hK _ ?_; clear K hK
  (first | refine r1 ?_ | refine r2 ?_ | refine r3 ?_); intro K hK; simp only [go_sem, hP, hn]
  (repeat (refine ⟨by first | trivial | omega | (simp <;> omega) | (simp +contextual; done) | (clear hK; grind), ?_⟩))
  refine CallN_look (k := 3) (e := 3) rfl rfl (by rw [hn]; decide) rfl (by simp only [go_sem, hP, hn]; try trivial) rfl (by simp only [go_sem, hP, hn]; try trivial) hx (by rw [hP]; rfl) (by rw [hP]; exact und109) (by rw [hP]; exact und3) (by rw [hP]; exact und3) (by rw [hP]; exact zero3) ?_; simp only [go_sem, hP, hn]; (repeat (refine ⟨by first | trivial | omega | (simp <;> omega) | (simp +contextual; done) | (clear hK; grind), ?_⟩))
  refine hK _ ?_; clear K hK
  (repeat (first | ((first | refine r1 ?_ | refine r2 ?_ | refine r3 ?_); intro K hK; simp only [go_sem, hP, hn]; (repeat (refine ⟨by first | trivial | omega | (simp <;> omega) | (simp +contextual; done) | (clear hK; grind), ?_⟩)); refine hK _ ?_; clear K hK) | refine Tr.seq ?_ | refine Tr.skip ?_ | refine Tr.label ?_ | refine Tr.block ?_ | refine Tr.scope ?_ | refine gs1 ?_ | refine gs2 ?_ | refine gs3 ?_ | refine Tr.exit ?_ | refine Tr.goto ?_ | refine Tr.ret ?_ | refine n1 ?_ | refine n2 ?_ | refine n3 ?_ | refine n4 ?_ | refine n5 ?_ | refine n6 ?_ | refine n7 ?_ | refine n8 ?_ | refine n9 (by decide) ?_))
  simp only [RetG, go_sem]; (repeat (with_reducible refine And.intro ?_ ?_; (· first | trivial | omega | (simp <;> omega) | (simp +contextual; done) | (clear hK; grind))))
theorem ordIdx_c {T : World → Prop} (Tm : TP T) (l : List Int) (m : List (Int × Int)) (n : Nat) (hl : l.length ≤ 65536) (hx : ∀ x ∈ l, (Lit.int .i64 x).wf = true) : Cg Go.Proofs.Tryd.prog T 86 (OB m n) [.d (.row [.i .i64 0] (l.map intC)), .fn 83 [.ptr 1000 0]] (fun v H => H = OB m n ∧ ∃ j : Int, decide (0 ≤ j) = l.any (fun x => !(mlook m x).isSome) ∧ v = .d (.i .i64 j)) := by
  refine Cg_of [1000, 1001] Tm Go.Proofs.Tryd.func86 rfl rfl Go.Proofs.Tryd.ntmps86 (by simp) rfl (rs := [.tmp 4]) rfl fun E hP hn hT hpn => ?_
  (repeat (first | ((first | refine r1 ?_ | refine r2 ?_ | refine r3 ?_); intro K hK; simp only [go_sem, hP, hn]; (repeat (refine ⟨by first | trivial | omega | (simp <;> omega) | (simp +contextual; done) | (clear hK; grind), ?_⟩)); refine hK _ ?_; clear K hK) | refine Tr.seq ?_ | refine Tr.skip ?_ | refine Tr.label ?_ | refine Tr.block ?_ | refine Tr.scope ?_ | refine gs1 ?_ | refine gs2 ?_ | refine gs3 ?_ | refine Tr.exit ?_ | refine Tr.goto ?_ | refine Tr.ret ?_ | refine n1 ?_ | refine n2 ?_ | refine n3 ?_ | refine n4 ?_ | refine n5 ?_ | refine n6 ?_ | refine n7 ?_ | refine n8 ?_ | refine n9 (by decide) ?_))
  refine Tr.loop (fun m2 s => ∃ (j : Int), s = ⟨[(0, .d (.row [.i .i64 0] (l.map intC))), (1, .fn 83 [.ptr 1000 0]), (7, .d (.i .i64 l.length)), (8, .d (.i .i64 j))], OB m n⟩ ∧ 0 ≤ j ∧ j + m2 = l.length ∧ l.any (fun x => !(mlook m x).isSome) = (l.drop j.toNat).any (fun x => !(mlook m x).isSome)) l.length ⟨_, (Le.mv (by simp only [go_sem, hP, hn]; first | done | (simp; done) | (simp [intC]; done) | (repeat (first | rfl | constructor))) (by simp only [go_sem, hP, hn]; first | done | (simp; done) | (simp [intC]; done) | (repeat (first | rfl | constructor)))), 0, rfl, by omega, by omega, by simp⟩ ?_
  rintro m2 s ⟨j, rfl, hj0, hjm, hany⟩
  (repeat (first | ((first | refine r1 ?_ | refine r2 ?_ | refine r3 ?_); intro K hK; simp only [go_sem, hP, hn]; (repeat (refine ⟨by first | trivial | omega | (simp <;> omega) | (simp +contextual; done) | (clear hK; grind), ?_⟩)); refine hK _ ?_; clear K hK) | refine Tr.seq ?_ | refine Tr.skip ?_ | refine Tr.label ?_ | refine Tr.block ?_ | refine Tr.scope ?_ | refine gs1 ?_ | refine gs2 ?_ | refine gs3 ?_ | refine Tr.exit ?_ | refine Tr.goto ?_ | refine Tr.ret ?_ | refine n1 ?_ | refine n2 ?_ | refine n3 ?_ | refine n4 ?_ | refine n5 ?_ | refine n6 ?_ | refine n7 ?_ | refine n8 ?_ | refine n9 (by decide) ?_))
  refine Tr.cond rfl (fun hb => ?_) (fun hb => ?_)
  · have hj : j < l.length := by simpa using hb
    rw [drop_rd hj0 hj, List.any_cons] at hany
    (repeat (first | refine Tr.seq ?_ | refine Tr.skip ?_ | refine Tr.label ?_ | refine Tr.block ?_ | refine Tr.scope ?_ | refine gs1 ?_ | refine gs2 ?_ | refine gs3 ?_ | refine Tr.exit ?_ | refine Tr.goto ?_ | refine Tr.ret ?_ | refine n1 ?_ | refine n2 ?_ | refine n3 ?_ | refine n4 ?_ | refine n5 ?_ | refine n6 ?_ | refine n7 ?_ | refine n8 ?_ | refine n9 (by decide) ?_))
    (first | refine r1 ?_ | refine r2 ?_ | refine r3 ?_); intro K hK; simp only [go_sem, hP, hn]; (repeat (refine ⟨by first | trivial | omega | (simp <;> omega) | (simp +contextual; done) | (clear hK; grind), ?_⟩)); refine hK _ ?_; clear K hK
    (repeat (first | refine Tr.seq ?_ | refine Tr.skip ?_ | refine Tr.label ?_ | refine Tr.block ?_ | refine Tr.scope ?_ | refine gs1 ?_ | refine gs2 ?_ | refine gs3 ?_ | refine Tr.exit ?_ | refine Tr.goto ?_ | refine Tr.ret ?_ | refine n1 ?_ | refine n2 ?_ | refine n3 ?_ | refine n4 ?_ | refine n5 ?_ | refine n6 ?_ | refine n7 ?_ | refine n8 ?_ | refine n9 (by decide) ?_))
    (first | refine r1 ?_ | refine r2 ?_ | refine r3 ?_); intro K hK; simp only [go_sem, hP, hn]
    (repeat (refine ⟨by first | trivial | omega | (simp <;> omega) | (simp +contextual; done) | (clear hK; grind), ?_⟩))
    refine CallN_cs (Hi := OB m n ) (by rw [hP, hT]; exact  ordF_c Tm (rd l j) m n (hx _ (rd_mem hj0 hj))) rfl rfl rfl trivial (by simp only [go_sem, hP, hn]; try trivial) (by simp only [go_sem, hP, hn]; try rfl) (by simp only [inH, go_sem, hP, hn]; try simp) (by rw [hn]; decide) ?_; simp only [go_sem, hP, hn]; (repeat (refine ⟨by first | trivial | omega | (simp <;> omega) | (simp +contextual; done) | (clear hK; grind), ?_⟩))
    refine hK _ ?_; clear K hK
    refine Tr.cond rfl (fun hc => ?_) (fun hc => ?_)
    · (repeat (first | ((first | refine r1 ?_ | refine r2 ?_ | refine r3 ?_); intro K hK; simp only [go_sem, hP, hn]; (repeat (refine ⟨by first | trivial | omega | (simp <;> omega) | (simp +contextual; done) | (clear hK; grind), ?_⟩)); refine hK _ ?_; clear K hK) | refine Tr.seq ?_ | refine Tr.skip ?_ | refine Tr.label ?_ | refine Tr.block ?_ | refine Tr.scope ?_ | refine gs1 ?_ | refine gs2 ?_ | refine gs3 ?_ | refine Tr.exit ?_ | refine Tr.goto ?_ | refine Tr.ret ?_ | refine n1 ?_ | refine n2 ?_ | refine n3 ?_ | refine n4 ?_ | refine n5 ?_ | refine n6 ?_ | refine n7 ?_ | refine n8 ?_ | refine n9 (by decide) ?_))
      simp only [RetG, go_sem]; (repeat (with_reducible refine And.intro ?_ ?_; (· first | trivial | omega | (simp <;> omega) | (simp +contextual; done) | (clear hK; grind))))
      refine ⟨_, ?_, rfl⟩
      rw [hany, hc, Bool.true_or]; simpa using hj0
    · (repeat (first | ((first | refine r1 ?_ | refine r2 ?_ | refine r3 ?_); intro K hK; simp only [go_sem, hP, hn]; (repeat (refine ⟨by first | trivial | omega | (simp <;> omega) | (simp +contextual; done) | (clear hK; grind), ?_⟩)); refine hK _ ?_; clear K hK) | refine Tr.seq ?_ | refine Tr.skip ?_ | refine Tr.label ?_ | refine Tr.block ?_ | refine Tr.scope ?_ | refine gs1 ?_ | refine gs2 ?_ | refine gs3 ?_ | refine Tr.exit ?_ | refine Tr.goto ?_ | refine Tr.ret ?_ | refine n1 ?_ | refine n2 ?_ | refine n3 ?_ | refine n4 ?_ | refine n5 ?_ | refine n6 ?_ | refine n7 ?_ | refine n8 ?_ | refine n9 (by decide) ?_))
      rw [w64 (x := j + 1) (by omega) (by omega)]
      refine ⟨m2 - 1, _, by omega, ?_, j + 1, rfl, by omega, by omega, ?_⟩
      · exact (Le.mv (by simp only [go_sem, hP, hn]; first | done | (simp; done) | (simp [intC]; done) | (repeat (first | rfl | constructor))) (by simp only [go_sem, hP, hn]; first | done | (simp; done) | (simp [intC]; done) | (repeat (first | rfl | constructor))))
      rw [hany, hc, Bool.false_or]
  · rw [drop_end (by simpa using hb)] at hany
    (repeat (first | ((first | refine r1 ?_ | refine r2 ?_ | refine r3 ?_); intro K hK; simp only [go_sem, hP, hn]; (repeat (refine ⟨by first | trivial | omega | (simp <;> omega) | (simp +contextual; done) | (clear hK; grind), ?_⟩)); refine hK _ ?_; clear K hK) | refine Tr.seq ?_ | refine Tr.skip ?_ | refine Tr.label ?_ | refine Tr.block ?_ | refine Tr.scope ?_ | refine gs1 ?_ | refine gs2 ?_ | refine gs3 ?_ | refine Tr.exit ?_ | refine Tr.goto ?_ | refine Tr.ret ?_ | refine n1 ?_ | refine n2 ?_ | refine n3 ?_ | refine n4 ?_ | refine n5 ?_ | refine n6 ?_ | refine n7 ?_ | refine n8 ?_ | refine n9 (by decide) ?_))
    simp only [RetG, go_sem]; (repeat (with_reducible refine And.intro ?_ ?_; (· first | trivial | omega | (simp <;> omega) | (simp +contextual; done) | (clear hK; grind))))
    refine ⟨_, ?_, rfl⟩
    rw [hany]; rfl
theorem ordAny_c {T : World → Prop} (Tm : TP T) (l : List Int) (m : List (Int × Int)) (n : Nat) (hl : l.length ≤ 65536) (hx : ∀ x ∈ l, (Lit.int .i64 x).wf = true) : Cg Go.Proofs.Tryd.prog T 82 (OB m n) [.d (.row [.i .i64 0] (l.map intC)), .fn 83 [.ptr 1000 0]] (fun v H => H = OB m n ∧ v = .d (.b (l.any (fun x => !(mlook m x).isSome)))) := by
  refine Cg_of [1000, 1001] Tm Go.Proofs.Tryd.func82 rfl rfl Go.Proofs.Tryd.ntmps82 (by simp) rfl (rs := [.tmp 4]) rfl fun E hP hn hT hpn => ?_
  (repeat (first | refine Tr.seq ?_ | refine Tr.skip ?_ | refine Tr.label ?_ | refine Tr.block ?_ | refine Tr.scope ?_ | refine gs1 ?_ | refine gs2 ?_ | refine gs3 ?_ | refine Tr.exit ?_ | refine Tr.goto ?_ | refine Tr.ret ?_ | refine n1 ?_ | refine n2 ?_ | refine n3 ?_ | refine n4 ?_ | refine n5 ?_ | refine n6 ?_ | refine n7 ?_ | refine n8 ?_ | refine n9 (by decide) ?_))
  (first | refine r1 ?_ | refine r2 ?_ | refine r3 ?_); intro K hK; simp only [go_sem, hP, hn]; (repeat (refine ⟨by first | trivial | omega | (simp <;> omega) | (simp +contextual; done) | (clear hK; grind), ?_⟩)); refine hK _ ?_; clear K hK
  (first | refine r1 ?_ | refine r2 ?_ | refine r3 ?_); intro K hK; simp only [go_sem, hP, hn]
  (repeat (refine ⟨by first | trivial | omega | (simp <;> omega) | (simp +contextual; done) | (clear hK; grind), ?_⟩))
  refine CallN_cx (Hi := OB m n ) (by rw [hP, hT]; exact  ordIdx_c Tm l m n hl hx ) rfl rfl rfl trivial (by simp only [go_sem, hP, hn]; try trivial) (by simp only [go_sem, hP, hn]; try rfl) (by simp only [inH, go_sem, hP, hn]; try simp) (by rw [hn]; decide) (fun r Ho hr => ?_); obtain ⟨rfl, hr⟩ := hr; obtain  ⟨j, hj, rfl⟩ := hr; refine ⟨fun k hk => (by rw [newK_same] at hk; cases hk), ?_⟩; simp only [cgS, newK, touK, go_sem, hP, hn]; (repeat (refine ⟨by first | trivial | omega | (simp <;> omega) | (simp +contextual; done) | (clear hK; grind), ?_⟩))
  refine hK _ ?_; clear K hK
  rw [hj]
  (repeat (first | ((first | refine r1 ?_ | refine r2 ?_ | refine r3 ?_); intro K hK; simp only [go_sem, hP, hn]; (repeat (refine ⟨by first | trivial | omega | (simp <;> omega) | (simp +contextual; done) | (clear hK; grind), ?_⟩)); refine hK _ ?_; clear K hK) | refine Tr.seq ?_ | refine Tr.skip ?_ | refine Tr.label ?_ | refine Tr.block ?_ | refine Tr.scope ?_ | refine gs1 ?_ | refine gs2 ?_ | refine gs3 ?_ | refine Tr.exit ?_ | refine Tr.goto ?_ | refine Tr.ret ?_ | refine n1 ?_ | refine n2 ?_ | refine n3 ?_ | refine n4 ?_ | refine n5 ?_ | refine n6 ?_ | refine n7 ?_ | refine n8 ?_ | refine n9 (by decide) ?_))
  simp only [RetG, go_sem]; (repeat (with_reducible refine And.intro ?_ ?_; (· first | trivial | omega | (simp <;> omega) | (simp +contextual; done) | (clear hK; grind))))
theorem ordered_c {T : World → Prop} (Tm : TP T) (ns : List Nd) (hn : ns.length ≤ 12) (hin : ∀ n ∈ ns, n.inn.length ≤ 65536 ∧ ∀ j ∈ n.inn, 0 ≤ j ∧ j ≤ ns.length) : Cg Go.Proofs.Tryd.prog T 74 [] [.d (rowN ns)] (fun r H => H = [] ∧ r = .tup [.d (.row [.i .i64 0] ((order ns).map intC)), .d (.b ((order ns).length == ns.length))]) := by
  refine Cg_of [] Tm Go.Proofs.Tryd.func74 rfl rfl Go.Proofs.Tryd.ntmps74 (by simp) rfl (rs := [.tmp 2, .tmp 3]) rfl fun E hP hn hT hpn => ?_
  (repeat (first | refine Tr.seq ?_ | refine Tr.skip ?_ | refine Tr.label ?_ | refine Tr.block ?_ | refine Tr.scope ?_ | refine gs1 ?_ | refine gs2 ?_ | refine gs3 ?_ | refine Tr.exit ?_ | refine Tr.goto ?_ | refine Tr.ret ?_ | refine n1 ?_ | refine n2 ?_ | refine n3 ?_ | refine n4 ?_ | refine n5 ?_ | refine n6 ?_ | refine n7 ?_ | refine n8 ?_ | refine n9 (by decide) ?_))
  (first | refine r1 ?_ | refine r2 ?_ | refine r3 ?_); intro K hK; simp only [go_sem, hP, hn]; (repeat (refine ⟨by first | trivial | omega | (simp <;> omega) | (simp +contextual; done) | (clear hK; grind), ?_⟩)); refine hK _ ?_; clear K hK
  (repeat (first | refine Tr.seq ?_ | refine Tr.skip ?_ | refine Tr.label ?_ | refine Tr.block ?_ | refine Tr.scope ?_ | refine gs1 ?_ | refine gs2 ?_ | refine gs3 ?_ | refine Tr.exit ?_ | refine Tr.goto ?_ | refine Tr.ret ?_ | refine n1 ?_ | refine n2 ?_ | refine n3 ?_ | refine n4 ?_ | refine n5 ?_ | refine n6 ?_ | refine n7 ?_ | refine n8 ?_ | refine n9 (by decide) ?_))
  (first | refine r1 ?_ | refine r2 ?_ | refine r3 ?_); intro K hK; simp only [go_sem, hP, hn]
  refine CallN_mk (k := 3) (e := 3) rfl rfl (by rw [hn]; decide) ?_; simp only [go_sem, hP, hn]; (repeat (refine ⟨by first | trivial | omega | (simp <;> omega) | (simp +contextual; done) | (clear hK; grind), ?_⟩))
  refine CallN_put (k := 3) (e := 3) (by first | exact .inl rfl | exact .inr rfl) rfl rfl (by simp only [go_sem, hP, hn]; try trivial) rfl (by simp only [go_sem, hP, hn]; try trivial) (by decide) rfl (by simp only [go_sem, hP, hn]; try trivial) (by decide) (by rw [hP]; rfl) (by rw [hP]; exact und109) (by rw [hP]; exact und3) (by rw [hP]; exact und3) (by decide) ?_; simp only [hP]; simp only [go_sem, hP, hn]; (repeat (refine ⟨by first | trivial | omega | (simp <;> omega) | (simp +contextual; done) | (clear hK; grind), ?_⟩))
  refine hK _ ?_; clear K hK
  (repeat (first | ((first | refine r1 ?_ | refine r2 ?_ | refine r3 ?_); intro K hK; simp only [go_sem, hP, hn]; (repeat (refine ⟨by first | trivial | omega | (simp <;> omega) | (simp +contextual; done) | (clear hK; grind), ?_⟩)); refine hK _ ?_; clear K hK) | refine Tr.seq ?_ | refine Tr.skip ?_ | refine Tr.label ?_ | refine Tr.block ?_ | refine Tr.scope ?_ | refine gs1 ?_ | refine gs2 ?_ | refine gs3 ?_ | refine Tr.exit ?_ | refine Tr.goto ?_ | refine Tr.ret ?_ | refine n1 ?_ | refine n2 ?_ | refine n3 ?_ | refine n4 ?_ | refine n5 ?_ | refine n6 ?_ | refine n7 ?_ | refine n8 ?_ | refine n9 (by decide) ?_))
  refine Tr.le (Le.keep [0, 4, 5, 12, 13, 14]) ?_; simp only [List.map_cons, List.map_nil, lk, Nat.reduceEqDiff, reduceIte]
  refine Tr.le (Le.ren 10 1001 (by rw [hpn] <;> rfl) rfl rfl) ?_; simp only [renT, renH, renO, renS, renL, rn, go_sem, hP, hn]
  refine Tr.le (Le.ren 4 1000 (by rw [hpn] <;> rfl) rfl rfl) ?_; simp only [renT, renH, renO, renS, renL, rn, go_sem, hP, hn]
  refine Tr.le (Le.nilslot 3001 5 3 [.i .i64 0] rfl (by rw [hpn] <;> rfl) rfl rfl) ?_
  refine Tr.loop (fun m s => ∃ (k : Int) (o : List Int) (mm : List (Int × Int)), s = ⟨[(0, .d (rowN ns)), (4, .ptr 1000 0), (5, .own 3001), (13, .d (.i .i64 ns.length)), (14, .d (.i .i64 k))], [(3001, .row 3 [.i .i64 0] (o.map intC)), (1000, .box 109 [.own 1001]), (1001, .mp (mapR Go.Proofs.Tryd.prog 3 3 (o.length + 1) mm))]⟩ ∧ 0 ≤ k ∧ k + m = ns.length ∧ order ns = ordR ns m o ∧ (∀ i, (mlook mm i).isSome = (i == 0 || o.contains i)) ∧ (o.length : Int) ≤ k) ns.length ⟨_, (Le.mv (by simp only [go_sem, hP, hn]; first | done | (simp; done) | (simp [intC]; done) | (repeat (first | rfl | constructor))) (by simp only [go_sem, hP, hn]; first | done | (simp; done) | (simp [intC]; done) | (repeat (first | rfl | constructor)))), 0, [], [(0, 0)], rfl, by omega, by omega, rfl, map0, by simp⟩ ?_
  rintro m s ⟨k, o, mm, rfl, hk0, hkm, hord, hmap, hok⟩
  (repeat (first | ((first | refine r1 ?_ | refine r2 ?_ | refine r3 ?_); intro K hK; simp only [go_sem, hP, hn]; (repeat (refine ⟨by first | trivial | omega | (simp <;> omega) | (simp +contextual; done) | (clear hK; grind), ?_⟩)); refine hK _ ?_; clear K hK) | refine Tr.seq ?_ | refine Tr.skip ?_ | refine Tr.label ?_ | refine Tr.block ?_ | refine Tr.scope ?_ | refine gs1 ?_ | refine gs2 ?_ | refine gs3 ?_ | refine Tr.exit ?_ | refine Tr.goto ?_ | refine Tr.ret ?_ | refine n1 ?_ | refine n2 ?_ | refine n3 ?_ | refine n4 ?_ | refine n5 ?_ | refine n6 ?_ | refine n7 ?_ | refine n8 ?_ | refine n9 (by decide) ?_))
  refine Tr.cond rfl (fun hb => ?_) (fun hb => ?_)
  · have hk : k < ns.length := by simpa using hb
    (repeat (first | ((first | refine r1 ?_ | refine r2 ?_ | refine r3 ?_); intro K hK; simp only [go_sem, hP, hn]; (repeat (refine ⟨by first | trivial | omega | (simp <;> omega) | (simp +contextual; done) | (clear hK; grind), ?_⟩)); refine hK _ ?_; clear K hK) | refine Tr.seq ?_ | refine Tr.skip ?_ | refine Tr.label ?_ | refine Tr.block ?_ | refine Tr.scope ?_ | refine gs1 ?_ | refine gs2 ?_ | refine gs3 ?_ | refine Tr.exit ?_ | refine Tr.goto ?_ | refine Tr.ret ?_ | refine n1 ?_ | refine n2 ?_ | refine n3 ?_ | refine n4 ?_ | refine n5 ?_ | refine n6 ?_ | refine n7 ?_ | refine n8 ?_ | refine n9 (by decide) ?_))
    refine Tr.le (Le.keep [0, 4, 5, 13, 14, 16, 17, 18]) ?_; simp only [List.map_cons, List.map_nil, lk, Nat.reduceEqDiff, reduceIte]
    have hnx0 : order ns = match nextO ns o ns.length 1 with
      | none => ordR ns (m - 1) o
      | some i => ordR ns (m - 1) (o ++ [i]) := by
      rw [hord]
      obtain ⟨m', rfl⟩ : ∃ m', m = m' + 1 := ⟨m - 1, by omega⟩
      rfl
    refine Tr.loop (fun m2 s => ∃ (i : Int), s = ⟨[(0, .d (rowN ns)), (4, .ptr 1000 0), (5, .own 3001), (13, .d (.i .i64 ns.length)), (14, .d (.i .i64 k)), (16, .d (rowN ns)), (17, .d (.i .i64 ns.length)), (18, .d (.i .i64 i))], [(3001, .row 3 [.i .i64 0] (o.map intC)), (1000, .box 109 [.own 1001]), (1001, .mp (mapR Go.Proofs.Tryd.prog 3 3 (o.length + 1) mm))]⟩ ∧ 0 ≤ i ∧ i + m2 = ns.length ∧ nextO ns o ns.length 1 = nextO ns o m2 (i + 1)) ns.length ⟨_, (Le.mv (by simp only [go_sem, hP, hn]; first | done | (simp; done) | (simp [intC]; done) | (repeat (first | rfl | constructor))) (by simp only [go_sem, hP, hn]; first | done | (simp; done) | (simp [intC]; done) | (repeat (first | rfl | constructor)))), 0, rfl, by omega, by omega, rfl⟩ ?_
    rintro m2 s ⟨i, rfl, hi0, him, hnx⟩
    (repeat (first | ((first | refine r1 ?_ | refine r2 ?_ | refine r3 ?_); intro K hK; simp only [go_sem, hP, hn]; (repeat (refine ⟨by first | trivial | omega | (simp <;> omega) | (simp +contextual; done) | (clear hK; grind), ?_⟩)); refine hK _ ?_; clear K hK) | refine Tr.seq ?_ | refine Tr.skip ?_ | refine Tr.label ?_ | refine Tr.block ?_ | refine Tr.scope ?_ | refine gs1 ?_ | refine gs2 ?_ | refine gs3 ?_ | refine Tr.exit ?_ | refine Tr.goto ?_ | refine Tr.ret ?_ | refine n1 ?_ | refine n2 ?_ | refine n3 ?_ | refine n4 ?_ | refine n5 ?_ | refine n6 ?_ | refine n7 ?_ | refine n8 ?_ | refine n9 (by decide) ?_))
    refine Tr.cond rfl (fun hc => ?_) (fun hc => ?_)
    · have hin1 : i < ns.length := by simpa using hc
      obtain ⟨m3, rfl⟩ : ∃ m3, m2 = m3 + 1 := ⟨m2 - 1, by omega⟩
      have hnd := rw_nd ns i hi0 hin1
      have hq := hin _ (nd_mem hi0 hin1)
      have hmay : mayO ns o (i + 1) = (!o.contains (i + 1) && (nd ns i).inn.all fun j => j == 0 || o.contains j) := by unfold mayO; rw [show i + 1 - 1 = i by omega]
      have hi1 : wrap64 (i + 1) = i + 1 := w64 (by omega) (by omega)
      have hwf : ∀ x : Int, 0 ≤ x → x ≤ 100 → (Lit.int .i64 x).wf = true := fun x h0 h1 => by
        
        rw [show (Lit.int .i64 x).wf = (decide ((-9223372036854775808 : Int) ≤ x) && decide (x ≤ 9223372036854775807)) from rfl, Bool.and_eq_true, decide_eq_true_eq, decide_eq_true_eq]; omega
      have hB : ((mlook mm (i + 1)).isSome || (nd ns i).inn.any fun x => !(mlook mm x).isSome) = !mayO ns o (i + 1) := by
        rw [hmay, hmap, show (i + 1 == (0 : Int)) = false by simpa using (by omega : i + 1 ≠ 0)]
        simp only [hmap, Bool.false_or, ← List.not_all_eq_any_not]
        cases o.contains (i + 1) <;> cases ((nd ns i).inn.all fun j => j == 0 || o.contains j) <;> rfl
      clear hmay
      (repeat (first | refine Tr.seq ?_ | refine Tr.skip ?_ | refine Tr.label ?_ | refine Tr.block ?_ | refine Tr.scope ?_ | refine gs1 ?_ | refine gs2 ?_ | refine gs3 ?_ | refine Tr.exit ?_ | refine Tr.goto ?_ | refine Tr.ret ?_ | refine n1 ?_ | refine n2 ?_ | refine n3 ?_ | refine n4 ?_ | refine n5 ?_ | refine n6 ?_ | refine n7 ?_ | refine n8 ?_ | refine n9 (by decide) ?_))
      (first | refine r1 ?_ | refine r2 ?_ | refine r3 ?_); intro K hK; simp only [hnd, go_sem, hP, hn]; (repeat (refine ⟨by first | trivial | omega | (simp <;> omega) | (simp +contextual; done) | (clear hK; grind), ?_⟩)); refine hK _ ?_; clear K hK
      generalize nd ns i = q at hq hB ⊢
      refine Tr.le (Le.keep [0, 4, 5, 6, 7, 13, 14, 16, 17, 18]) ?_; simp only [List.map_cons, List.map_nil, lk, Nat.reduceEqDiff, reduceIte]
      (repeat (first | refine Tr.seq ?_ | refine Tr.skip ?_ | refine Tr.label ?_ | refine Tr.block ?_ | refine Tr.scope ?_ | refine gs1 ?_ | refine gs2 ?_ | refine gs3 ?_ | refine Tr.exit ?_ | refine Tr.goto ?_ | refine Tr.ret ?_ | refine n1 ?_ | refine n2 ?_ | refine n3 ?_ | refine n4 ?_ | refine n5 ?_ | refine n6 ?_ | refine n7 ?_ | refine n8 ?_ | refine n9 (by decide) ?_))
      (first | refine r1 ?_ | refine r2 ?_ | refine r3 ?_); intro K hK; simp only [hi1, go_sem, hP, hn]
      (repeat (refine ⟨by first | trivial | omega | (simp <;> omega) | (simp +contextual; done) | (clear hK; grind), ?_⟩))
      refine CallN_look (k := 3) (e := 3) rfl rfl (by rw [hn]; decide) rfl (by simp only [go_sem, hP, hn]; try trivial) rfl (by simp only [go_sem, hP, hn]; try trivial) (hwf _ (by omega) (by omega)) (by rw [hP]; rfl) (by rw [hP]; exact und109) (by rw [hP]; exact und3) (by rw [hP]; exact und3) (by rw [hP]; exact zero3) ?_; simp only [go_sem, hP, hn]; (repeat (refine ⟨by first | trivial | omega | (simp <;> omega) | (simp +contextual; done) | (clear hK; grind), ?_⟩))
      refine hK _ ?_; clear K hK
      refine Tr.le (Le.keep [0, 4, 5, 6, 7, 9, 13, 14, 16, 17, 18]) ?_; simp only [List.map_cons, List.map_nil, lk, Nat.reduceEqDiff, reduceIte]
      (repeat (first | refine Tr.seq ?_ | refine Tr.skip ?_ | refine Tr.label ?_ | refine Tr.block ?_ | refine Tr.scope ?_ | refine gs1 ?_ | refine gs2 ?_ | refine gs3 ?_ | refine Tr.exit ?_ | refine Tr.goto ?_ | refine Tr.ret ?_ | refine n1 ?_ | refine n2 ?_ | refine n3 ?_ | refine n4 ?_ | refine n5 ?_ | refine n6 ?_ | refine n7 ?_ | refine n8 ?_ | refine n9 (by decide) ?_))
      (first | refine r1 ?_ | refine r2 ?_ | refine r3 ?_); intro K hK; simp only [go_sem, hP, hn]
      (repeat (refine ⟨by first | trivial | omega | (simp <;> omega) | (simp +contextual; done) | (clear hK; grind), ?_⟩))
      refine CallN_gs (Hi := OB mm (o.length + 1) ) (fun hg => by rw [hP, hT]; exact  ordAny_c Tm q.inn mm (o.length + 1) (by omega) (fun x hx => hwf x (by have := hq.2 x hx; omega) (by have := hq.2 x hx; omega))) rfl rfl rfl (fun hg => trivial) (fun hg => by clear hK; revert hg; simp only [go_sem, hP, hn] <;> first | trivial | omega | (simp; done) | (simp +contextual; done) | grind) (fun hg => by simp only [go_sem, hP, hn]; try rfl) (by simp only [inH, go_sem, hP, hn]; try simp) (by rw [hn]; decide) ?_; simp only [go_sem, hP, hn]; (repeat (refine ⟨by first | trivial | omega | (simp <;> omega) | (simp +contextual; done) | (clear hK; grind), ?_⟩))
      refine hK _ ?_; clear K hK
      refine Tr.cond rfl (fun hd => ?_) (fun hd => ?_)
      · (repeat (first | ((first | refine r1 ?_ | refine r2 ?_ | refine r3 ?_); intro K hK; simp only [go_sem, hP, hn]; (repeat (refine ⟨by first | trivial | omega | (simp <;> omega) | (simp +contextual; done) | (clear hK; grind), ?_⟩)); refine hK _ ?_; clear K hK) | refine Tr.seq ?_ | refine Tr.skip ?_ | refine Tr.label ?_ | refine Tr.block ?_ | refine Tr.scope ?_ | refine gs1 ?_ | refine gs2 ?_ | refine gs3 ?_ | refine Tr.exit ?_ | refine Tr.goto ?_ | refine Tr.ret ?_ | refine n1 ?_ | refine n2 ?_ | refine n3 ?_ | refine n4 ?_ | refine n5 ?_ | refine n6 ?_ | refine n7 ?_ | refine n8 ?_ | refine n9 (by decide) ?_))
        rw [hi1]
        refine ⟨m3, _, by omega, ?_, i + 1, rfl, by omega, by omega, ?_⟩
        · exact (Le.mv (by simp only [go_sem, hP, hn]; first | done | (simp; done) | (simp [intC]; done) | (repeat (first | rfl | constructor))) (by simp only [go_sem, hP, hn]; first | done | (simp; done) | (simp [intC]; done) | (repeat (first | rfl | constructor))))
        · rw [hnx]; show (if mayO ns o (i + 1) = true then _ else _) = _; rw [if_neg (by rw [hB] at hd; intro h; rw [h] at hd; cases hd)]
      · (repeat (first | refine Tr.seq ?_ | refine Tr.skip ?_ | refine Tr.label ?_ | refine Tr.block ?_ | refine Tr.scope ?_ | refine gs1 ?_ | refine gs2 ?_ | refine gs3 ?_ | refine Tr.exit ?_ | refine Tr.goto ?_ | refine Tr.ret ?_ | refine n1 ?_ | refine n2 ?_ | refine n3 ?_ | refine n4 ?_ | refine n5 ?_ | refine n6 ?_ | refine n7 ?_ | refine n8 ?_ | refine n9 (by decide) ?_))
        (first | refine r1 ?_ | refine r2 ?_ | refine r3 ?_); intro K hK; simp only [hi1, go_sem, hP, hn]
        (repeat (refine ⟨by first | trivial | omega | (simp <;> omega) | (simp +contextual; done) | (clear hK; grind), ?_⟩))
        refine CallN_put (k := 3) (e := 3) (by first | exact .inl rfl | exact .inr rfl) rfl rfl (by simp only [go_sem, hP, hn]; try trivial) rfl (by simp only [go_sem, hP, hn]; try trivial) (hwf _ (by omega) (by omega)) rfl (by simp only [go_sem, hP, hn]; try trivial) (hwf _ (by omega) (by omega)) (by rw [hP]; rfl) (by rw [hP]; exact und109) (by rw [hP]; exact und3) (by rw [hP]; exact und3) (by have := mln; omega) ?_; simp only [hP]; simp only [go_sem, hP, hn]; (repeat (refine ⟨by first | trivial | omega | (simp <;> omega) | (simp +contextual; done) | (clear hK; grind), ?_⟩))
        refine hK _ ?_; clear K hK
        (repeat (first | ((first | refine r1 ?_ | refine r2 ?_ | refine r3 ?_); intro K hK; simp only [go_sem, hP, hn]; (repeat (refine ⟨by first | trivial | omega | (simp <;> omega) | (simp +contextual; done) | (clear hK; grind), ?_⟩)); refine hK _ ?_; clear K hK) | refine Tr.seq ?_ | refine Tr.skip ?_ | refine Tr.label ?_ | refine Tr.block ?_ | refine Tr.scope ?_ | refine gs1 ?_ | refine gs2 ?_ | refine gs3 ?_ | refine Tr.exit ?_ | refine Tr.goto ?_ | refine Tr.ret ?_ | refine n1 ?_ | refine n2 ?_ | refine n3 ?_ | refine n4 ?_ | refine n5 ?_ | refine n6 ?_ | refine n7 ?_ | refine n8 ?_ | refine n9 (by decide) ?_))
        rw [w64 (x := k + 1) (by omega) (by omega), hi1]
        have hmy : mayO ns o (i + 1) = true := by rw [hB] at hd; cases h : mayO ns o (i + 1) <;> simp_all
        refine ⟨m - 1, _, by omega, ?_, k + 1, o ++ [i + 1], (i + 1, (o.length : Int)) :: mm, rfl, by omega, by omega, ?_, ?_, ?_⟩
        · rw [show (o ++ [i + 1]).length + 1 = o.length + 1 + 1 by simp]
          refine Le.trans (b := ⟨[(0, .d (rowN ns)), (4, .ptr 1000 0), (5, .own 46), (13, .d (.i .i64 ns.length)), (14, .d (.i .i64 (k + 1)))], [(46, .row 3 [.i .i64 0] ((o ++ [i + 1]).map intC)), (1000, .box 109 [.own 1001]), (1001, .mp (mapR Go.Proofs.Tryd.prog 3 3 (o.length + 1 + 1) ((i + 1, (o.length : Int)) :: mm)))]⟩) (Le.mv (by simp only [go_sem, hP, hn]; first | done | (simp; done) | (simp [intC]; done) | (repeat (first | rfl | constructor))) (by simp only [go_sem, hP, hn]; first | done | (simp; done) | (simp [intC]; done) | (repeat (first | rfl | constructor)))) ?_
          refine Le.trans (Le.ren 46 3001 (by rw [hpn] <;> rfl) rfl rfl) ?_; simp only [renT, renH, renO, renS, renL, rn, go_sem, hP, hn]
          exact (Le.mv (by simp only [go_sem, hP, hn]; first | done | (simp; done) | (simp [intC]; done) | (repeat (first | rfl | constructor))) (by simp only [go_sem, hP, hn]; first | done | (simp; done) | (simp [intC]; done) | (repeat (first | rfl | constructor))))
        · rw [hnx0, hnx]; show (match (if mayO ns o (i + 1) = true then some (i + 1) else _) with | none => _ | some i => _) = _; rw [if_pos hmy]
        · intro j
          simp only [mlook, List.contains_append, List.contains_cons, List.contains_nil, Bool.or_false]
          by_cases e : i + 1 = j
          · subst e; simp
          · rw [if_neg e, hmap j, show (j == i + 1) = false by simpa using fun h : j = i + 1 => e h.symm]; simp
        · simp; omega
    · (repeat (first | ((first | refine r1 ?_ | refine r2 ?_ | refine r3 ?_); intro K hK; simp only [go_sem, hP, hn]; (repeat (refine ⟨by first | trivial | omega | (simp <;> omega) | (simp +contextual; done) | (clear hK; grind), ?_⟩)); refine hK _ ?_; clear K hK) | refine Tr.seq ?_ | refine Tr.skip ?_ | refine Tr.label ?_ | refine Tr.block ?_ | refine Tr.scope ?_ | refine gs1 ?_ | refine gs2 ?_ | refine gs3 ?_ | refine Tr.exit ?_ | refine Tr.goto ?_ | refine Tr.ret ?_ | refine n1 ?_ | refine n2 ?_ | refine n3 ?_ | refine n4 ?_ | refine n5 ?_ | refine n6 ?_ | refine n7 ?_ | refine n8 ?_ | refine n9 (by decide) ?_))
      rw [w64 (x := k + 1) (by omega) (by omega)]
      have hm2 : m2 = 0 := by have := of_decide_eq_false hc; omega
      subst hm2
      refine ⟨m - 1, _, by omega, ?_, k + 1, o, mm, rfl, by omega, by omega, ?_, hmap, by omega⟩
      · exact (Le.mv (by simp only [go_sem, hP, hn]; first | done | (simp; done) | (simp [intC]; done) | (repeat (first | rfl | constructor))) (by simp only [go_sem, hP, hn]; first | done | (simp; done) | (simp [intC]; done) | (repeat (first | rfl | constructor))))
      · rw [hnx0, hnx]; rfl
  · (repeat (first | ((first | refine r1 ?_ | refine r2 ?_ | refine r3 ?_); intro K hK; simp only [go_sem, hP, hn]; (repeat (refine ⟨by first | trivial | omega | (simp <;> omega) | (simp +contextual; done) | (clear hK; grind), ?_⟩)); refine hK _ ?_; clear K hK) | refine Tr.seq ?_ | refine Tr.skip ?_ | refine Tr.label ?_ | refine Tr.block ?_ | refine Tr.scope ?_ | refine gs1 ?_ | refine gs2 ?_ | refine gs3 ?_ | refine Tr.exit ?_ | refine Tr.goto ?_ | refine Tr.ret ?_ | refine n1 ?_ | refine n2 ?_ | refine n3 ?_ | refine n4 ?_ | refine n5 ?_ | refine n6 ?_ | refine n7 ?_ | refine n8 ?_ | refine n9 (by decide) ?_))
    simp only [RetG, go_sem]; (repeat (with_reducible refine And.intro ?_ ?_; (· first | trivial | omega | (simp <;> omega) | (simp +contextual; done) | (clear hK; grind))))
    have hm : m = 0 := by have := of_decide_eq_false hb; omega
    subst hm
    rw [hord, show ((o.length : Int) == (ns.length : Int)) = (o.length == ns.length) by rw [Bool.eq_iff_iff]; simp; omega]
    rfl
end
def ltup (q : Int × List Int × List Int × List Int) : S := .tup [.agg [.d (.row [.i .i64 0] (q.2.1.map intC)), .d (.row [.i .i64 0] (q.2.2.1.map intC)), .d (.row [.i .i64 0] (q.2.2.2.map intC))], .d (.i .i64 q.1)]
theorem lookL_cons (ns : List Nd) (i : Int) (r W R : List Int) : lookL ns (i :: r) W R = if ((nd ns (i - 1)).chk ((nd ns (i - 1)).inn.map (rd W)) != 0) = true then ((nd ns (i - 1)).chk ((nd ns (i - 1)).inn.map (rd W)), [], [])
    else if (!((nd ns (i - 1)).grate ((nd ns (i - 1)).inn.map (rd R))).2) = true then (15, [], [])
    else lookL ns r (W.set i.toNat ((nd ns (i - 1)).wide ((nd ns (i - 1)).inn.map (rd W)))) (R.set i.toNat ((nd ns (i - 1)).grate ((nd ns (i - 1)).inn.map (rd R))).1) := rfl
theorem look_c {T : World → Prop} (Tk : KT T) (wd lo hi out : Int) (ns : List Nd) (hns : ns.length ≤ 65536) (hin : ∀ n ∈ ns, n.inn.length ≤ 4096 ∧ n.ws.length ≤ 65536 ∧ n.bs.length ≤ 65536) : Cg Go.Proofs.Tryd.prog T 49 [] [.agg (gcs wd lo hi out (.d (rowN ns)))] (fun r H => H = [] ∧ r = ltup (lookG wd lo hi out ns)) := by
  refine Cg_of [] Tk.m Go.Proofs.Tryd.func49 rfl rfl Go.Proofs.Tryd.ntmps49 (by simp) rfl (rs := [.cell 2 76, .tmp 3]) rfl fun E hP hn hT hpn => ?_
  (repeat (first | refine Tr.seq ?_ | refine Tr.skip ?_ | refine Tr.label ?_ | refine Tr.block ?_ | refine Tr.scope ?_ | refine gs1 ?_ | refine gs2 ?_ | refine gs3 ?_ | refine Tr.exit ?_ | refine Tr.goto ?_ | refine Tr.ret ?_ | refine n1 ?_ | refine n2 ?_ | refine n3 ?_ | refine n4 ?_ | refine n5 ?_ | refine n6 ?_ | refine n7 ?_ | refine n8 ?_ | refine n9 (by decide) ?_))
  (first | refine r1 ?_ | refine r2 ?_ | refine r3 ?_); intro K hK; simp only [go_sem, hP, hn]; (repeat (refine ⟨by first | trivial | omega | (simp <;> omega) | (simp +contextual; done) | (clear hK; grind), ?_⟩)); refine hK _ ?_; clear K hK
  (repeat (first | refine Tr.seq ?_ | refine Tr.skip ?_ | refine Tr.label ?_ | refine Tr.block ?_ | refine Tr.scope ?_ | refine gs1 ?_ | refine gs2 ?_ | refine gs3 ?_ | refine Tr.exit ?_ | refine Tr.goto ?_ | refine Tr.ret ?_ | refine n1 ?_ | refine n2 ?_ | refine n3 ?_ | refine n4 ?_ | refine n5 ?_ | refine n6 ?_ | refine n7 ?_ | refine n8 ?_ | refine n9 (by decide) ?_))
  (first | refine r1 ?_ | refine r2 ?_ | refine r3 ?_); intro K hK; simp only [go_sem, hP, hn]
  (repeat (refine ⟨by first | trivial | omega | (simp <;> omega) | (simp +contextual; done) | (clear hK; grind), ?_⟩))
  refine c1 (by rw [hP, hT]; exact may_c Tk.m wd lo hi out ns hns (fun n h => by have := hin n h; omega)) rfl rfl rfl trivial (by simp only [go_sem, hP, hn]; try trivial) (by simp only [go_sem, hP, hn]; try rfl) (by rw [hn]; decide) (by rfl) ?_; simp only [go_sem, hP, hn]; (repeat (refine ⟨by first | trivial | omega | (simp <;> omega) | (simp +contextual; done) | (clear hK; grind), ?_⟩))
  refine hK _ ?_; clear K hK
  (repeat (first | ((first | refine r1 ?_ | refine r2 ?_ | refine r3 ?_); intro K hK; simp only [go_sem, hP, hn]; (repeat (refine ⟨by first | trivial | omega | (simp <;> omega) | (simp +contextual; done) | (clear hK; grind), ?_⟩)); refine hK _ ?_; clear K hK) | refine Tr.seq ?_ | refine Tr.skip ?_ | refine Tr.label ?_ | refine Tr.block ?_ | refine Tr.scope ?_ | refine gs1 ?_ | refine gs2 ?_ | refine gs3 ?_ | refine Tr.exit ?_ | refine Tr.goto ?_ | refine Tr.ret ?_ | refine n1 ?_ | refine n2 ?_ | refine n3 ?_ | refine n4 ?_ | refine n5 ?_ | refine n6 ?_ | refine n7 ?_ | refine n8 ?_ | refine n9 (by decide) ?_))
  refine Tr.cond rfl (fun h1 => ?_) (fun h1 => ?_)
  · (repeat (first | refine Tr.seq ?_ | refine Tr.skip ?_ | refine Tr.label ?_ | refine Tr.block ?_ | refine Tr.scope ?_ | refine gs1 ?_ | refine gs2 ?_ | refine gs3 ?_ | refine Tr.exit ?_ | refine Tr.goto ?_ | refine Tr.ret ?_ | refine n1 ?_ | refine n2 ?_ | refine n3 ?_ | refine n4 ?_ | refine n5 ?_ | refine n6 ?_ | refine n7 ?_ | refine n8 ?_ | refine n9 (by decide) ?_))
    (first | refine r1 ?_ | refine r2 ?_ | refine r3 ?_); intro K hK; simp only [go_sem, hP, hn]; (repeat (refine ⟨by first | trivial | omega | (simp <;> omega) | (simp +contextual; done) | (clear hK; grind), ?_⟩)); refine hK _ ?_; clear K hK
    refine Tr.le (Le.wbox 2 [.d (.row [.i .i64 0] []), .d (.row [.i .i64 0] []), .d (.row [.i .i64 0] [])] rfl (by simp [wk])) ?_; simp only [go_sem, hP, hn]
    (repeat (first | ((first | refine r1 ?_ | refine r2 ?_ | refine r3 ?_); intro K hK; simp only [go_sem, hP, hn]; (repeat (refine ⟨by first | trivial | omega | (simp <;> omega) | (simp +contextual; done) | (clear hK; grind), ?_⟩)); refine hK _ ?_; clear K hK) | refine Tr.seq ?_ | refine Tr.skip ?_ | refine Tr.label ?_ | refine Tr.block ?_ | refine Tr.scope ?_ | refine gs1 ?_ | refine gs2 ?_ | refine gs3 ?_ | refine Tr.exit ?_ | refine Tr.goto ?_ | refine Tr.ret ?_ | refine n1 ?_ | refine n2 ?_ | refine n3 ?_ | refine n4 ?_ | refine n5 ?_ | refine n6 ?_ | refine n7 ?_ | refine n8 ?_ | refine n9 (by decide) ?_))
    simp only [RetG, go_sem]; (repeat (with_reducible refine And.intro ?_ ?_; (· first | trivial | omega | (simp <;> omega) | (simp +contextual; done) | (clear hK; grind))))
    rw [show lookG wd lo hi out ns = (mayG wd lo hi out ns, [], [], []) from if_pos h1]; rfl
  have hmay : mayG wd lo hi out ns = 0 := bne_eq_false_iff_eq.mp h1
  have hLG : lookG wd lo hi out ns = if (!((order ns).length == ns.length)) = true then (13, [], [], []) else match lookL ns (order ns) (wd :: List.replicate ns.length 0) (1 :: List.replicate ns.length 0) with | (e, W, R) => if (e != 0) = true then (e, [], [], []) else (0, order ns, W, R) := by
    unfold lookG; rw [if_neg (by rw [h1]; decide)]
  have hN := mayG_ok hmay
  clear h1
  (repeat (first | refine Tr.seq ?_ | refine Tr.skip ?_ | refine Tr.label ?_ | refine Tr.block ?_ | refine Tr.scope ?_ | refine gs1 ?_ | refine gs2 ?_ | refine gs3 ?_ | refine Tr.exit ?_ | refine Tr.goto ?_ | refine Tr.ret ?_ | refine n1 ?_ | refine n2 ?_ | refine n3 ?_ | refine n4 ?_ | refine n5 ?_ | refine n6 ?_ | refine n7 ?_ | refine n8 ?_ | refine n9 (by decide) ?_))
  (first | refine r1 ?_ | refine r2 ?_ | refine r3 ?_); intro K hK; simp only [go_sem, hP, hn]
  (repeat (refine ⟨by first | trivial | omega | (simp <;> omega) | (simp +contextual; done) | (clear hK; grind), ?_⟩))
  refine CallN_cs (Hi := [] ) (by rw [hP, hT]; exact  ordered_c Tk.m ns hN.2.1 (fun n h => ⟨by have := hin n h; omega, hN.2.2 n h⟩)) rfl rfl rfl trivial (by simp only [go_sem, hP, hn]; try trivial) (by simp only [go_sem, hP, hn]; try rfl) (by simp only [inH, go_sem, hP, hn]; try simp) (by rw [hn]; decide) ?_; simp only [go_sem, hP, hn]; (repeat (refine ⟨by first | trivial | omega | (simp <;> omega) | (simp +contextual; done) | (clear hK; grind), ?_⟩))
  refine hK _ ?_; clear K hK
  (repeat (first | ((first | refine r1 ?_ | refine r2 ?_ | refine r3 ?_); intro K hK; simp only [go_sem, hP, hn]; (repeat (refine ⟨by first | trivial | omega | (simp <;> omega) | (simp +contextual; done) | (clear hK; grind), ?_⟩)); refine hK _ ?_; clear K hK) | refine Tr.seq ?_ | refine Tr.skip ?_ | refine Tr.label ?_ | refine Tr.block ?_ | refine Tr.scope ?_ | refine gs1 ?_ | refine gs2 ?_ | refine gs3 ?_ | refine Tr.exit ?_ | refine Tr.goto ?_ | refine Tr.ret ?_ | refine n1 ?_ | refine n2 ?_ | refine n3 ?_ | refine n4 ?_ | refine n5 ?_ | refine n6 ?_ | refine n7 ?_ | refine n8 ?_ | refine n9 (by decide) ?_))
  refine Tr.cond rfl (fun h2 => ?_) (fun h2 => ?_)
  · (repeat (first | refine Tr.seq ?_ | refine Tr.skip ?_ | refine Tr.label ?_ | refine Tr.block ?_ | refine Tr.scope ?_ | refine gs1 ?_ | refine gs2 ?_ | refine gs3 ?_ | refine Tr.exit ?_ | refine Tr.goto ?_ | refine Tr.ret ?_ | refine n1 ?_ | refine n2 ?_ | refine n3 ?_ | refine n4 ?_ | refine n5 ?_ | refine n6 ?_ | refine n7 ?_ | refine n8 ?_ | refine n9 (by decide) ?_))
    (first | refine r1 ?_ | refine r2 ?_ | refine r3 ?_); intro K hK; simp only [go_sem, hP, hn]; (repeat (refine ⟨by first | trivial | omega | (simp <;> omega) | (simp +contextual; done) | (clear hK; grind), ?_⟩)); refine hK _ ?_; clear K hK
    refine Tr.le (Le.wbox 2 [.d (.row [.i .i64 0] []), .d (.row [.i .i64 0] []), .d (.row [.i .i64 0] [])] rfl (by simp [wk])) ?_; simp only [go_sem, hP, hn]
    (repeat (first | ((first | refine r1 ?_ | refine r2 ?_ | refine r3 ?_); intro K hK; simp only [go_sem, hP, hn]; (repeat (refine ⟨by first | trivial | omega | (simp <;> omega) | (simp +contextual; done) | (clear hK; grind), ?_⟩)); refine hK _ ?_; clear K hK) | refine Tr.seq ?_ | refine Tr.skip ?_ | refine Tr.label ?_ | refine Tr.block ?_ | refine Tr.scope ?_ | refine gs1 ?_ | refine gs2 ?_ | refine gs3 ?_ | refine Tr.exit ?_ | refine Tr.goto ?_ | refine Tr.ret ?_ | refine n1 ?_ | refine n2 ?_ | refine n3 ?_ | refine n4 ?_ | refine n5 ?_ | refine n6 ?_ | refine n7 ?_ | refine n8 ?_ | refine n9 (by decide) ?_))
    simp only [RetG, go_sem]; (repeat (with_reducible refine And.intro ?_ ?_; (· first | trivial | omega | (simp <;> omega) | (simp +contextual; done) | (clear hK; grind))))
    rw [hLG, if_pos h2]; rfl
  rw [if_neg (by rw [h2]; decide)] at hLG
  have hol : (order ns).length = ns.length := by simpa using h2
  have hor : ∀ x ∈ order ns, 1 ≤ x ∧ x ≤ ns.length := ordR_range (by simp)
  clear h2
  generalize hos : order ns = os at hLG hol hor ⊢
  (repeat (first | refine Tr.seq ?_ | refine Tr.skip ?_ | refine Tr.label ?_ | refine Tr.block ?_ | refine Tr.scope ?_ | refine gs1 ?_ | refine gs2 ?_ | refine gs3 ?_ | refine Tr.exit ?_ | refine Tr.goto ?_ | refine Tr.ret ?_ | refine n1 ?_ | refine n2 ?_ | refine n3 ?_ | refine n4 ?_ | refine n5 ?_ | refine n6 ?_ | refine n7 ?_ | refine n8 ?_ | refine n9 (by decide) ?_))
  refine Tr.le (Le.keep [1, 2, 3, 4, 5]) ?_; simp only [List.map_cons, List.map_nil, lk, Nat.reduceEqDiff, reduceIte]
  refine Tr.meet (fun s => s = ⟨[(1, .ptr 1 0), (2, .ptr 2 0), (3, .d (.i .i64 0)), (5, .d (.row [.i .i64 0] (os.map intC))), (7, .ptr 7 0)], [(1, .box 48 (gcs wd lo hi out (.d (rowN ns)))), (2, .box 76 [.d .nil, .d .nil, .d .nil]), (7, .box 76 [.d (.row [.i .i64 0] (os.map intC)), .own 34, .own 39]), (34, .row 3 [.i .i64 0] ((List.replicate (ns.length + 1) 0).map intC)), (39, .row 3 [.i .i64 0] ((List.replicate (ns.length + 1) 0).map intC))]⟩) ?_ ?_
  rotate_left
  · (first | refine d1 (.p true 0 (.p true 1 (.p true 2 (.p true 3 (.p true 4 (.p true 6 (.p true 7 (.p true 8 (.p true 9 (.alt 5 (.alt 10 (.p false 11 (.alt 12 (.alt 13 .nil .nil) .nil)) (.alt 12 (.alt 10 (.p false 11 (.alt 13 .nil .nil)) .nil) .nil)) (.alt 10 (.alt 5 (.p false 11 (.alt 12 (.alt 13 .nil .nil) .nil)) (.alt 12 (.alt 5 (.p false 11 (.alt 13 .nil .nil)) .nil) .nil)) (.alt 12 (.alt 5 (.alt 10 (.p false 11 (.alt 13 .nil .nil)) .nil) (.alt 10 (.alt 5 (.p false 11 (.alt 13 .nil .nil)) .nil) .nil)) .nil)))))))))))) [] (by rw [hP]; kernel_rfl) (by kernel_rfl) (by simp only [go_sem, hP, hn]; try simp) (fun _ _ h => h) fun K hK => ?_ | refine d2 (.p true 0 (.p true 1 (.p true 2 (.p true 3 (.p true 4 (.p true 6 (.p true 7 (.p true 8 (.p true 9 (.alt 5 (.alt 10 (.p false 11 (.alt 12 (.alt 13 .nil .nil) .nil)) (.alt 12 (.alt 10 (.p false 11 (.alt 13 .nil .nil)) .nil) .nil)) (.alt 10 (.alt 5 (.p false 11 (.alt 12 (.alt 13 .nil .nil) .nil)) (.alt 12 (.alt 5 (.p false 11 (.alt 13 .nil .nil)) .nil) .nil)) (.alt 12 (.alt 5 (.alt 10 (.p false 11 (.alt 13 .nil .nil)) .nil) (.alt 10 (.alt 5 (.p false 11 (.alt 13 .nil .nil)) .nil) .nil)) .nil)))))))))))) [] (by rw [hP]; kernel_rfl) (by kernel_rfl) (by simp only [go_sem, hP, hn]; try simp) (fun _ _ h => h) fun K hK => ?_ | refine d4 (.p true 0 (.p true 1 (.p true 2 (.p true 3 (.p true 4 (.p true 6 (.p true 7 (.p true 8 (.p true 9 (.alt 5 (.alt 10 (.p false 11 (.alt 12 (.alt 13 .nil .nil) .nil)) (.alt 12 (.alt 10 (.p false 11 (.alt 13 .nil .nil)) .nil) .nil)) (.alt 10 (.alt 5 (.p false 11 (.alt 12 (.alt 13 .nil .nil) .nil)) (.alt 12 (.alt 5 (.p false 11 (.alt 13 .nil .nil)) .nil) .nil)) (.alt 12 (.alt 5 (.alt 10 (.p false 11 (.alt 13 .nil .nil)) .nil) (.alt 10 (.alt 5 (.p false 11 (.alt 13 .nil .nil)) .nil) .nil)) .nil)))))))))))) [] (by rw [hP]; kernel_rfl) (by kernel_rfl) (by simp only [go_sem, hP, hn]; try simp) (fun _ _ h => h) fun K hK => ?_); simp only [go_sem, hP, hn]
    simp only [show wrap64 ((ns.length : Int) + 1) = ((ns.length + 1 : Nat) : Int) from w64 (by omega) (by omega), Int.toNat_natCast]
    (repeat' (refine And.intro ?_ ?_)); all_goals (first | (refine hK _ ?_; (refine ⟨_, ?_, rfl⟩; exact (Le.mv (by simp only [go_sem, hP, hn]; first | done | (simp; done) | (simp [intC]; done) | (repeat (first | rfl | constructor))) (by simp only [go_sem, hP, hn]; first | done | (simp; done) | (simp [intC]; done) | (repeat (first | rfl | constructor)))))) | (first | trivial | omega | (simp <;> omega) | (simp +contextual; done) | (clear hK; grind)))
  rintro s rfl
  (first | refine d1 (.p true 0 (.p true 1 (.p true 2 (.p true 3 (.p true 4 (.p true 5 (.p true 6 (.alt 7 (.p true 8 (.alt 9 .nil .nil)) .nil)))))))) [34, 39] (by rw [hP]; kernel_rfl) (by kernel_rfl) (by simp only [go_sem, hP, hn]; try simp) (fun _ _ h => h) fun K hK => ?_ | refine d2 (.p true 0 (.p true 1 (.p true 2 (.p true 3 (.p true 4 (.p true 5 (.p true 6 (.alt 7 (.p true 8 (.alt 9 .nil .nil)) .nil)))))))) [34, 39] (by rw [hP]; kernel_rfl) (by kernel_rfl) (by simp only [go_sem, hP, hn]; try simp) (fun _ _ h => h) fun K hK => ?_ | refine d4 (.p true 0 (.p true 1 (.p true 2 (.p true 3 (.p true 4 (.p true 5 (.p true 6 (.alt 7 (.p true 8 (.alt 9 .nil .nil)) .nil)))))))) [34, 39] (by rw [hP]; kernel_rfl) (by kernel_rfl) (by simp only [go_sem, hP, hn]; try simp) (fun _ _ h => h) fun K hK => ?_); simp only [go_sem, hP, hn]
  (repeat (refine ⟨by first | trivial | omega | (simp <;> omega) | (simp +contextual; done) | (clear hK; grind), ?_⟩))
  rw [show (List.replicate (ns.length + 1) (0 : Int)).set 0 1 = 1 :: List.replicate ns.length 0 from rfl, show (List.replicate (ns.length + 1) (0 : Int)).set 0 wd = wd :: List.replicate ns.length 0 from rfl]
  refine hK _ ?_; clear K hK
  (repeat (first | ((first | refine r1 ?_ | refine r2 ?_ | refine r3 ?_); intro K hK; simp only [go_sem, hP, hn]; (repeat (refine ⟨by first | trivial | omega | (simp <;> omega) | (simp +contextual; done) | (clear hK; grind), ?_⟩)); refine hK _ ?_; clear K hK) | refine Tr.seq ?_ | refine Tr.skip ?_ | refine Tr.label ?_ | refine Tr.block ?_ | refine Tr.scope ?_ | refine gs1 ?_ | refine gs2 ?_ | refine gs3 ?_ | refine Tr.exit ?_ | refine Tr.goto ?_ | refine Tr.ret ?_ | refine n1 ?_ | refine n2 ?_ | refine n3 ?_ | refine n4 ?_ | refine n5 ?_ | refine n6 ?_ | refine n7 ?_ | refine n8 ?_ | refine n9 (by decide) ?_))
  refine Tr.le (Le.keep [1, 2, 3, 5, 7, 49, 50, 51]) ?_; simp only [List.map_cons, List.map_nil, lk, Nat.reduceEqDiff, reduceIte]
  refine Tr.loop (fun m s => ∃ (k : Int) (W R : List Int), s = ⟨[(1, .ptr 1 0), (2, .ptr 2 0), (3, .d (.i .i64 0)), (7, .ptr 7 0), (49, .d (.row [.i .i64 0] (os.map intC))), (50, .d (.i .i64 os.length)), (51, .d (.i .i64 k))], [(1, .box 48 (gcs wd lo hi out (.d (rowN ns)))), (2, .box 76 [.d .nil, .d .nil, .d .nil]), (7, .box 76 [.d (.row [.i .i64 0] (os.map intC)), .own 34, .own 39]), (34, .row 3 [.i .i64 0] (W.map intC)), (39, .row 3 [.i .i64 0] (R.map intC))]⟩ ∧ 0 ≤ k ∧ k + m = os.length ∧ W.length = ns.length + 1 ∧ R.length = ns.length + 1 ∧ lookL ns os (wd :: List.replicate ns.length 0) (1 :: List.replicate ns.length 0) = lookL ns (os.drop k.toNat) W R) os.length ⟨_, (Le.mv (by simp only [go_sem, hP, hn]; first | done | (simp; done) | (simp [intC]; done) | (repeat (first | rfl | constructor))) (by simp only [go_sem, hP, hn]; first | done | (simp; done) | (simp [intC]; done) | (repeat (first | rfl | constructor)))), 0, wd :: List.replicate ns.length 0, 1 :: List.replicate ns.length 0, rfl, by omega, by omega, by simp, by simp, rfl⟩ ?_
  rintro m s ⟨k, W, R, rfl, hk0, hkm, hWl, hRl, hL⟩
  (repeat (first | ((first | refine r1 ?_ | refine r2 ?_ | refine r3 ?_); intro K hK; simp only [go_sem, hP, hn]; (repeat (refine ⟨by first | trivial | omega | (simp <;> omega) | (simp +contextual; done) | (clear hK; grind), ?_⟩)); refine hK _ ?_; clear K hK) | refine Tr.seq ?_ | refine Tr.skip ?_ | refine Tr.label ?_ | refine Tr.block ?_ | refine Tr.scope ?_ | refine gs1 ?_ | refine gs2 ?_ | refine gs3 ?_ | refine Tr.exit ?_ | refine Tr.goto ?_ | refine Tr.ret ?_ | refine n1 ?_ | refine n2 ?_ | refine n3 ?_ | refine n4 ?_ | refine n5 ?_ | refine n6 ?_ | refine n7 ?_ | refine n8 ?_ | refine n9 (by decide) ?_))
  refine Tr.cond rfl (fun hb => ?_) (fun hb => ?_)
  · have hk1 : k < os.length := by simpa using hb
    rw [drop_rd hk0 hk1] at hL
    have hi := hor _ (rd_mem hk0 hk1)
    have hiw : wrap64 (rd os k - 1) = rd os k - 1 := w64 (by omega) (by omega)
    have hnd := rw_nd ns (rd os k - 1) (by omega) (by omega)
    have hmem := nd_mem (ns := ns) (i := rd os k - 1) (by omega) (by omega)
    have hq := hin _ hmem
    have hqi := hN.2.2 _ hmem
    rw [lookL_cons] at hL
    (repeat (first | refine Tr.seq ?_ | refine Tr.skip ?_ | refine Tr.label ?_ | refine Tr.block ?_ | refine Tr.scope ?_ | refine gs1 ?_ | refine gs2 ?_ | refine gs3 ?_ | refine Tr.exit ?_ | refine Tr.goto ?_ | refine Tr.ret ?_ | refine n1 ?_ | refine n2 ?_ | refine n3 ?_ | refine n4 ?_ | refine n5 ?_ | refine n6 ?_ | refine n7 ?_ | refine n8 ?_ | refine n9 (by decide) ?_))
    (first | refine r1 ?_ | refine r2 ?_ | refine r3 ?_); intro K hK; simp only [go_sem, hP, hn]; (repeat (refine ⟨by first | trivial | omega | (simp <;> omega) | (simp +contextual; done) | (clear hK; grind), ?_⟩)); refine hK _ ?_; clear K hK
    generalize rd os k = i at hi hiw hnd hmem hq hqi hL ⊢
    (repeat (first | refine Tr.seq ?_ | refine Tr.skip ?_ | refine Tr.label ?_ | refine Tr.block ?_ | refine Tr.scope ?_ | refine gs1 ?_ | refine gs2 ?_ | refine gs3 ?_ | refine Tr.exit ?_ | refine Tr.goto ?_ | refine Tr.ret ?_ | refine n1 ?_ | refine n2 ?_ | refine n3 ?_ | refine n4 ?_ | refine n5 ?_ | refine n6 ?_ | refine n7 ?_ | refine n8 ?_ | refine n9 (by decide) ?_))
    (first | refine r1 ?_ | refine r2 ?_ | refine r3 ?_); intro K hK; simp only [hiw, hnd, go_sem, hP, hn]
    (repeat (refine ⟨by first | trivial | omega | (simp <;> omega) | (simp +contextual; done) | (clear hK; grind), ?_⟩))
    generalize nd ns (i - 1) = q at hq hqi hL ⊢
    refine hK _ ?_; clear K hK
    refine Tr.le (Le.keep [1, 2, 3, 7, 9, 10, 49, 50, 51]) ?_; simp only [List.map_cons, List.map_nil, lk, Nat.reduceEqDiff, reduceIte]
    (repeat (first | refine Tr.seq ?_ | refine Tr.skip ?_ | refine Tr.label ?_ | refine Tr.block ?_ | refine Tr.scope ?_ | refine gs1 ?_ | refine gs2 ?_ | refine gs3 ?_ | refine Tr.exit ?_ | refine Tr.goto ?_ | refine Tr.ret ?_ | refine n1 ?_ | refine n2 ?_ | refine n3 ?_ | refine n4 ?_ | refine n5 ?_ | refine n6 ?_ | refine n7 ?_ | refine n8 ?_ | refine n9 (by decide) ?_))
    have hqW : ∀ x ∈ q.inn, 0 ≤ x ∧ x < W.length := fun x hx => by have := hqi x hx; omega
    have hml : (q.inn.map (rd W)).length ≤ 65536 := by rw [List.length_map]; omega
    have hmr : (q.inn.map (rd R)).length ≤ 65536 := by rw [List.length_map]; omega
    have hqR : ∀ x ∈ q.inn, 0 ≤ x ∧ x < R.length := fun x hx => by have := hqi x hx; omega
    (first | refine r1 ?_ | refine r2 ?_ | refine r3 ?_); intro K hK; simp only [go_sem, hP, hn]; (repeat (refine ⟨by first | trivial | omega | (simp <;> omega) | (simp +contextual; done) | (clear hK; grind), ?_⟩)); refine c1 (by rw [hP, hT]; exact pick_c Tk.m W q.inn (by omega) (by omega) hqW) rfl rfl rfl trivial (by simp only [go_sem, hP, hn]; try trivial) (by simp only [go_sem, hP, hn]; try rfl) (by rw [hn]; decide) (by rfl) ?_; simp only [go_sem, hP, hn]; (repeat (refine ⟨by first | trivial | omega | (simp <;> omega) | (simp +contextual; done) | (clear hK; grind), ?_⟩)); refine hK _ ?_; clear K hK
    (repeat (first | refine Tr.seq ?_ | refine Tr.skip ?_ | refine Tr.label ?_ | refine Tr.block ?_ | refine Tr.scope ?_ | refine gs1 ?_ | refine gs2 ?_ | refine gs3 ?_ | refine Tr.exit ?_ | refine Tr.goto ?_ | refine Tr.ret ?_ | refine n1 ?_ | refine n2 ?_ | refine n3 ?_ | refine n4 ?_ | refine n5 ?_ | refine n6 ?_ | refine n7 ?_ | refine n8 ?_ | refine n9 (by decide) ?_))
    (first | refine r1 ?_ | refine r2 ?_ | refine r3 ?_); intro K hK; simp only [go_sem, hP, hn]; (repeat (refine ⟨by first | trivial | omega | (simp <;> omega) | (simp +contextual; done) | (clear hK; grind), ?_⟩)); refine c1 (by rw [hP, hT]; exact Check_k Tk q (q.inn.map (rd W)) (by omega) (by omega) hml (by omega)) rfl rfl rfl trivial (by simp only [go_sem, hP, hn]; try trivial) (by simp only [go_sem, hP, hn]; try rfl) (by rw [hn]; decide) (by rfl) ?_; simp only [go_sem, hP, hn]; (repeat (refine ⟨by first | trivial | omega | (simp <;> omega) | (simp +contextual; done) | (clear hK; grind), ?_⟩)); refine hK _ ?_; clear K hK
    (repeat (first | ((first | refine r1 ?_ | refine r2 ?_ | refine r3 ?_); intro K hK; simp only [go_sem, hP, hn]; (repeat (refine ⟨by first | trivial | omega | (simp <;> omega) | (simp +contextual; done) | (clear hK; grind), ?_⟩)); refine hK _ ?_; clear K hK) | refine Tr.seq ?_ | refine Tr.skip ?_ | refine Tr.label ?_ | refine Tr.block ?_ | refine Tr.scope ?_ | refine gs1 ?_ | refine gs2 ?_ | refine gs3 ?_ | refine Tr.exit ?_ | refine Tr.goto ?_ | refine Tr.ret ?_ | refine n1 ?_ | refine n2 ?_ | refine n3 ?_ | refine n4 ?_ | refine n5 ?_ | refine n6 ?_ | refine n7 ?_ | refine n8 ?_ | refine n9 (by decide) ?_))
    refine Tr.cond rfl (fun hc => ?_) (fun hc => ?_)
    · rw [if_pos hc] at hL
      (repeat (first | refine Tr.seq ?_ | refine Tr.skip ?_ | refine Tr.label ?_ | refine Tr.block ?_ | refine Tr.scope ?_ | refine gs1 ?_ | refine gs2 ?_ | refine gs3 ?_ | refine Tr.exit ?_ | refine Tr.goto ?_ | refine Tr.ret ?_ | refine n1 ?_ | refine n2 ?_ | refine n3 ?_ | refine n4 ?_ | refine n5 ?_ | refine n6 ?_ | refine n7 ?_ | refine n8 ?_ | refine n9 (by decide) ?_))
      (first | refine r1 ?_ | refine r2 ?_ | refine r3 ?_); intro K hK; simp only [go_sem, hP, hn]; (repeat (refine ⟨by first | trivial | omega | (simp <;> omega) | (simp +contextual; done) | (clear hK; grind), ?_⟩)); refine hK _ ?_; clear K hK
      refine Tr.le (Le.wbox 2 [.d (.row [.i .i64 0] []), .d (.row [.i .i64 0] []), .d (.row [.i .i64 0] [])] rfl (by simp [wk])) ?_; simp only [go_sem, hP, hn]
      (repeat (first | ((first | refine r1 ?_ | refine r2 ?_ | refine r3 ?_); intro K hK; simp only [go_sem, hP, hn]; (repeat (refine ⟨by first | trivial | omega | (simp <;> omega) | (simp +contextual; done) | (clear hK; grind), ?_⟩)); refine hK _ ?_; clear K hK) | refine Tr.seq ?_ | refine Tr.skip ?_ | refine Tr.label ?_ | refine Tr.block ?_ | refine Tr.scope ?_ | refine gs1 ?_ | refine gs2 ?_ | refine gs3 ?_ | refine Tr.exit ?_ | refine Tr.goto ?_ | refine Tr.ret ?_ | refine n1 ?_ | refine n2 ?_ | refine n3 ?_ | refine n4 ?_ | refine n5 ?_ | refine n6 ?_ | refine n7 ?_ | refine n8 ?_ | refine n9 (by decide) ?_))
      simp only [RetG, go_sem]; (repeat (with_reducible refine And.intro ?_ ?_; (· first | trivial | omega | (simp <;> omega) | (simp +contextual; done) | (clear hK; grind))))
      rw [hLG, hL]; simp only [if_pos hc]; rfl
    rw [if_neg (by rw [hc]; decide)] at hL
    have hc0 : q.chk (q.inn.map (rd W)) = 0 := bne_eq_false_iff_eq.mp hc
    have hpos : 0 < q.inn.length := by
      rcases Nat.eq_zero_or_pos q.inn.length with h | h
      · rw [List.eq_nil_of_length_eq_zero h] at hc0; exact absurd hc0 (Nd.chk_ne q)
      · exact h
    (repeat (first | refine Tr.seq ?_ | refine Tr.skip ?_ | refine Tr.label ?_ | refine Tr.block ?_ | refine Tr.scope ?_ | refine gs1 ?_ | refine gs2 ?_ | refine gs3 ?_ | refine Tr.exit ?_ | refine Tr.goto ?_ | refine Tr.ret ?_ | refine n1 ?_ | refine n2 ?_ | refine n3 ?_ | refine n4 ?_ | refine n5 ?_ | refine n6 ?_ | refine n7 ?_ | refine n8 ?_ | refine n9 (by decide) ?_))
    refine Tr.le (Le.keep [1, 2, 3, 7, 9, 10, 11, 49, 50, 51]) ?_; simp only [List.map_cons, List.map_nil, lk, Nat.reduceEqDiff, reduceIte]
    (first | refine d1 (.p true 0 (.p true 1 (.p true 2 (.p true 3 (.p true 4 (.alt 5 (.alt 6 (.p false 7 (.p false 8 (.p false 9 (.p false 10 (.p false 11 .nil))))) .nil) .nil)))))) [] (by rw [hP]; kernel_rfl) (by kernel_rfl) (by simp only [go_sem, hP, hn]; try simp) (fun _ _ h => h) fun K hK => ?_ | refine d2 (.p true 0 (.p true 1 (.p true 2 (.p true 3 (.p true 4 (.alt 5 (.alt 6 (.p false 7 (.p false 8 (.p false 9 (.p false 10 (.p false 11 .nil))))) .nil) .nil)))))) [] (by rw [hP]; kernel_rfl) (by kernel_rfl) (by simp only [go_sem, hP, hn]; try simp) (fun _ _ h => h) fun K hK => ?_ | refine d4 (.p true 0 (.p true 1 (.p true 2 (.p true 3 (.p true 4 (.alt 5 (.alt 6 (.p false 7 (.p false 8 (.p false 9 (.p false 10 (.p false 11 .nil))))) .nil) .nil)))))) [] (by rw [hP]; kernel_rfl) (by kernel_rfl) (by simp only [go_sem, hP, hn]; try simp) (fun _ _ h => h) fun K hK => ?_); simp only [go_sem, hP, hn]
    (repeat (refine ⟨by first | trivial | omega | (simp <;> omega) | (simp +contextual; done) | (clear hK; grind), ?_⟩))
    refine p1 (by rw [hP, hT]; exact pick_c Tk.m R q.inn (by omega) (by omega) hqR) rfl rfl rfl trivial (by simp only [go_sem, hP, hn]; try trivial) (by simp only [go_sem, hP, hn]; try rfl) (by rw [hn]; decide) (by rfl) ?_; simp only [go_sem, hP, hn]; (repeat (refine ⟨by first | trivial | omega | (simp <;> omega) | (simp +contextual; done) | (clear hK; grind), ?_⟩))
    refine CallP_cs (by rw [hP, hT]; exact rate_k Tk q (q.inn.map (rd R)) (by simpa using hpos) hmr) rfl rfl rfl trivial (by simp only [go_sem, hP, hn]; try trivial) (by simp only [go_sem, hP, hn]; try rfl) (by rw [hn]; decide) ?_; simp only [go_sem, hP, hn]; (repeat (refine ⟨by first | trivial | omega | (simp <;> omega) | (simp +contextual; done) | (clear hK; grind), ?_⟩))
    refine hK _ ?_; clear K hK
    (repeat (first | ((first | refine r1 ?_ | refine r2 ?_ | refine r3 ?_); intro K hK; simp only [go_sem, hP, hn]; (repeat (refine ⟨by first | trivial | omega | (simp <;> omega) | (simp +contextual; done) | (clear hK; grind), ?_⟩)); refine hK _ ?_; clear K hK) | refine Tr.seq ?_ | refine Tr.skip ?_ | refine Tr.label ?_ | refine Tr.block ?_ | refine Tr.scope ?_ | refine gs1 ?_ | refine gs2 ?_ | refine gs3 ?_ | refine Tr.exit ?_ | refine Tr.goto ?_ | refine Tr.ret ?_ | refine n1 ?_ | refine n2 ?_ | refine n3 ?_ | refine n4 ?_ | refine n5 ?_ | refine n6 ?_ | refine n7 ?_ | refine n8 ?_ | refine n9 (by decide) ?_))
    refine Tr.cond rfl (fun hd => ?_) (fun hd => ?_)
    · rw [if_pos hd] at hL
      (repeat (first | refine Tr.seq ?_ | refine Tr.skip ?_ | refine Tr.label ?_ | refine Tr.block ?_ | refine Tr.scope ?_ | refine gs1 ?_ | refine gs2 ?_ | refine gs3 ?_ | refine Tr.exit ?_ | refine Tr.goto ?_ | refine Tr.ret ?_ | refine n1 ?_ | refine n2 ?_ | refine n3 ?_ | refine n4 ?_ | refine n5 ?_ | refine n6 ?_ | refine n7 ?_ | refine n8 ?_ | refine n9 (by decide) ?_))
      (first | refine r1 ?_ | refine r2 ?_ | refine r3 ?_); intro K hK; simp only [go_sem, hP, hn]; (repeat (refine ⟨by first | trivial | omega | (simp <;> omega) | (simp +contextual; done) | (clear hK; grind), ?_⟩)); refine hK _ ?_; clear K hK
      refine Tr.le (Le.wbox 2 [.d (.row [.i .i64 0] []), .d (.row [.i .i64 0] []), .d (.row [.i .i64 0] [])] rfl (by simp [wk])) ?_; simp only [go_sem, hP, hn]
      (repeat (first | ((first | refine r1 ?_ | refine r2 ?_ | refine r3 ?_); intro K hK; simp only [go_sem, hP, hn]; (repeat (refine ⟨by first | trivial | omega | (simp <;> omega) | (simp +contextual; done) | (clear hK; grind), ?_⟩)); refine hK _ ?_; clear K hK) | refine Tr.seq ?_ | refine Tr.skip ?_ | refine Tr.label ?_ | refine Tr.block ?_ | refine Tr.scope ?_ | refine gs1 ?_ | refine gs2 ?_ | refine gs3 ?_ | refine Tr.exit ?_ | refine Tr.goto ?_ | refine Tr.ret ?_ | refine n1 ?_ | refine n2 ?_ | refine n3 ?_ | refine n4 ?_ | refine n5 ?_ | refine n6 ?_ | refine n7 ?_ | refine n8 ?_ | refine n9 (by decide) ?_))
      simp only [RetG, go_sem]; (repeat (with_reducible refine And.intro ?_ ?_; (· first | trivial | omega | (simp <;> omega) | (simp +contextual; done) | (clear hK; grind))))
      rw [hLG, hL]; rfl
    rw [if_neg (by rw [hd]; decide)] at hL
    (repeat (first | refine Tr.seq ?_ | refine Tr.skip ?_ | refine Tr.label ?_ | refine Tr.block ?_ | refine Tr.scope ?_ | refine gs1 ?_ | refine gs2 ?_ | refine gs3 ?_ | refine Tr.exit ?_ | refine Tr.goto ?_ | refine Tr.ret ?_ | refine n1 ?_ | refine n2 ?_ | refine n3 ?_ | refine n4 ?_ | refine n5 ?_ | refine n6 ?_ | refine n7 ?_ | refine n8 ?_ | refine n9 (by decide) ?_))
    refine Tr.le (Le.keep [1, 2, 3, 7, 9, 10, 11, 12, 49, 50, 51]) ?_; simp only [List.map_cons, List.map_nil, lk, Nat.reduceEqDiff, reduceIte]
    (first | refine d1 (.p true 0 (.p true 1 (.p true 2 (.p true 3 (.p true 4 (.p true 5 (.p true 6 (.p true 7 (.p true 9 (.alt 8 (.p true 10 (.alt 11 (.p true 12 (.alt 13 .nil .nil)) .nil)) .nil)))))))))) [34, 39] (by rw [hP]; kernel_rfl) (by kernel_rfl) (by simp only [go_sem, hP, hn]; try simp) (fun _ _ h => h) fun K hK => ?_ | refine d2 (.p true 0 (.p true 1 (.p true 2 (.p true 3 (.p true 4 (.p true 5 (.p true 6 (.p true 7 (.p true 9 (.alt 8 (.p true 10 (.alt 11 (.p true 12 (.alt 13 .nil .nil)) .nil)) .nil)))))))))) [34, 39] (by rw [hP]; kernel_rfl) (by kernel_rfl) (by simp only [go_sem, hP, hn]; try simp) (fun _ _ h => h) fun K hK => ?_ | refine d4 (.p true 0 (.p true 1 (.p true 2 (.p true 3 (.p true 4 (.p true 5 (.p true 6 (.p true 7 (.p true 9 (.alt 8 (.p true 10 (.alt 11 (.p true 12 (.alt 13 .nil .nil)) .nil)) .nil)))))))))) [34, 39] (by rw [hP]; kernel_rfl) (by kernel_rfl) (by simp only [go_sem, hP, hn]; try simp) (fun _ _ h => h) fun K hK => ?_); simp only [go_sem, hP, hn]
    (repeat (refine ⟨by first | trivial | omega | (simp <;> omega) | (simp +contextual; done) | (clear hK; grind), ?_⟩))
    refine p1 (by rw [hP, hT]; exact Width_k Tk q (q.inn.map (rd W)) (by omega) (by omega) hml (by omega)) rfl rfl rfl trivial (by simp only [go_sem, hP, hn]; try trivial) (by simp only [go_sem, hP, hn]; try rfl) (by rw [hn]; decide) (by rfl) ?_; simp only [go_sem, hP, hn]; (repeat (refine ⟨by first | trivial | omega | (simp <;> omega) | (simp +contextual; done) | (clear hK; grind), ?_⟩))
    refine hK _ ?_; clear K hK
    (repeat (first | ((first | refine r1 ?_ | refine r2 ?_ | refine r3 ?_); intro K hK; simp only [go_sem, hP, hn]; (repeat (refine ⟨by first | trivial | omega | (simp <;> omega) | (simp +contextual; done) | (clear hK; grind), ?_⟩)); refine hK _ ?_; clear K hK) | refine Tr.seq ?_ | refine Tr.skip ?_ | refine Tr.label ?_ | refine Tr.block ?_ | refine Tr.scope ?_ | refine gs1 ?_ | refine gs2 ?_ | refine gs3 ?_ | refine Tr.exit ?_ | refine Tr.goto ?_ | refine Tr.ret ?_ | refine n1 ?_ | refine n2 ?_ | refine n3 ?_ | refine n4 ?_ | refine n5 ?_ | refine n6 ?_ | refine n7 ?_ | refine n8 ?_ | refine n9 (by decide) ?_))
    rw [w64 (x := k + 1) (by omega) (by omega)]
    refine ⟨m - 1, _, by omega, ?_, k + 1, W.set i.toNat (q.wide (q.inn.map (rd W))), R.set i.toNat (q.grate (q.inn.map (rd R))).1, rfl, by omega, by omega, by simpa using hWl, by simpa using hRl, hL⟩
    exact (Le.mv (by simp only [go_sem, hP, hn]; first | done | (simp; done) | (simp [intC]; done) | (repeat (first | rfl | constructor))) (by simp only [go_sem, hP, hn]; first | done | (simp; done) | (simp [intC]; done) | (repeat (first | rfl | constructor))))
  rw [drop_end (by simpa using hb)] at hL
  (repeat (first | ((first | refine r1 ?_ | refine r2 ?_ | refine r3 ?_); intro K hK; simp only [go_sem, hP, hn]; (repeat (refine ⟨by first | trivial | omega | (simp <;> omega) | (simp +contextual; done) | (clear hK; grind), ?_⟩)); refine hK _ ?_; clear K hK) | refine Tr.seq ?_ | refine Tr.skip ?_ | refine Tr.label ?_ | refine Tr.block ?_ | refine Tr.scope ?_ | refine gs1 ?_ | refine gs2 ?_ | refine gs3 ?_ | refine Tr.exit ?_ | refine Tr.goto ?_ | refine Tr.ret ?_ | refine n1 ?_ | refine n2 ?_ | refine n3 ?_ | refine n4 ?_ | refine n5 ?_ | refine n6 ?_ | refine n7 ?_ | refine n8 ?_ | refine n9 (by decide) ?_))
  simp only [RetG, go_sem]; (repeat (with_reducible refine And.intro ?_ ?_; (· first | trivial | omega | (simp <;> omega) | (simp +contextual; done) | (clear hK; grind))))
  rw [hLG, hL]; rfl
theorem Order_c {T : World → Prop} (Tk : KT T) (wd lo hi out : Int) (ns : List Nd) (hns : ns.length ≤ 65536) (hin : ∀ n ∈ ns, n.inn.length ≤ 4096 ∧ n.ws.length ≤ 65536 ∧ n.bs.length ≤ 65536) : Cg Go.Proofs.Tryd.prog T 26 [] [.agg (gcs wd lo hi out (.d (rowN ns)))] (fun r H => H = [] ∧ r = .d (.row [.i .i64 0] ((lookG wd lo hi out ns).2.1.map intC))) := by
  refine Cg_of [] Tk.m Go.Proofs.Tryd.func26 rfl rfl Go.Proofs.Tryd.ntmps26 (by simp) rfl (rs := [.tmp 2]) rfl fun E hP hn hT hpn => ?_
  (repeat (first | refine Tr.seq ?_ | refine Tr.skip ?_ | refine Tr.label ?_ | refine Tr.block ?_ | refine Tr.scope ?_ | refine gs1 ?_ | refine gs2 ?_ | refine gs3 ?_ | refine Tr.exit ?_ | refine Tr.goto ?_ | refine Tr.ret ?_ | refine n1 ?_ | refine n2 ?_ | refine n3 ?_ | refine n4 ?_ | refine n5 ?_ | refine n6 ?_ | refine n7 ?_ | refine n8 ?_ | refine n9 (by decide) ?_))
  (first | refine r1 ?_ | refine r2 ?_ | refine r3 ?_); intro K hK; simp only [go_sem, hP, hn]; (repeat (refine ⟨by first | trivial | omega | (simp <;> omega) | (simp +contextual; done) | (clear hK; grind), ?_⟩)); refine hK _ ?_; clear K hK
  (repeat (first | refine Tr.seq ?_ | refine Tr.skip ?_ | refine Tr.label ?_ | refine Tr.block ?_ | refine Tr.scope ?_ | refine gs1 ?_ | refine gs2 ?_ | refine gs3 ?_ | refine Tr.exit ?_ | refine Tr.goto ?_ | refine Tr.ret ?_ | refine n1 ?_ | refine n2 ?_ | refine n3 ?_ | refine n4 ?_ | refine n5 ?_ | refine n6 ?_ | refine n7 ?_ | refine n8 ?_ | refine n9 (by decide) ?_))
  (first | refine r1 ?_ | refine r2 ?_ | refine r3 ?_); intro K hK; simp only [go_sem, hP, hn]
  (repeat (refine ⟨by first | trivial | omega | (simp <;> omega) | (simp +contextual; done) | (clear hK; grind), ?_⟩))
  refine CallN_cs (Hi := [] ) (by rw [hP, hT]; exact  look_c Tk wd lo hi out ns hns hin) rfl rfl rfl trivial (by simp only [go_sem, hP, hn]; try trivial) (by simp only [go_sem, hP, hn]; try rfl) (by simp only [inH, go_sem, hP, hn]; try simp) (by rw [hn]; decide) ?_; simp only [go_sem, hP, hn]; (repeat (refine ⟨by first | trivial | omega | (simp <;> omega) | (simp +contextual; done) | (clear hK; grind), ?_⟩))
  simp only [ltup]
  simp only [go_sem, hP, hn]
  (repeat (refine ⟨by first | trivial | omega | (simp <;> omega) | (simp +contextual; done) | (clear hK; grind), ?_⟩))
  refine hK _ ?_; clear K hK
  (repeat (first | ((first | refine r1 ?_ | refine r2 ?_ | refine r3 ?_); intro K hK; simp only [go_sem, hP, hn]; (repeat (refine ⟨by first | trivial | omega | (simp <;> omega) | (simp +contextual; done) | (clear hK; grind), ?_⟩)); refine hK _ ?_; clear K hK) | refine Tr.seq ?_ | refine Tr.skip ?_ | refine Tr.label ?_ | refine Tr.block ?_ | refine Tr.scope ?_ | refine gs1 ?_ | refine gs2 ?_ | refine gs3 ?_ | refine Tr.exit ?_ | refine Tr.goto ?_ | refine Tr.ret ?_ | refine n1 ?_ | refine n2 ?_ | refine n3 ?_ | refine n4 ?_ | refine n5 ?_ | refine n6 ?_ | refine n7 ?_ | refine n8 ?_ | refine n9 (by decide) ?_))
  simp only [RetG, go_sem]; (repeat (with_reducible refine And.intro ?_ ?_; (· first | trivial | omega | (simp <;> omega) | (simp +contextual; done) | (clear hK; grind))))
theorem Widths_c {T : World → Prop} (Tk : KT T) (wd lo hi out : Int) (ns : List Nd) (hns : ns.length ≤ 65536) (hin : ∀ n ∈ ns, n.inn.length ≤ 4096 ∧ n.ws.length ≤ 65536 ∧ n.bs.length ≤ 65536) : Cg Go.Proofs.Tryd.prog T 30 [] [.agg (gcs wd lo hi out (.d (rowN ns)))] (fun r H => H = [] ∧ r = .d (.row [.i .i64 0] ((lookG wd lo hi out ns).2.2.1.map intC))) := by
  refine Cg_of [] Tk.m Go.Proofs.Tryd.func30 rfl rfl Go.Proofs.Tryd.ntmps30 (by simp) rfl (rs := [.tmp 2]) rfl fun E hP hn hT hpn => ?_
  (repeat (first | refine Tr.seq ?_ | refine Tr.skip ?_ | refine Tr.label ?_ | refine Tr.block ?_ | refine Tr.scope ?_ | refine gs1 ?_ | refine gs2 ?_ | refine gs3 ?_ | refine Tr.exit ?_ | refine Tr.goto ?_ | refine Tr.ret ?_ | refine n1 ?_ | refine n2 ?_ | refine n3 ?_ | refine n4 ?_ | refine n5 ?_ | refine n6 ?_ | refine n7 ?_ | refine n8 ?_ | refine n9 (by decide) ?_))
  (first | refine r1 ?_ | refine r2 ?_ | refine r3 ?_); intro K hK; simp only [go_sem, hP, hn]; (repeat (refine ⟨by first | trivial | omega | (simp <;> omega) | (simp +contextual; done) | (clear hK; grind), ?_⟩)); refine hK _ ?_; clear K hK
  (repeat (first | refine Tr.seq ?_ | refine Tr.skip ?_ | refine Tr.label ?_ | refine Tr.block ?_ | refine Tr.scope ?_ | refine gs1 ?_ | refine gs2 ?_ | refine gs3 ?_ | refine Tr.exit ?_ | refine Tr.goto ?_ | refine Tr.ret ?_ | refine n1 ?_ | refine n2 ?_ | refine n3 ?_ | refine n4 ?_ | refine n5 ?_ | refine n6 ?_ | refine n7 ?_ | refine n8 ?_ | refine n9 (by decide) ?_))
  (first | refine r1 ?_ | refine r2 ?_ | refine r3 ?_); intro K hK; simp only [go_sem, hP, hn]
  (repeat (refine ⟨by first | trivial | omega | (simp <;> omega) | (simp +contextual; done) | (clear hK; grind), ?_⟩))
  refine CallN_cs (Hi := [] ) (by rw [hP, hT]; exact  look_c Tk wd lo hi out ns hns hin) rfl rfl rfl trivial (by simp only [go_sem, hP, hn]; try trivial) (by simp only [go_sem, hP, hn]; try rfl) (by simp only [inH, go_sem, hP, hn]; try simp) (by rw [hn]; decide) ?_; simp only [go_sem, hP, hn]; (repeat (refine ⟨by first | trivial | omega | (simp <;> omega) | (simp +contextual; done) | (clear hK; grind), ?_⟩))
  simp only [ltup]
  simp only [go_sem, hP, hn]
  (repeat (refine ⟨by first | trivial | omega | (simp <;> omega) | (simp +contextual; done) | (clear hK; grind), ?_⟩))
  refine hK _ ?_; clear K hK
  (repeat (first | ((first | refine r1 ?_ | refine r2 ?_ | refine r3 ?_); intro K hK; simp only [go_sem, hP, hn]; (repeat (refine ⟨by first | trivial | omega | (simp <;> omega) | (simp +contextual; done) | (clear hK; grind), ?_⟩)); refine hK _ ?_; clear K hK) | refine Tr.seq ?_ | refine Tr.skip ?_ | refine Tr.label ?_ | refine Tr.block ?_ | refine Tr.scope ?_ | refine gs1 ?_ | refine gs2 ?_ | refine gs3 ?_ | refine Tr.exit ?_ | refine Tr.goto ?_ | refine Tr.ret ?_ | refine n1 ?_ | refine n2 ?_ | refine n3 ?_ | refine n4 ?_ | refine n5 ?_ | refine n6 ?_ | refine n7 ?_ | refine n8 ?_ | refine n9 (by decide) ?_))
  simp only [RetG, go_sem]; (repeat (with_reducible refine And.intro ?_ ?_; (· first | trivial | omega | (simp <;> omega) | (simp +contextual; done) | (clear hK; grind))))
theorem Rates_c {T : World → Prop} (Tk : KT T) (wd lo hi out : Int) (ns : List Nd) (hns : ns.length ≤ 65536) (hin : ∀ n ∈ ns, n.inn.length ≤ 4096 ∧ n.ws.length ≤ 65536 ∧ n.bs.length ≤ 65536) : Cg Go.Proofs.Tryd.prog T 31 [] [.agg (gcs wd lo hi out (.d (rowN ns)))] (fun r H => H = [] ∧ r = .d (.row [.i .i64 0] ((lookG wd lo hi out ns).2.2.2.map intC))) := by
  refine Cg_of [] Tk.m Go.Proofs.Tryd.func31 rfl rfl Go.Proofs.Tryd.ntmps31 (by simp) rfl (rs := [.tmp 2]) rfl fun E hP hn hT hpn => ?_
  (repeat (first | refine Tr.seq ?_ | refine Tr.skip ?_ | refine Tr.label ?_ | refine Tr.block ?_ | refine Tr.scope ?_ | refine gs1 ?_ | refine gs2 ?_ | refine gs3 ?_ | refine Tr.exit ?_ | refine Tr.goto ?_ | refine Tr.ret ?_ | refine n1 ?_ | refine n2 ?_ | refine n3 ?_ | refine n4 ?_ | refine n5 ?_ | refine n6 ?_ | refine n7 ?_ | refine n8 ?_ | refine n9 (by decide) ?_))
  (first | refine r1 ?_ | refine r2 ?_ | refine r3 ?_); intro K hK; simp only [go_sem, hP, hn]; (repeat (refine ⟨by first | trivial | omega | (simp <;> omega) | (simp +contextual; done) | (clear hK; grind), ?_⟩)); refine hK _ ?_; clear K hK
  (repeat (first | refine Tr.seq ?_ | refine Tr.skip ?_ | refine Tr.label ?_ | refine Tr.block ?_ | refine Tr.scope ?_ | refine gs1 ?_ | refine gs2 ?_ | refine gs3 ?_ | refine Tr.exit ?_ | refine Tr.goto ?_ | refine Tr.ret ?_ | refine n1 ?_ | refine n2 ?_ | refine n3 ?_ | refine n4 ?_ | refine n5 ?_ | refine n6 ?_ | refine n7 ?_ | refine n8 ?_ | refine n9 (by decide) ?_))
  (first | refine r1 ?_ | refine r2 ?_ | refine r3 ?_); intro K hK; simp only [go_sem, hP, hn]
  (repeat (refine ⟨by first | trivial | omega | (simp <;> omega) | (simp +contextual; done) | (clear hK; grind), ?_⟩))
  refine CallN_cs (Hi := [] ) (by rw [hP, hT]; exact  look_c Tk wd lo hi out ns hns hin) rfl rfl rfl trivial (by simp only [go_sem, hP, hn]; try trivial) (by simp only [go_sem, hP, hn]; try rfl) (by simp only [inH, go_sem, hP, hn]; try simp) (by rw [hn]; decide) ?_; simp only [go_sem, hP, hn]; (repeat (refine ⟨by first | trivial | omega | (simp <;> omega) | (simp +contextual; done) | (clear hK; grind), ?_⟩))
  simp only [ltup]
  simp only [go_sem, hP, hn]
  (repeat (refine ⟨by first | trivial | omega | (simp <;> omega) | (simp +contextual; done) | (clear hK; grind), ?_⟩))
  refine hK _ ?_; clear K hK
  (repeat (first | ((first | refine r1 ?_ | refine r2 ?_ | refine r3 ?_); intro K hK; simp only [go_sem, hP, hn]; (repeat (refine ⟨by first | trivial | omega | (simp <;> omega) | (simp +contextual; done) | (clear hK; grind), ?_⟩)); refine hK _ ?_; clear K hK) | refine Tr.seq ?_ | refine Tr.skip ?_ | refine Tr.label ?_ | refine Tr.block ?_ | refine Tr.scope ?_ | refine gs1 ?_ | refine gs2 ?_ | refine gs3 ?_ | refine Tr.exit ?_ | refine Tr.goto ?_ | refine Tr.ret ?_ | refine n1 ?_ | refine n2 ?_ | refine n3 ?_ | refine n4 ?_ | refine n5 ?_ | refine n6 ?_ | refine n7 ?_ | refine n8 ?_ | refine n9 (by decide) ?_))
  simp only [RetG, go_sem]; (repeat (with_reducible refine And.intro ?_ ?_; (· first | trivial | omega | (simp <;> omega) | (simp +contextual; done) | (clear hK; grind))))
theorem Check_c {T : World → Prop} (Tk : KT T) (wd lo hi out : Int) (ns : List Nd) (hns : ns.length ≤ 65536) (hin : ∀ n ∈ ns, n.inn.length ≤ 4096 ∧ n.ws.length ≤ 65536 ∧ n.bs.length ≤ 65536) : Cg Go.Proofs.Tryd.prog T 32 [] [.agg (gcs wd lo hi out (.d (rowN ns)))] (fun r H => H = [] ∧ r = .d (.i .i64 (lookG wd lo hi out ns).1)) := by
  refine Cg_of [] Tk.m Go.Proofs.Tryd.func32 rfl rfl Go.Proofs.Tryd.ntmps32 (by simp) rfl (rs := [.tmp 2]) rfl fun E hP hn hT hpn => ?_
  (repeat (first | refine Tr.seq ?_ | refine Tr.skip ?_ | refine Tr.label ?_ | refine Tr.block ?_ | refine Tr.scope ?_ | refine gs1 ?_ | refine gs2 ?_ | refine gs3 ?_ | refine Tr.exit ?_ | refine Tr.goto ?_ | refine Tr.ret ?_ | refine n1 ?_ | refine n2 ?_ | refine n3 ?_ | refine n4 ?_ | refine n5 ?_ | refine n6 ?_ | refine n7 ?_ | refine n8 ?_ | refine n9 (by decide) ?_))
  (first | refine r1 ?_ | refine r2 ?_ | refine r3 ?_); intro K hK; simp only [go_sem, hP, hn]; (repeat (refine ⟨by first | trivial | omega | (simp <;> omega) | (simp +contextual; done) | (clear hK; grind), ?_⟩)); refine hK _ ?_; clear K hK
  (repeat (first | refine Tr.seq ?_ | refine Tr.skip ?_ | refine Tr.label ?_ | refine Tr.block ?_ | refine Tr.scope ?_ | refine gs1 ?_ | refine gs2 ?_ | refine gs3 ?_ | refine Tr.exit ?_ | refine Tr.goto ?_ | refine Tr.ret ?_ | refine n1 ?_ | refine n2 ?_ | refine n3 ?_ | refine n4 ?_ | refine n5 ?_ | refine n6 ?_ | refine n7 ?_ | refine n8 ?_ | refine n9 (by decide) ?_))
  (first | refine r1 ?_ | refine r2 ?_ | refine r3 ?_); intro K hK; simp only [go_sem, hP, hn]
  (repeat (refine ⟨by first | trivial | omega | (simp <;> omega) | (simp +contextual; done) | (clear hK; grind), ?_⟩))
  refine CallN_cs (Hi := [] ) (by rw [hP, hT]; exact  look_c Tk wd lo hi out ns hns hin) rfl rfl rfl trivial (by simp only [go_sem, hP, hn]; try trivial) (by simp only [go_sem, hP, hn]; try rfl) (by simp only [inH, go_sem, hP, hn]; try simp) (by rw [hn]; decide) ?_; simp only [go_sem, hP, hn]; (repeat (refine ⟨by first | trivial | omega | (simp <;> omega) | (simp +contextual; done) | (clear hK; grind), ?_⟩))
  simp only [ltup]
  simp only [go_sem, hP, hn]
  (repeat (refine ⟨by first | trivial | omega | (simp <;> omega) | (simp +contextual; done) | (clear hK; grind), ?_⟩))
  refine hK _ ?_; clear K hK
  (repeat (first | ((first | refine r1 ?_ | refine r2 ?_ | refine r3 ?_); intro K hK; simp only [go_sem, hP, hn]; (repeat (refine ⟨by first | trivial | omega | (simp <;> omega) | (simp +contextual; done) | (clear hK; grind), ?_⟩)); refine hK _ ?_; clear K hK) | refine Tr.seq ?_ | refine Tr.skip ?_ | refine Tr.label ?_ | refine Tr.block ?_ | refine Tr.scope ?_ | refine gs1 ?_ | refine gs2 ?_ | refine gs3 ?_ | refine Tr.exit ?_ | refine Tr.goto ?_ | refine Tr.ret ?_ | refine n1 ?_ | refine n2 ?_ | refine n3 ?_ | refine n4 ?_ | refine n5 ?_ | refine n6 ?_ | refine n7 ?_ | refine n8 ?_ | refine n9 (by decide) ?_))
  simp only [RetG, go_sem]; (repeat (with_reducible refine And.intro ?_ ?_; (· first | trivial | omega | (simp <;> omega) | (simp +contextual; done) | (clear hK; grind))))
section
def nB (j : Int) : Nd := ⟨11, [j], 0, 0, 0, 0, 0, 0, [], [], 0, 0, 0, 0, 0⟩
attribute [local go_sem] nB
theorem look21 : lookG 2 0 0 1 [nB 2, nB 0] = (0, [2, 1], [2, 1, 1], [1, 1, 1]) := by decide +kernel
theorem look1 : lookG 2 0 0 1 [nB 1] = (13, [], [], []) := by decide +kernel
theorem awake16_c {T : World → Prop} (Tk : KT T) : Cg Go.Proofs.Tryd.prog T 24 [] [] (fun r H => H = [] ∧ r = .d (.b true)) := by
  refine Cg_of [] Tk.m Go.Proofs.Tryd.func24 rfl rfl Go.Proofs.Tryd.ntmps24 (by simp) rfl (rs := [.tmp 0]) rfl fun E hP hn hT hpn => ?_
  (repeat (first | refine Tr.seq ?_ | refine Tr.skip ?_ | refine Tr.label ?_ | refine Tr.block ?_ | refine Tr.scope ?_ | refine gs1 ?_ | refine gs2 ?_ | refine gs3 ?_ | refine Tr.exit ?_ | refine Tr.goto ?_ | refine Tr.ret ?_ | refine n1 ?_ | refine n2 ?_ | refine n3 ?_ | refine n4 ?_ | refine n5 ?_ | refine n6 ?_ | refine n7 ?_ | refine n8 ?_ | refine n9 (by decide) ?_))
  (first | refine r1 ?_ | refine r2 ?_ | refine r3 ?_); intro K hK; simp only [go_sem, hP, hn]; (repeat (refine ⟨by first | trivial | omega | (simp <;> omega) | (simp +contextual; done) | (clear hK; grind), ?_⟩)); refine hK _ ?_; clear K hK
  (repeat (first | refine Tr.seq ?_ | refine Tr.skip ?_ | refine Tr.label ?_ | refine Tr.block ?_ | refine Tr.scope ?_ | refine gs1 ?_ | refine gs2 ?_ | refine gs3 ?_ | refine Tr.exit ?_ | refine Tr.goto ?_ | refine Tr.ret ?_ | refine n1 ?_ | refine n2 ?_ | refine n3 ?_ | refine n4 ?_ | refine n5 ?_ | refine n6 ?_ | refine n7 ?_ | refine n8 ?_ | refine n9 (by decide) ?_))
  (first | refine r1 ?_ | refine r2 ?_ | refine r3 ?_); intro K hK; simp only [go_sem, hP, hn]; (repeat (refine ⟨by first | trivial | omega | (simp <;> omega) | (simp +contextual; done) | (clear hK; grind), ?_⟩)); refine hK _ ?_; clear K hK
  (repeat (first | refine Tr.seq ?_ | refine Tr.skip ?_ | refine Tr.label ?_ | refine Tr.block ?_ | refine Tr.scope ?_ | refine gs1 ?_ | refine gs2 ?_ | refine gs3 ?_ | refine Tr.exit ?_ | refine Tr.goto ?_ | refine Tr.ret ?_ | refine n1 ?_ | refine n2 ?_ | refine n3 ?_ | refine n4 ?_ | refine n5 ?_ | refine n6 ?_ | refine n7 ?_ | refine n8 ?_ | refine n9 (by decide) ?_))
  (first | refine r1 ?_ | refine r2 ?_ | refine r3 ?_); intro K hK; simp only [go_sem, hP, hn]; (repeat (refine ⟨by first | trivial | omega | (simp <;> omega) | (simp +contextual; done) | (clear hK; grind), ?_⟩)); refine hK _ ?_; clear K hK
  (repeat (first | refine Tr.seq ?_ | refine Tr.skip ?_ | refine Tr.label ?_ | refine Tr.block ?_ | refine Tr.scope ?_ | refine gs1 ?_ | refine gs2 ?_ | refine gs3 ?_ | refine Tr.exit ?_ | refine Tr.goto ?_ | refine Tr.ret ?_ | refine n1 ?_ | refine n2 ?_ | refine n3 ?_ | refine n4 ?_ | refine n5 ?_ | refine n6 ?_ | refine n7 ?_ | refine n8 ?_ | refine n9 (by decide) ?_))
  (first | refine r1 ?_ | refine r2 ?_ | refine r3 ?_); intro K hK; simp only [go_sem, hP, hn]; (repeat (refine ⟨by first | trivial | omega | (simp <;> omega) | (simp +contextual; done) | (clear hK; grind), ?_⟩)); refine hK _ ?_; clear K hK
  refine Tr.le (Le.freeze 5) ?_
  refine Tr.le (Le.freeze 7) ?_
  refine Tr.le (Le.freeze 9) ?_
  simp only [go_sem, hP, hn]
  refine Tr.le (Le.keep [1, 2, 3]) ?_; simp only [List.map_cons, List.map_nil, lk, Nat.reduceEqDiff, reduceIte]
  refine Tr.le (Le.wbox 1 (nB 0).cs rfl (by simp [wk, Nd.cs, nB, intC])) ?_
  simp only [go_sem, hP, hn]
  refine Tr.le (Le.wbox 2 (nB 2).cs rfl (by simp [wk, Nd.cs, nB, intC])) ?_
  simp only [go_sem, hP, hn]
  refine Tr.le (Le.wbox 3 (nB 1).cs rfl (by simp [wk, Nd.cs, nB, intC])) ?_
  simp only [go_sem, hP, hn]
  (repeat (first | refine Tr.seq ?_ | refine Tr.skip ?_ | refine Tr.label ?_ | refine Tr.block ?_ | refine Tr.scope ?_ | refine gs1 ?_ | refine gs2 ?_ | refine gs3 ?_ | refine Tr.exit ?_ | refine Tr.goto ?_ | refine Tr.ret ?_ | refine n1 ?_ | refine n2 ?_ | refine n3 ?_ | refine n4 ?_ | refine n5 ?_ | refine n6 ?_ | refine n7 ?_ | refine n8 ?_ | refine n9 (by decide) ?_))
  (first | refine r1 ?_ | refine r2 ?_ | refine r3 ?_); intro K hK; simp only [go_sem, hP, hn]
  (repeat (refine ⟨by first | trivial | omega | (simp <;> omega) | (simp +contextual; done) | (clear hK; grind), ?_⟩))
  refine CallN_frz 13 ?_; simp only [go_sem, hP, hn]
  refine CallN_cs (Hi := [] ) (by rw [hP, hT]; exact  Order_c Tk 2 0 0 1 [nB 2, nB 0] (by decide) (by simp [nB])) rfl rfl rfl trivial (by simp only [go_sem, hP, hn]; try trivial) (by simp only [go_sem, hP, hn]; try rfl) (by simp only [inH, go_sem, hP, hn]; try simp) (by rw [hn]; decide) ?_; simp only [go_sem, hP, hn]; (repeat (refine ⟨by first | trivial | omega | (simp <;> omega) | (simp +contextual; done) | (clear hK; grind), ?_⟩))
  have hO := look21
  have hC := look1
  simp only [nB] at hO hC
  rw [hO]
  refine c1 (by rw [hP, hT]; exact Same_c Tk.m [2, 1] [2, 1] (by decide)) rfl rfl rfl trivial (by simp only [go_sem, hP, hn]; try trivial) (by simp only [go_sem, hP, hn]; try rfl) (by rw [hn]; decide) (by rfl) ?_; simp only [go_sem, hP, hn]; (repeat (refine ⟨by first | trivial | omega | (simp <;> omega) | (simp +contextual; done) | (clear hK; grind), ?_⟩))
  refine hK _ ?_; clear K hK
  refine Tr.le (Le.keep [3, 4]) ?_; simp only [List.map_cons, List.map_nil, lk, Nat.reduceEqDiff, reduceIte]
  simp only [decide_true]
  (repeat (first | refine Tr.seq ?_ | refine Tr.skip ?_ | refine Tr.label ?_ | refine Tr.block ?_ | refine Tr.scope ?_ | refine gs1 ?_ | refine gs2 ?_ | refine gs3 ?_ | refine Tr.exit ?_ | refine Tr.goto ?_ | refine Tr.ret ?_ | refine n1 ?_ | refine n2 ?_ | refine n3 ?_ | refine n4 ?_ | refine n5 ?_ | refine n6 ?_ | refine n7 ?_ | refine n8 ?_ | refine n9 (by decide) ?_))
  (first | refine r1 ?_ | refine r2 ?_ | refine r3 ?_); intro K hK; simp only [beq_self_eq_true, go_sem, hP, hn]
  (repeat (refine ⟨by first | trivial | omega | (simp <;> omega) | (simp +contextual; done) | (clear hK; grind), ?_⟩))
  refine CallN_leg Le.ungd rfl (by simp only [unT, un, beq_self_eq_true, go_sem, hP, hn]; try rfl) ?_; simp only [unT, un, beq_self_eq_true, go_sem, hP, hn]
  refine CallN_t (by simp only [go_sem, hP, hn]; rfl) rfl (by rw [hn]; decide) (by simp only [go_sem, hP, hn]; first | trivial | omega | (simp <;> omega) | (simp +contextual; done) | (clear hK; grind)) ?_; simp only [beq_self_eq_true, go_sem, hP, hn]; (repeat (refine ⟨by first | trivial | omega | (simp <;> omega) | (simp +contextual; done) | (clear hK; grind), ?_⟩))
  refine CallN_frzg 21 rfl (by simp only [beq_self_eq_true, go_sem, hP, hn]; try rfl) ?_; simp only [beq_self_eq_true, go_sem, hP, hn]
  refine CallN_gs (Hi := [] ) (fun hg => by rw [hP, hT]; exact  Check_c Tk 2 0 0 1 [nB 1] (by decide) (by simp [nB])) rfl rfl rfl (fun hg => trivial) (fun hg => by clear hK; revert hg; simp only [go_sem, hP, hn] <;> first | trivial | omega | (simp; done) | (simp +contextual; done) | grind) (fun hg => by simp only [go_sem, hP, hn]; try rfl) (by simp only [inH, go_sem, hP, hn]; try simp) (by rw [hn]; decide) ?_; simp only [go_sem, hP, hn]; (repeat (refine ⟨by first | trivial | omega | (simp <;> omega) | (simp +contextual; done) | (clear hK; grind), ?_⟩))
  rw [hC]
  refine hK _ ?_; clear K hK
  (repeat (first | ((first | refine r1 ?_ | refine r2 ?_ | refine r3 ?_); intro K hK; simp only [go_sem, hP, hn]; (repeat (refine ⟨by first | trivial | omega | (simp <;> omega) | (simp +contextual; done) | (clear hK; grind), ?_⟩)); refine hK _ ?_; clear K hK) | refine Tr.seq ?_ | refine Tr.skip ?_ | refine Tr.label ?_ | refine Tr.block ?_ | refine Tr.scope ?_ | refine gs1 ?_ | refine gs2 ?_ | refine gs3 ?_ | refine Tr.exit ?_ | refine Tr.goto ?_ | refine Tr.ret ?_ | refine n1 ?_ | refine n2 ?_ | refine n3 ?_ | refine n4 ?_ | refine n5 ?_ | refine n6 ?_ | refine n7 ?_ | refine n8 ?_ | refine n9 (by decide) ?_))
  simp only [RetG, go_sem]; (repeat (with_reducible refine And.intro ?_ ?_; (· first | trivial | omega | (simp <;> omega) | (simp +contextual; done) | (clear hK; grind))))
  rfl
end
end Go.Proofs.YtohhaonjckfkaaaDoor.Aw
namespace Go.Proofs.YtohhaonjckfkaaaDoor.Aw
open Go.RowKit
/-! the plain law of graphs that ref15.Made makes -/
theorem turnN_len (N : Int) (n : Nd) : (turnN N n).inn.length = n.inn.length := by simp [turnN]
theorem MadeL.wsl {wd : Int} {ns : List Nd} {W R : List Int} (h : MadeL wd ns W R) : ∀ n ∈ ns, n.ws.length ≤ 4096 ∧ n.bs.length ≤ 4096 := by
  induction h with
  | base => intro n hn; simp at hn
  | step hM hs ih =>
    intro n hn
    rcases List.mem_append.1 hn with hn | hn
    · exact ih n hn
    · simp at hn; subst hn; exact ⟨hs.wl, hs.bl⟩
theorem GM.inn {wd lo hi out : Int} {ns : List Nd} (h : GM wd lo hi out ns) : ∀ n ∈ ns, (n.inn.length ≤ 2 ∧ ∀ j ∈ n.inn, 0 ≤ j ∧ j ≤ ns.length) ∧ n.ws.length ≤ 4096 ∧ n.bs.length ≤ 4096 := by
  obtain ⟨ns0, W, R, hM, e⟩ := h.made
  rcases e with rfl | rfl
  · exact fun n hn => ⟨hM.inn n hn, hM.wsl n hn⟩
  · intro n hn
    simp only [List.mem_reverse, List.mem_map] at hn
    obtain ⟨n0, h0, rfl⟩ := hn
    have h1 := hM.inn n0 h0
    have h2 := hM.wsl n0 h0
    refine ⟨⟨by rw [turnN_len]; exact h1.1, fun j hj => ?_⟩, h2⟩
    simp only [turnN, List.mem_map] at hj
    obtain ⟨x, hx, rfl⟩ := hj
    have := h1.2 x hx
    simp only [List.length_reverse, List.length_map]
    split <;> omega
theorem nodup_len : ∀ (N : Nat) (l : List Int), l.Nodup → (∀ x ∈ l, 1 ≤ x ∧ x ≤ N) → l.length ≤ N
  | 0, l, _, h => by
    cases l with
    | nil => simp
    | cons x r => have := h x (by simp); omega
  | N + 1, l, hn, h => by
    by_cases hm : ((N : Int) + 1) ∈ l
    · have h1 := nodup_len N (l.erase ((N : Int) + 1)) (hn.erase _) (fun x hx => by
        have h2 := (hn.mem_erase_iff).1 hx
        have := h x h2.2
        omega)
      rw [List.length_erase_of_mem hm] at h1
      omega
    · have := nodup_len N l hn fun x hx => by
        have h2 := h x hx
        have : x ≠ (N : Int) + 1 := fun e => hm (e ▸ hx)
        omega
      omega
theorem all_len : ∀ (N : Nat) (l : List Int), (∀ x : Int, 1 ≤ x → x ≤ N → x ∈ l) → N ≤ l.length
  | 0, _, _ => Nat.zero_le _
  | N + 1, l, h => by
    have hm : ((N : Int) + 1) ∈ l := h _ (by omega) (by omega)
    have h1 := all_len N (l.erase ((N : Int) + 1)) fun x h0 h1 => (List.mem_erase_of_ne (by omega)).2 (h x h0 (by omega))
    rw [List.length_erase_of_mem hm] at h1
    have := List.length_pos_of_mem hm
    omega
theorem ordR_inv {ns : List Nd} (P : List Int → Prop) (step : ∀ (o : List Int) (i : Int), P o → 1 ≤ i → i ≤ ns.length → mayO ns o i = true → (∀ x : Int, 1 ≤ x → x ≤ ns.length → mayO ns o x = true → i ≤ x) → P (o ++ [i])) : ∀ (k : Nat) (o : List Int), P o → P (ordR ns k o)
  | 0, o, h => h
  | k + 1, o, h => by
    unfold ordR
    split
    · exact ordR_inv P step k o h
    · rename_i i hi
      have h1 := nextO_range hi
      exact ordR_inv P step k _ (step o i h (by omega) (by omega) h1.2.2 fun x h2 h3 h4 => by
        have key : ∀ (m : Nat) (l : Int), nextO ns o m l = some i → l ≤ x → i ≤ x := by
          intro m
          induction m with
          | zero => intro l e _; cases e
          | succ m ih =>
            intro l e hl
            unfold nextO at e
            split at e
            · cases e; exact hl
            · rename_i hn
              refine ih (l + 1) e ?_
              rcases Int.lt_or_le l x with h5 | h5
              · omega
              · obtain rfl : l = x := by omega
                exact absurd h4 hn
        exact key _ _ hi h2)
theorem mayO_iff {ns : List Nd} {o : List Int} {i : Int} : mayO ns o i = true ↔ i ∉ o ∧ ∀ j ∈ (nd ns (i - 1)).inn, j = 0 ∨ j ∈ o := by
  unfold mayO
  simp only [Bool.and_eq_true, Bool.not_eq_true', List.all_eq_true, Bool.or_eq_true, beq_iff_eq, List.contains_iff_mem]
  constructor
  · exact fun ⟨h1, h2⟩ => ⟨by simpa using h1, h2⟩
  · exact fun ⟨h1, h2⟩ => ⟨by simpa using h1, h2⟩
theorem order_nodup (ns : List Nd) : (order ns).Nodup := ordR_inv (fun o => o.Nodup) (fun o i h _ _ hm _ => by
  rw [List.nodup_append]
  refine ⟨h, by simp, fun a ha b hb => ?_⟩
  simp at hb; subst hb
  exact fun e => (mayO_iff.1 hm).1 (e ▸ ha)) ns.length [] (by simp)
/-- a ring of nodes -/
def ring (N kk : Int) : Nat → List Nd
  | 0 => []
  | t + 1 => ring N kk t ++ [nB (if (t : Int) = kk - 1 then N + 1 else N + 1 + t + 1)]
end Go.Proofs.YtohhaonjckfkaaaDoor.Aw
namespace Go.Proofs.YtohhaonjckfkaaaDoor.Aw
open Go.RowKit
attribute [local go_sem_proc] Nat.reduceAdd Nat.reduceMul Nat.reduceSub Nat.reduceEqDiff Nat.reduceLeDiff Nat.reduceBEq Nat.reduceBNe Int.reduceToNat reduceIte reduceCtorEq
attribute [local go_sem] initT SQ so pe he ev lk constS stp stc gdS nth pickS pickD loadS cellsAt okAt fieldAddrS fieldS partS indexAddrS indexS extractS binS binD binI isShift unS convS lenS sliceS bndI bndC mmS mm2 mmD builtS fillS okCells cellsS splS solid aliveL alive okS boxS allocS makeS bsliceS elemsOf dcells stF storeS frzA frz frzT frzS frzL frzO frzH appS srcS appVC killS killT killC killH killO k1 k2 S.has S.hasL St.add St.upd dropH lh cond_or cond_and rw_intC rw_intC0 rw_set rw_app rw_apps rw_rep rw_slice wr64 cond_true cond_false true_and and_true List.map_cons List.map_nil List.length_cons List.length_nil List.drop_succ_cons List.drop_zero List.take_succ_cons List.take_zero List.nil_append List.cons_append List.getD_cons_zero List.getD_cons_succ List.headD_cons List.length_map ite_true ite_false if_true if_false Bool.false_eq_true and_self forall_const List.drop_nil List.take_nil List.append_nil Option.map_some Option.map_none List.mapM_cons List.mapM_nil Option.bind_eq_bind Option.bind_some Option.pure_def knows resL resV oneS freshS freshL cv cvL stpL stcL or_true true_or or_false false_or List.all_cons List.all_nil Bool.and_self Bool.or_self Bool.true_and Bool.and_true Bool.or_false Bool.false_or implies_true flatD allm_nil allm_cons List.getElem?_cons_zero List.getElem?_cons_succ Nd.cs Nd.ds ml mln Option.isSome_some Option.isSome_none eq_self Int.toNat_natCast AP ldOk isLd inL subL crt chg chgS chgP idxs aliveW Option.toList_some Option.toList_none Option.toList RetG Nd.win frzA offK keepH aliveK nkH closedH closedO keysK inH St.upd rowO List.contains_cons List.contains_nil Bool.or_self Option.isNone_none Option.isNone_some Bool.not_true Bool.not_false gcs rowN e0N frzC
attribute [local go_sem] sz2 ag2 ok2 kk2 iu2 zc2 zd2 by2 sz3 ag3 ok3 kk3 iu3 zc3 zd3 by3 sz4 ag4 ok4 bo4 zc4 zd4 by4 sz5 ag5 ok5 kk5 iu5 zc5 zd5 by5 sz9 ag9 ok9 st9 zc9 zd9 by9 sz12 ag12 ok12 kk12 iu12 zc12 zd12 by12 sz15 ag15 ok15 zc15 by15 sz16 ag16 ok16 zc16 by16 sz21 ag21 ok21 kk21 iu21 zc21 zd21 by21 sz22 ag22 ok22 sl22 zc22 zd22 by22 sz23 ag23 ok23 zc23 zd23 pl23 by23 fl23_0 fl23_1 fl23_2 sz24 ag24 ok24 zc24 zd24 pl24 by24 fl24_0 fl24_1 fl24_2 sz25 ag25 ok25 zc25 zd25 pl25 by25 fl25_0 fl25_1 sz26 ag26 ok26 zc26 zd26 pl26 by26 fl26_0 fl26_1 sz28 ag28 ok28 zc28 zd28 pl28 by28 fl28_0 fl28_1 fl28_2 fl28_3 fl28_4 fl28_5 fl28_6 fl28_7 fl28_8 fl28_9 fl28_10 fl28_11 fl28_12 fl28_13 fl28_14 sz29 ag29 ok29 zc29 zd29 pl29 by29 fl29_0 fl29_1 fl29_2 fl29_3 fl29_4 fl29_5 fl29_6 fl29_7 fl29_8 fl29_9 fl29_10 fl29_11 fl29_12 fl29_13 fl29_14 sz39 ag39 ok39 kk39 iu39 zc39 zd39 by39 sz43 ag43 ok43 sl43 ar43 zc43 zd43 pl43 by43 sz46 ag46 ok46 sl46 zc46 zd46 by46 sz47 ag47 ok47 zc47 zd47 pl47 by47 fl47_0 fl47_1 fl47_2 fl47_3 fl47_4 sz48 ag48 ok48 zc48 zd48 pl48 by48 fl48_0 fl48_1 fl48_2 fl48_3 fl48_4 sz52 ag52 ok52 zc52 zd52 pl52 by52 fl52_0 fl52_1 fl52_2 sz53 ag53 ok53 zc53 zd53 pl53 by53 fl53_0 fl53_1 fl53_2 sz54 ag54 ok54 sl54 ar54 zc54 zd54 pl54 by54 sz58 ag58 ok58 sl58 zc58 zd58 by58 sz59 ag59 ok59 kk59 iu59 zc59 zd59 by59 sz62 ag62 ok62 sl62 ar62 zc62 zd62 pl62 by62 sz67 ag67 ok67 zc67 by67 sz68 ag68 ok68 zc68 zd68 pl68 by68 fl68_0 fl68_1 sz69 ag69 ok69 zc69 zd69 pl69 by69 fl69_0 fl69_1 sz75 ag75 ok75 zc75 zd75 pl75 by75 fl75_0 fl75_1 fl75_2 sz76 ag76 ok76 zc76 zd76 pl76 by76 fl76_0 fl76_1 fl76_2 sz79 ag79 ok79 zc79 zd79 pl79 by79 fl79_0 fl79_1 fl79_2 fl79_3 sz80 ag80 ok80 zc80 zd80 pl80 by80 fl80_0 fl80_1 fl80_2 fl80_3 sz82 ag82 ok82 zc82 by82 sz84 ag84 ok84 kk84 iu84 zc84 zd84 by84 sz88 ag88 ok88 zc88 zd88 pl88 by88 fl88_0 fl88_1 fl88_2 sz89 ag89 ok89 zc89 zd89 pl89 by89 fl89_0 fl89_1 fl89_2 sz94 ag94 ok94 sl94 ar94 zc94 zd94 pl94 by94 sz98 ag98 ok98 sl98 ar98 zc98 zd98 pl98 by98 sz105 ag105 ok105 sl105 ar105 zc105 zd105 pl105 by105 sz107 ag107 ok107 zc107 zd107 pl107 by107 fl107_0 fl107_1 sz108 ag108 ok108 sl108 ar108 zc108 zd108 pl108 by108 sz109 ag109 ok109 zc109 by109 sz118 ag118 ok118 kk118 iu118 zc118 zd118 by118 sz122 ag122 ok122 zc122 by122
section
theorem Made16_c {T : World → Prop} (Tm : TP T) (l0 : List Int) : Cg Go.Proofs.Tryd.prog T 25 [] [.d (.row [.i .i64 0] (l0.map intC))] PMade := by
  refine Cg_of [2000] Tm Go.Proofs.Tryd.func25 rfl rfl Go.Proofs.Tryd.ntmps25 (by simp) rfl (rs := [.cell 2 48]) rfl fun E hP hn hT hpn => ?_
  (repeat (first | refine Tr.seq ?_ | refine Tr.skip ?_ | refine Tr.label ?_ | refine Tr.block ?_ | refine Tr.scope ?_ | refine gs1 ?_ | refine gs2 ?_ | refine gs3 ?_ | refine Tr.exit ?_ | refine Tr.goto ?_ | refine Tr.ret ?_ | refine n1 ?_ | refine n2 ?_ | refine n3 ?_ | refine n4 ?_ | refine n5 ?_ | refine n6 ?_ | refine n7 ?_ | refine n8 ?_ | refine n9 (by decide) ?_))
  (first | refine r1 ?_ | refine r2 ?_ | refine r3 ?_); intro K hK; simp only [go_sem, hP, hn]; (repeat (refine ⟨by first | trivial | omega | (simp <;> omega) | (simp +contextual; done) | (clear hK; grind), ?_⟩)); refine hK _ ?_; clear K hK
  (repeat (first | refine Tr.seq ?_ | refine Tr.skip ?_ | refine Tr.label ?_ | refine Tr.block ?_ | refine Tr.scope ?_ | refine gs1 ?_ | refine gs2 ?_ | refine gs3 ?_ | refine Tr.exit ?_ | refine Tr.goto ?_ | refine Tr.ret ?_ | refine n1 ?_ | refine n2 ?_ | refine n3 ?_ | refine n4 ?_ | refine n5 ?_ | refine n6 ?_ | refine n7 ?_ | refine n8 ?_ | refine n9 (by decide) ?_))
  (first | refine r1 ?_ | refine r2 ?_ | refine r3 ?_); intro K hK; simp only [go_sem, hP, hn]
  (repeat (refine ⟨by first | trivial | omega | (simp <;> omega) | (simp +contextual; done) | (clear hK; grind), ?_⟩))
  refine CallN_cx (Hi := []) (by rw [hP, hT]; exact Made15_c Tm l0 ) rfl rfl rfl trivial (by simp only [go_sem, hP, hn]; try trivial) (by simp only [go_sem, hP, hn]; try rfl) trivial (by rw [hn]; decide) (fun r Ho hr => ?_); obtain  ⟨wd, lo, hi, out, ns, rfl, rfl, hG⟩ := hr; refine ⟨fun k _ => hpn k rfl, ?_⟩; simp only [cgS, newK, touK, go_sem, hP, hn]; (repeat (refine ⟨by first | trivial | omega | (simp <;> omega) | (simp +contextual; done) | (clear hK; grind), ?_⟩))
  refine hK _ ?_; clear K hK
  (repeat (first | ((first | refine r1 ?_ | refine r2 ?_ | refine r3 ?_); intro K hK; simp only [go_sem, hP, hn]; (repeat (refine ⟨by first | trivial | omega | (simp <;> omega) | (simp +contextual; done) | (clear hK; grind), ?_⟩)); refine hK _ ?_; clear K hK) | refine Tr.seq ?_ | refine Tr.skip ?_ | refine Tr.label ?_ | refine Tr.block ?_ | refine Tr.scope ?_ | refine gs1 ?_ | refine gs2 ?_ | refine gs3 ?_ | refine Tr.exit ?_ | refine Tr.goto ?_ | refine Tr.ret ?_ | refine n1 ?_ | refine n2 ?_ | refine n3 ?_ | refine n4 ?_ | refine n5 ?_ | refine n6 ?_ | refine n7 ?_ | refine n8 ?_ | refine n9 (by decide) ?_))
  simp only [RetG, go_sem]; (repeat (with_reducible refine And.intro ?_ ?_; (· first | trivial | omega | (simp <;> omega) | (simp +contextual; done) | (clear hK; grind))))
  exact ⟨wd, lo, hi, out, ns, rfl, rfl, hG⟩
attribute [local simp] ring
end
theorem has_c {T : World → Prop} (Tm : TP T) (l : List Int) (x : Int) (hl : l.length ≤ 4096) : Ct Go.Proofs.Tryd.prog T 85 [.d (.row [.i .i64 0] (l.map intC)), .d (.i .i64 x)] true (fun r => r = .d (.b (l.contains x))) := by
  refine Ct_of Tm Go.Proofs.Tryd.func85 rfl rfl Go.Proofs.Tryd.ntmps85 (by simp) (rs := [.tmp 4]) rfl fun E hP hn hT => ?_
  (repeat (first | ((first | refine r1 ?_ | refine r2 ?_ | refine r3 ?_); intro K hK; simp only [go_sem, hP, hn]; (repeat (refine ⟨by first | trivial | omega | (simp <;> omega) | (simp +contextual; done) | (clear hK; grind), ?_⟩)); refine hK _ ?_; clear K hK) | refine Tr.seq ?_ | refine Tr.skip ?_ | refine Tr.label ?_ | refine Tr.block ?_ | refine Tr.scope ?_ | refine gs1 ?_ | refine gs2 ?_ | refine gs3 ?_ | refine Tr.exit ?_ | refine Tr.goto ?_ | refine Tr.ret ?_ | refine n1 ?_ | refine n2 ?_ | refine n3 ?_ | refine n4 ?_ | refine n5 ?_ | refine n6 ?_ | refine n7 ?_ | refine n8 ?_ | refine n9 (by decide) ?_))
  refine Tr.loop (fun n s => ∃ j : Int, s = ⟨[(0, .d (.row [.i .i64 0] (l.map intC))), (1, .d (.i .i64 x)), (5, .d (.i .i64 j))], []⟩ ∧ 0 ≤ j ∧ j + n = l.length ∧ l.contains x = (l.drop j.toNat).contains x) l.length ⟨_, (Le.mv (by simp only [go_sem, hP, hn]; first | done | (simp; done) | (simp [intC]; done) | (repeat (first | rfl | constructor))) (by simp only [go_sem, hP, hn]; first | done | (simp; done) | (simp [intC]; done) | (repeat (first | rfl | constructor)))), 0, rfl, by omega, by omega, by simp⟩ ?_
  rintro n s ⟨j, rfl, h0, h1, h2⟩
  (repeat (first | ((first | refine r1 ?_ | refine r2 ?_ | refine r3 ?_); intro K hK; simp only [go_sem, hP, hn]; (repeat (refine ⟨by first | trivial | omega | (simp <;> omega) | (simp +contextual; done) | (clear hK; grind), ?_⟩)); refine hK _ ?_; clear K hK) | refine Tr.seq ?_ | refine Tr.skip ?_ | refine Tr.label ?_ | refine Tr.block ?_ | refine Tr.scope ?_ | refine gs1 ?_ | refine gs2 ?_ | refine gs3 ?_ | refine Tr.exit ?_ | refine Tr.goto ?_ | refine Tr.ret ?_ | refine n1 ?_ | refine n2 ?_ | refine n3 ?_ | refine n4 ?_ | refine n5 ?_ | refine n6 ?_ | refine n7 ?_ | refine n8 ?_ | refine n9 (by decide) ?_))
  refine Tr.cond rfl (fun hb => ?_) (fun hb => ?_)
  · have hj : j < l.length := by simpa using hb
    (repeat (first | ((first | refine r1 ?_ | refine r2 ?_ | refine r3 ?_); intro K hK; simp only [go_sem, hP, hn]; (repeat (refine ⟨by first | trivial | omega | (simp <;> omega) | (simp +contextual; done) | (clear hK; grind), ?_⟩)); refine hK _ ?_; clear K hK) | refine Tr.seq ?_ | refine Tr.skip ?_ | refine Tr.label ?_ | refine Tr.block ?_ | refine Tr.scope ?_ | refine gs1 ?_ | refine gs2 ?_ | refine gs3 ?_ | refine Tr.exit ?_ | refine Tr.goto ?_ | refine Tr.ret ?_ | refine n1 ?_ | refine n2 ?_ | refine n3 ?_ | refine n4 ?_ | refine n5 ?_ | refine n6 ?_ | refine n7 ?_ | refine n8 ?_ | refine n9 (by decide) ?_))
    refine Tr.cond rfl (fun hb => ?_) (fun hb => ?_)
    · (repeat (first | ((first | refine r1 ?_ | refine r2 ?_ | refine r3 ?_); intro K hK; simp only [go_sem, hP, hn]; (repeat (refine ⟨by first | trivial | omega | (simp <;> omega) | (simp +contextual; done) | (clear hK; grind), ?_⟩)); refine hK _ ?_; clear K hK) | refine Tr.seq ?_ | refine Tr.skip ?_ | refine Tr.label ?_ | refine Tr.block ?_ | refine Tr.scope ?_ | refine gs1 ?_ | refine gs2 ?_ | refine gs3 ?_ | refine Tr.exit ?_ | refine Tr.goto ?_ | refine Tr.ret ?_ | refine n1 ?_ | refine n2 ?_ | refine n3 ?_ | refine n4 ?_ | refine n5 ?_ | refine n6 ?_ | refine n7 ?_ | refine n8 ?_ | refine n9 (by decide) ?_))
      simp only [RetQ, go_sem]
      rw [h2, drop_rd h0 hj]
      simp_all
    · (repeat (first | ((first | refine r1 ?_ | refine r2 ?_ | refine r3 ?_); intro K hK; simp only [go_sem, hP, hn]; (repeat (refine ⟨by first | trivial | omega | (simp <;> omega) | (simp +contextual; done) | (clear hK; grind), ?_⟩)); refine hK _ ?_; clear K hK) | refine Tr.seq ?_ | refine Tr.skip ?_ | refine Tr.label ?_ | refine Tr.block ?_ | refine Tr.scope ?_ | refine gs1 ?_ | refine gs2 ?_ | refine gs3 ?_ | refine Tr.exit ?_ | refine Tr.goto ?_ | refine Tr.ret ?_ | refine n1 ?_ | refine n2 ?_ | refine n3 ?_ | refine n4 ?_ | refine n5 ?_ | refine n6 ?_ | refine n7 ?_ | refine n8 ?_ | refine n9 (by decide) ?_))
      rw [w64 (by omega) (by omega)]
      refine ⟨n - 1, _, by omega, ?_, j + 1, rfl, by omega, by omega, ?_⟩
      · exact (Le.mv (by simp only [go_sem, hP, hn]; first | done | (simp; done) | (simp [intC]; done) | (repeat (first | rfl | constructor))) (by simp only [go_sem, hP, hn]; first | done | (simp; done) | (simp [intC]; done) | (repeat (first | rfl | constructor))))
      rw [h2, drop_rd h0 hj, List.contains_cons, show (x == rd l j) = false by rw [Bool.beq_comm]; exact hb, Bool.false_or]
  · (repeat (first | ((first | refine r1 ?_ | refine r2 ?_ | refine r3 ?_); intro K hK; simp only [go_sem, hP, hn]; (repeat (refine ⟨by first | trivial | omega | (simp <;> omega) | (simp +contextual; done) | (clear hK; grind), ?_⟩)); refine hK _ ?_; clear K hK) | refine Tr.seq ?_ | refine Tr.skip ?_ | refine Tr.label ?_ | refine Tr.block ?_ | refine Tr.scope ?_ | refine gs1 ?_ | refine gs2 ?_ | refine gs3 ?_ | refine Tr.exit ?_ | refine Tr.goto ?_ | refine Tr.ret ?_ | refine n1 ?_ | refine n2 ?_ | refine n3 ?_ | refine n4 ?_ | refine n5 ?_ | refine n6 ?_ | refine n7 ?_ | refine n8 ?_ | refine n9 (by decide) ?_))
    simp only [RetQ, go_sem]
    rw [h2, drop_end (by simpa using hb)]
    rfl
theorem first_r {T : World → Prop} (Tm : TP T) (wd lo hi out : Int) (ns : List Nd) (hns : ns.length ≤ 65536) (hin : ∀ n ∈ ns, n.inn.length ≤ 65536) : Ct Go.Proofs.Tryd.prog T 77 [.agg (gcs wd lo hi out (.d (rowN ns)))] true (fun r => r = .d (.i .i64 (mayG wd lo hi out ns))) := by
  refine Ct_of Tm Go.Proofs.Tryd.func77 rfl rfl Go.Proofs.Tryd.ntmps77 (by simp) (rs := [.tmp 2]) rfl fun E hP hn hT => ?_
  (repeat (first | ((first | refine r1 ?_ | refine r2 ?_ | refine r3 ?_); intro K hK; simp only [go_sem, hP, hn]; (repeat (refine ⟨by first | trivial | omega | (simp <;> omega) | (simp +contextual; done) | (clear hK; grind), ?_⟩)); refine hK _ ?_; clear K hK) | refine Tr.seq ?_ | refine Tr.skip ?_ | refine Tr.label ?_ | refine Tr.block ?_ | refine Tr.scope ?_ | refine gs1 ?_ | refine gs2 ?_ | refine gs3 ?_ | refine Tr.exit ?_ | refine Tr.goto ?_ | refine Tr.ret ?_ | refine n1 ?_ | refine n2 ?_ | refine n3 ?_ | refine n4 ?_ | refine n5 ?_ | refine n6 ?_ | refine n7 ?_ | refine n8 ?_ | refine n9 (by decide) ?_))
  refine Tr.cond rfl (fun h1 => ?_) (fun h1 => ?_)
  · (repeat (first | ((first | refine r1 ?_ | refine r2 ?_ | refine r3 ?_); intro K hK; simp only [go_sem, hP, hn]; (repeat (refine ⟨by first | trivial | omega | (simp <;> omega) | (simp +contextual; done) | (clear hK; grind), ?_⟩)); refine hK _ ?_; clear K hK) | refine Tr.seq ?_ | refine Tr.skip ?_ | refine Tr.label ?_ | refine Tr.block ?_ | refine Tr.scope ?_ | refine gs1 ?_ | refine gs2 ?_ | refine gs3 ?_ | refine Tr.exit ?_ | refine Tr.goto ?_ | refine Tr.ret ?_ | refine n1 ?_ | refine n2 ?_ | refine n3 ?_ | refine n4 ?_ | refine n5 ?_ | refine n6 ?_ | refine n7 ?_ | refine n8 ?_ | refine n9 (by decide) ?_))
    simp only [RetQ, go_sem]
    unfold mayG; rw [if_pos h1]
  (repeat (first | ((first | refine r1 ?_ | refine r2 ?_ | refine r3 ?_); intro K hK; simp only [go_sem, hP, hn]; (repeat (refine ⟨by first | trivial | omega | (simp <;> omega) | (simp +contextual; done) | (clear hK; grind), ?_⟩)); refine hK _ ?_; clear K hK) | refine Tr.seq ?_ | refine Tr.skip ?_ | refine Tr.label ?_ | refine Tr.block ?_ | refine Tr.scope ?_ | refine gs1 ?_ | refine gs2 ?_ | refine gs3 ?_ | refine Tr.exit ?_ | refine Tr.goto ?_ | refine Tr.ret ?_ | refine n1 ?_ | refine n2 ?_ | refine n3 ?_ | refine n4 ?_ | refine n5 ?_ | refine n6 ?_ | refine n7 ?_ | refine n8 ?_ | refine n9 (by decide) ?_))
  refine Tr.cond rfl (fun h2 => ?_) (fun h2 => ?_)
  · (repeat (first | ((first | refine r1 ?_ | refine r2 ?_ | refine r3 ?_); intro K hK; simp only [go_sem, hP, hn]; (repeat (refine ⟨by first | trivial | omega | (simp <;> omega) | (simp +contextual; done) | (clear hK; grind), ?_⟩)); refine hK _ ?_; clear K hK) | refine Tr.seq ?_ | refine Tr.skip ?_ | refine Tr.label ?_ | refine Tr.block ?_ | refine Tr.scope ?_ | refine gs1 ?_ | refine gs2 ?_ | refine gs3 ?_ | refine Tr.exit ?_ | refine Tr.goto ?_ | refine Tr.ret ?_ | refine n1 ?_ | refine n2 ?_ | refine n3 ?_ | refine n4 ?_ | refine n5 ?_ | refine n6 ?_ | refine n7 ?_ | refine n8 ?_ | refine n9 (by decide) ?_))
    simp only [RetQ, go_sem]
    unfold mayG; rw [if_neg (by rw [h1]; decide), if_pos (show mayQ wd lo hi out ns.length = true from h2)]
  have hN : ns.length ≤ 12 := by
    simp only [Bool.or_eq_false_iff, decide_eq_false_iff_not] at h1; omega
  have key : ∀ b, ns.all (mayN ns.length) = b → mayG wd lo hi out ns = if b = true then 0 else 1 := fun b e => by
    unfold mayG; rw [if_neg (by rw [h1]; decide), if_neg (show ¬ mayQ wd lo hi out ns.length = true from fun h => by rw [show mayQ wd lo hi out ns.length = false from h2] at h; cases h), e]
  clear h1 h2
  (repeat (first | ((first | refine r1 ?_ | refine r2 ?_ | refine r3 ?_); intro K hK; simp only [go_sem, hP, hn]; (repeat (refine ⟨by first | trivial | omega | (simp <;> omega) | (simp +contextual; done) | (clear hK; grind), ?_⟩)); refine hK _ ?_; clear K hK) | refine Tr.seq ?_ | refine Tr.skip ?_ | refine Tr.label ?_ | refine Tr.block ?_ | refine Tr.scope ?_ | refine gs1 ?_ | refine gs2 ?_ | refine gs3 ?_ | refine Tr.exit ?_ | refine Tr.goto ?_ | refine Tr.ret ?_ | refine n1 ?_ | refine n2 ?_ | refine n3 ?_ | refine n4 ?_ | refine n5 ?_ | refine n6 ?_ | refine n7 ?_ | refine n8 ?_ | refine n9 (by decide) ?_))
  refine Tr.le (Le.keep [1, 2, 3, 4]) ?_; simp only [List.map_cons, List.map_nil, lk, Nat.reduceEqDiff, reduceIte]
  refine Tr.loop (fun m s => ∃ (i : Int), s = ⟨[(1, .ptr 1 0), (2, .d (.i .i64 0)), (3, .d (.i .i64 ns.length)), (4, .d (.i .i64 i))], [(1, .box 48 (gcs wd lo hi out (.d (rowN ns))))]⟩ ∧ 0 ≤ i ∧ i + m = ns.length ∧ ns.all (mayN ns.length) = (ns.drop i.toNat).all (mayN ns.length)) ns.length ⟨_, (Le.mv (by simp only [go_sem, hP, hn]; first | done | (simp; done) | (simp [intC]; done) | (repeat (first | rfl | constructor))) (by simp only [go_sem, hP, hn]; first | done | (simp; done) | (simp [intC]; done) | (repeat (first | rfl | constructor)))), 0, rfl, by omega, by omega, by simp⟩ ?_
  rintro m s ⟨i, rfl, hi0, him, hall⟩
  (repeat (first | ((first | refine r1 ?_ | refine r2 ?_ | refine r3 ?_); intro K hK; simp only [go_sem, hP, hn]; (repeat (refine ⟨by first | trivial | omega | (simp <;> omega) | (simp +contextual; done) | (clear hK; grind), ?_⟩)); refine hK _ ?_; clear K hK) | refine Tr.seq ?_ | refine Tr.skip ?_ | refine Tr.label ?_ | refine Tr.block ?_ | refine Tr.scope ?_ | refine gs1 ?_ | refine gs2 ?_ | refine gs3 ?_ | refine Tr.exit ?_ | refine Tr.goto ?_ | refine Tr.ret ?_ | refine n1 ?_ | refine n2 ?_ | refine n3 ?_ | refine n4 ?_ | refine n5 ?_ | refine n6 ?_ | refine n7 ?_ | refine n8 ?_ | refine n9 (by decide) ?_))
  refine Tr.cond rfl (fun hb => ?_) (fun hb => ?_)
  · have hi1 : i < ns.length := by simpa using hb
    have hnd := rw_nd ns i hi0 hi1
    have hq := hin _ (nd_mem hi0 hi1)
    rw [drop_nd hi0 hi1, List.all_cons] at hall
    (repeat (first | ((first | refine r1 ?_ | refine r2 ?_ | refine r3 ?_); intro K hK; simp only [go_sem, hP, hn]; (repeat (refine ⟨by first | trivial | omega | (simp <;> omega) | (simp +contextual; done) | (clear hK; grind), ?_⟩)); refine hK _ ?_; clear K hK) | refine Tr.seq ?_ | refine Tr.skip ?_ | refine Tr.label ?_ | refine Tr.block ?_ | refine Tr.scope ?_ | refine gs1 ?_ | refine gs2 ?_ | refine gs3 ?_ | refine Tr.exit ?_ | refine Tr.goto ?_ | refine Tr.ret ?_ | refine n1 ?_ | refine n2 ?_ | refine n3 ?_ | refine n4 ?_ | refine n5 ?_ | refine n6 ?_ | refine n7 ?_ | refine n8 ?_ | refine n9 (by decide) ?_))
    refine Tr.le (Le.keep [1, 2, 3, 4, 5]) ?_; simp only [List.map_cons, List.map_nil, lk, Nat.reduceEqDiff, reduceIte]
    refine Tr.loop (fun m2 s => ∃ (j : Int), s = ⟨[(1, .ptr 1 0), (2, .d (.i .i64 0)), (3, .d (.i .i64 ns.length)), (4, .d (.i .i64 i)), (5, .d (.i .i64 j))], [(1, .box 48 (gcs wd lo hi out (.d (rowN ns))))]⟩ ∧ 0 ≤ j ∧ j + m2 = (nd ns i).inn.length ∧ mayN ns.length (nd ns i) = ((nd ns i).inn.drop j.toNat).all (inB · 0 ns.length)) (nd ns i).inn.length ⟨_, (Le.mv (by simp only [go_sem, hP, hn]; first | done | (simp; done) | (simp [intC]; done) | (repeat (first | rfl | constructor))) (by simp only [go_sem, hP, hn]; first | done | (simp; done) | (simp [intC]; done) | (repeat (first | rfl | constructor)))), 0, rfl, by omega, by omega, by simp [mayN]⟩ ?_
    rintro m2 s ⟨j, rfl, hj0, hjm, hqa⟩
    (repeat (first | refine Tr.seq ?_ | refine Tr.skip ?_ | refine Tr.label ?_ | refine Tr.block ?_ | refine Tr.scope ?_ | refine gs1 ?_ | refine gs2 ?_ | refine gs3 ?_ | refine Tr.exit ?_ | refine Tr.goto ?_ | refine Tr.ret ?_ | refine n1 ?_ | refine n2 ?_ | refine n3 ?_ | refine n4 ?_ | refine n5 ?_ | refine n6 ?_ | refine n7 ?_ | refine n8 ?_ | refine n9 (by decide) ?_))
    (first | refine r1 ?_ | refine r2 ?_ | refine r3 ?_); intro K hK; simp only [hnd, go_sem, hP, hn]; (repeat (refine ⟨by first | trivial | omega | (simp <;> omega) | (simp +contextual; done) | (clear hK; grind), ?_⟩)); refine hK _ ?_; clear K hK
    (repeat (first | refine Tr.seq ?_ | refine Tr.skip ?_ | refine Tr.label ?_ | refine Tr.block ?_ | refine Tr.scope ?_ | refine gs1 ?_ | refine gs2 ?_ | refine gs3 ?_ | refine Tr.exit ?_ | refine Tr.goto ?_ | refine Tr.ret ?_ | refine n1 ?_ | refine n2 ?_ | refine n3 ?_ | refine n4 ?_ | refine n5 ?_ | refine n6 ?_ | refine n7 ?_ | refine n8 ?_ | refine n9 (by decide) ?_))
    refine Tr.cond rfl (fun hc => ?_) (fun hc => ?_)
    · have hj : j < (nd ns i).inn.length := by simpa using hc
      rw [drop_rd hj0 hj, List.all_cons] at hqa
      (repeat (first | refine Tr.seq ?_ | refine Tr.skip ?_ | refine Tr.label ?_ | refine Tr.block ?_ | refine Tr.scope ?_ | refine gs1 ?_ | refine gs2 ?_ | refine gs3 ?_ | refine Tr.exit ?_ | refine Tr.goto ?_ | refine Tr.ret ?_ | refine n1 ?_ | refine n2 ?_ | refine n3 ?_ | refine n4 ?_ | refine n5 ?_ | refine n6 ?_ | refine n7 ?_ | refine n8 ?_ | refine n9 (by decide) ?_))
      (first | refine r1 ?_ | refine r2 ?_ | refine r3 ?_); intro K hK; simp only [hnd, go_sem, hP, hn]; (repeat (refine ⟨by first | trivial | omega | (simp <;> omega) | (simp +contextual; done) | (clear hK; grind), ?_⟩)); refine hK _ ?_; clear K hK
      refine Tr.cond rfl (fun hd => ?_) (fun hd => ?_)
      · (repeat (first | ((first | refine r1 ?_ | refine r2 ?_ | refine r3 ?_); intro K hK; simp only [go_sem, hP, hn]; (repeat (refine ⟨by first | trivial | omega | (simp <;> omega) | (simp +contextual; done) | (clear hK; grind), ?_⟩)); refine hK _ ?_; clear K hK) | refine Tr.seq ?_ | refine Tr.skip ?_ | refine Tr.label ?_ | refine Tr.block ?_ | refine Tr.scope ?_ | refine gs1 ?_ | refine gs2 ?_ | refine gs3 ?_ | refine Tr.exit ?_ | refine Tr.goto ?_ | refine Tr.ret ?_ | refine n1 ?_ | refine n2 ?_ | refine n3 ?_ | refine n4 ?_ | refine n5 ?_ | refine n6 ?_ | refine n7 ?_ | refine n8 ?_ | refine n9 (by decide) ?_))
        simp only [RetQ, go_sem]
        have : inB (rd (nd ns i).inn j) 0 ns.length = false := by
          unfold inB; simp only [Bool.or_eq_true, decide_eq_true_eq] at hd; simp; omega
        rw [key false (by rw [hall, hqa, this, Bool.false_and, Bool.false_and])]; rfl
      · (repeat (first | ((first | refine r1 ?_ | refine r2 ?_ | refine r3 ?_); intro K hK; simp only [go_sem, hP, hn]; (repeat (refine ⟨by first | trivial | omega | (simp <;> omega) | (simp +contextual; done) | (clear hK; grind), ?_⟩)); refine hK _ ?_; clear K hK) | refine Tr.seq ?_ | refine Tr.skip ?_ | refine Tr.label ?_ | refine Tr.block ?_ | refine Tr.scope ?_ | refine gs1 ?_ | refine gs2 ?_ | refine gs3 ?_ | refine Tr.exit ?_ | refine Tr.goto ?_ | refine Tr.ret ?_ | refine n1 ?_ | refine n2 ?_ | refine n3 ?_ | refine n4 ?_ | refine n5 ?_ | refine n6 ?_ | refine n7 ?_ | refine n8 ?_ | refine n9 (by decide) ?_))
        rw [w64 (x := j + 1) (by omega) (by omega)]
        refine ⟨m2 - 1, _, by omega, ?_, j + 1, rfl, by omega, by omega, ?_⟩
        · exact (Le.mv (by simp only [go_sem, hP, hn]; first | done | (simp; done) | (simp [intC]; done) | (repeat (first | rfl | constructor))) (by simp only [go_sem, hP, hn]; first | done | (simp; done) | (simp [intC]; done) | (repeat (first | rfl | constructor))))
        have : inB (rd (nd ns i).inn j) 0 ns.length = true := by
          unfold inB; simp only [Bool.or_eq_false_iff, decide_eq_false_iff_not] at hd; simp; omega
        rw [hqa, this, Bool.true_and]
    · rw [drop_end (by simpa using hc)] at hqa
      (repeat (first | ((first | refine r1 ?_ | refine r2 ?_ | refine r3 ?_); intro K hK; simp only [go_sem, hP, hn]; (repeat (refine ⟨by first | trivial | omega | (simp <;> omega) | (simp +contextual; done) | (clear hK; grind), ?_⟩)); refine hK _ ?_; clear K hK) | refine Tr.seq ?_ | refine Tr.skip ?_ | refine Tr.label ?_ | refine Tr.block ?_ | refine Tr.scope ?_ | refine gs1 ?_ | refine gs2 ?_ | refine gs3 ?_ | refine Tr.exit ?_ | refine Tr.goto ?_ | refine Tr.ret ?_ | refine n1 ?_ | refine n2 ?_ | refine n3 ?_ | refine n4 ?_ | refine n5 ?_ | refine n6 ?_ | refine n7 ?_ | refine n8 ?_ | refine n9 (by decide) ?_))
      rw [w64 (x := i + 1) (by omega) (by omega)]
      refine ⟨m - 1, _, by omega, ?_, i + 1, rfl, by omega, by omega, ?_⟩
      · exact (Le.mv (by simp only [go_sem, hP, hn]; first | done | (simp; done) | (simp [intC]; done) | (repeat (first | rfl | constructor))) (by simp only [go_sem, hP, hn]; first | done | (simp; done) | (simp [intC]; done) | (repeat (first | rfl | constructor))))
      rw [hall, hqa]; rfl
  · rw [drop_end (by simpa using hb)] at hall
    (repeat (first | ((first | refine r1 ?_ | refine r2 ?_ | refine r3 ?_); intro K hK; simp only [go_sem, hP, hn]; (repeat (refine ⟨by first | trivial | omega | (simp <;> omega) | (simp +contextual; done) | (clear hK; grind), ?_⟩)); refine hK _ ?_; clear K hK) | refine Tr.seq ?_ | refine Tr.skip ?_ | refine Tr.label ?_ | refine Tr.block ?_ | refine Tr.scope ?_ | refine gs1 ?_ | refine gs2 ?_ | refine gs3 ?_ | refine Tr.exit ?_ | refine Tr.goto ?_ | refine Tr.ret ?_ | refine n1 ?_ | refine n2 ?_ | refine n3 ?_ | refine n4 ?_ | refine n5 ?_ | refine n6 ?_ | refine n7 ?_ | refine n8 ?_ | refine n9 (by decide) ?_))
    simp only [RetQ, go_sem]
    rw [key true (by rw [hall]; rfl)]; rfl
theorem cons0 (o : List Int) (x : Int) : (0 :: o).contains x = (x == 0 || o.contains x) := by simp only [List.contains_cons]
theorem order_r {T : World → Prop} (Tm : TP T) (wd lo hi out : Int) (ns : List Nd) (hns : ns.length ≤ 12) (hin : ∀ n ∈ ns, n.inn.length ≤ 65536) : Cg Go.Proofs.Tryd.prog T 78 [] [.agg (gcs wd lo hi out (.d (rowN ns)))] (fun r H => H = [] ∧ r = .d (.row [.i .i64 0] ((order ns).map intC))) := by
  refine Cg_of [] Tm Go.Proofs.Tryd.func78 rfl rfl Go.Proofs.Tryd.ntmps78 (by simp) rfl (rs := [.tmp 2]) rfl fun E hP hn hT hpn => ?_
  (repeat (first | ((first | refine r1 ?_ | refine r2 ?_ | refine r3 ?_); intro K hK; simp only [go_sem, hP, hn]; (repeat (refine ⟨by first | trivial | omega | (simp <;> omega) | (simp +contextual; done) | (clear hK; grind), ?_⟩)); refine hK _ ?_; clear K hK) | refine Tr.seq ?_ | refine Tr.skip ?_ | refine Tr.label ?_ | refine Tr.block ?_ | refine Tr.scope ?_ | refine gs1 ?_ | refine gs2 ?_ | refine gs3 ?_ | refine Tr.exit ?_ | refine Tr.goto ?_ | refine Tr.ret ?_ | refine n1 ?_ | refine n2 ?_ | refine n3 ?_ | refine n4 ?_ | refine n5 ?_ | refine n6 ?_ | refine n7 ?_ | refine n8 ?_ | refine n9 (by decide) ?_))
  refine Tr.le (Le.keep [1, 3, 4]) ?_; simp only [List.map_cons, List.map_nil, lk, Nat.reduceEqDiff, reduceIte]
  refine Tr.le (Le.ren 9 3001 (by rw [hpn] <;> rfl) rfl rfl) ?_; simp only [renT, renH, renO, renS, renL, rn, go_sem, hP, hn]
  refine Tr.loop (fun m s => ∃ (k : Int) (o : List Int), s = ⟨[(1, .ptr 1 0), (3, .own 3001), (4, .d (.i .i64 k))], [(1, .box 48 (gcs wd lo hi out (.d (rowN ns)))), (3001, .row 3 [.i .i64 0] ((0 :: o).map intC))]⟩ ∧ 0 ≤ k ∧ k + m = ns.length ∧ order ns = ordR ns m o ∧ (o.length : Int) ≤ k) ns.length ⟨_, (Le.mv (by simp only [go_sem, hP, hn]; first | done | (simp; done) | (simp [intC]; done) | (repeat (first | rfl | constructor))) (by simp only [go_sem, hP, hn]; first | done | (simp; done) | (simp [intC]; done) | (repeat (first | rfl | constructor)))), 0, [], rfl, by omega, by omega, rfl, by simp⟩ ?_
  rintro m s ⟨k, o, rfl, hk0, hkm, hord, hok⟩
  (repeat (first | ((first | refine r1 ?_ | refine r2 ?_ | refine r3 ?_); intro K hK; simp only [go_sem, hP, hn]; (repeat (refine ⟨by first | trivial | omega | (simp <;> omega) | (simp +contextual; done) | (clear hK; grind), ?_⟩)); refine hK _ ?_; clear K hK) | refine Tr.seq ?_ | refine Tr.skip ?_ | refine Tr.label ?_ | refine Tr.block ?_ | refine Tr.scope ?_ | refine gs1 ?_ | refine gs2 ?_ | refine gs3 ?_ | refine Tr.exit ?_ | refine Tr.goto ?_ | refine Tr.ret ?_ | refine n1 ?_ | refine n2 ?_ | refine n3 ?_ | refine n4 ?_ | refine n5 ?_ | refine n6 ?_ | refine n7 ?_ | refine n8 ?_ | refine n9 (by decide) ?_))
  refine Tr.cond rfl (fun hb => ?_) (fun hb => ?_)
  · have hk : k < ns.length := by simpa using hb
    have hnx0 : order ns = match nextO ns o ns.length 1 with
      | none => ordR ns (m - 1) o
      | some i => ordR ns (m - 1) (o ++ [i]) := by
      rw [hord]
      obtain ⟨m', rfl⟩ : ∃ m', m = m' + 1 := ⟨m - 1, by omega⟩
      rfl
    (repeat (first | ((first | refine r1 ?_ | refine r2 ?_ | refine r3 ?_); intro K hK; simp only [go_sem, hP, hn]; (repeat (refine ⟨by first | trivial | omega | (simp <;> omega) | (simp +contextual; done) | (clear hK; grind), ?_⟩)); refine hK _ ?_; clear K hK) | refine Tr.seq ?_ | refine Tr.skip ?_ | refine Tr.label ?_ | refine Tr.block ?_ | refine Tr.scope ?_ | refine gs1 ?_ | refine gs2 ?_ | refine gs3 ?_ | refine Tr.exit ?_ | refine Tr.goto ?_ | refine Tr.ret ?_ | refine n1 ?_ | refine n2 ?_ | refine n3 ?_ | refine n4 ?_ | refine n5 ?_ | refine n6 ?_ | refine n7 ?_ | refine n8 ?_ | refine n9 (by decide) ?_))
    refine Tr.le (Le.keep [1, 3, 4, 5]) ?_; simp only [List.map_cons, List.map_nil, lk, Nat.reduceEqDiff, reduceIte]
    refine Tr.loop (fun m2 s => ∃ (i : Int), s = ⟨[(1, .ptr 1 0), (3, .own 3001), (4, .d (.i .i64 k)), (5, .d (.i .i64 i))], [(1, .box 48 (gcs wd lo hi out (.d (rowN ns)))), (3001, .row 3 [.i .i64 0] ((0 :: o).map intC))]⟩ ∧ 1 ≤ i ∧ i + m2 = ns.length + 1 ∧ nextO ns o ns.length 1 = nextO ns o m2 i) ns.length ⟨_, (Le.mv (by simp only [go_sem, hP, hn]; first | done | (simp; done) | (simp [intC]; done) | (repeat (first | rfl | constructor))) (by simp only [go_sem, hP, hn]; first | done | (simp; done) | (simp [intC]; done) | (repeat (first | rfl | constructor)))), 1, rfl, by omega, by omega, rfl⟩ ?_
    rintro m2 s ⟨i, rfl, hi0, him, hnx⟩
    (repeat (first | ((first | refine r1 ?_ | refine r2 ?_ | refine r3 ?_); intro K hK; simp only [go_sem, hP, hn]; (repeat (refine ⟨by first | trivial | omega | (simp <;> omega) | (simp +contextual; done) | (clear hK; grind), ?_⟩)); refine hK _ ?_; clear K hK) | refine Tr.seq ?_ | refine Tr.skip ?_ | refine Tr.label ?_ | refine Tr.block ?_ | refine Tr.scope ?_ | refine gs1 ?_ | refine gs2 ?_ | refine gs3 ?_ | refine Tr.exit ?_ | refine Tr.goto ?_ | refine Tr.ret ?_ | refine n1 ?_ | refine n2 ?_ | refine n3 ?_ | refine n4 ?_ | refine n5 ?_ | refine n6 ?_ | refine n7 ?_ | refine n8 ?_ | refine n9 (by decide) ?_))
    refine Tr.cond rfl (fun hc => ?_) (fun hc => ?_)
    · have hi1 : i ≤ ns.length := by simpa using hc
      obtain ⟨m3, rfl⟩ : ∃ m3, m2 = m3 + 1 := ⟨m2 - 1, by omega⟩
      have hiw : wrap64 (i - 1) = i - 1 := w64 (by omega) (by omega)
      have hnd := rw_nd ns (i - 1) (by omega) (by omega)
      have hq := hin _ (nd_mem (ns := ns) (i := i - 1) (by omega) (by omega))
      have hmay : mayO ns o i = (!(0 :: o).contains i && (nd ns (i - 1)).inn.all fun j => (0 :: o).contains j) := by
        unfold mayO
        simp only [cons0, show (i == (0 : Int)) = false by simpa using (by omega : i ≠ 0), Bool.false_or]
      have hol : (0 :: o).length ≤ 4096 := by simp; omega
      (repeat (first | refine Tr.seq ?_ | refine Tr.skip ?_ | refine Tr.label ?_ | refine Tr.block ?_ | refine Tr.scope ?_ | refine gs1 ?_ | refine gs2 ?_ | refine gs3 ?_ | refine Tr.exit ?_ | refine Tr.goto ?_ | refine Tr.ret ?_ | refine n1 ?_ | refine n2 ?_ | refine n3 ?_ | refine n4 ?_ | refine n5 ?_ | refine n6 ?_ | refine n7 ?_ | refine n8 ?_ | refine n9 (by decide) ?_))
      (first | refine r1 ?_ | refine r2 ?_ | refine r3 ?_); intro K hK; simp only [go_sem, hP, hn]
      (repeat (refine ⟨by first | trivial | omega | (simp <;> omega) | (simp +contextual; done) | (clear hK; grind), ?_⟩))
      refine c1 (by rw [hP, hT]; exact has_c Tm (0 :: o) i hol) rfl rfl rfl trivial (by simp only [go_sem, hP, hn]; try trivial) (by simp only [go_sem, hP, hn]; try rfl) (by rw [hn]; decide) (by rfl) ?_; simp only [go_sem, hP, hn]; (repeat (refine ⟨by first | trivial | omega | (simp <;> omega) | (simp +contextual; done) | (clear hK; grind), ?_⟩))
      refine hK _ ?_; clear K hK
      refine Tr.le (Le.keep [1, 3, 4, 5, 6]) ?_; simp only [List.map_cons, List.map_nil, lk, Nat.reduceEqDiff, reduceIte]
      (repeat (first | refine Tr.seq ?_ | refine Tr.skip ?_ | refine Tr.label ?_ | refine Tr.block ?_ | refine Tr.scope ?_ | refine gs1 ?_ | refine gs2 ?_ | refine gs3 ?_ | refine Tr.exit ?_ | refine Tr.goto ?_ | refine Tr.ret ?_ | refine n1 ?_ | refine n2 ?_ | refine n3 ?_ | refine n4 ?_ | refine n5 ?_ | refine n6 ?_ | refine n7 ?_ | refine n8 ?_ | refine n9 (by decide) ?_))
      (first | refine r1 ?_ | refine r2 ?_ | refine r3 ?_); intro K hK; simp only [hiw, hnd, go_sem, hP, hn]; (repeat (refine ⟨by first | trivial | omega | (simp <;> omega) | (simp +contextual; done) | (clear hK; grind), ?_⟩)); refine hK _ ?_; clear K hK
      generalize nd ns (i - 1) = q at hq hmay ⊢
      (repeat (first | ((first | refine r1 ?_ | refine r2 ?_ | refine r3 ?_); intro K hK; simp only [go_sem, hP, hn]; (repeat (refine ⟨by first | trivial | omega | (simp <;> omega) | (simp +contextual; done) | (clear hK; grind), ?_⟩)); refine hK _ ?_; clear K hK) | refine Tr.seq ?_ | refine Tr.skip ?_ | refine Tr.label ?_ | refine Tr.block ?_ | refine Tr.scope ?_ | refine gs1 ?_ | refine gs2 ?_ | refine gs3 ?_ | refine Tr.exit ?_ | refine Tr.goto ?_ | refine Tr.ret ?_ | refine n1 ?_ | refine n2 ?_ | refine n3 ?_ | refine n4 ?_ | refine n5 ?_ | refine n6 ?_ | refine n7 ?_ | refine n8 ?_ | refine n9 (by decide) ?_))
      refine Tr.le (Le.keep [1, 3, 4, 5, 6, 7, 8]) ?_; simp only [List.map_cons, List.map_nil, lk, Nat.reduceEqDiff, reduceIte]
      refine Tr.loop (fun m4 s => ∃ (j : Int) (mv : Bool), s = ⟨[(1, .ptr 1 0), (3, .own 3001), (4, .d (.i .i64 k)), (5, .d (.i .i64 i)), (6, .d (.b mv)), (7, .d (.row [.i .i64 0] (q.inn.map intC))), (8, .d (.i .i64 j))], [(1, .box 48 (gcs wd lo hi out (.d (rowN ns)))), (3001, .row 3 [.i .i64 0] ((0 :: o).map intC))]⟩ ∧ 0 ≤ j ∧ j + m4 = q.inn.length ∧ mayO ns o i = (mv && (q.inn.drop j.toNat).all fun j => (0 :: o).contains j)) q.inn.length ⟨_, (Le.mv (by simp only [go_sem, hP, hn]; first | done | (simp; done) | (simp [intC]; done) | (repeat (first | rfl | constructor))) (by simp only [go_sem, hP, hn]; first | done | (simp; done) | (simp [intC]; done) | (repeat (first | rfl | constructor)))), 0, _, rfl, by omega, by omega, hmay⟩ ?_
      rintro m4 s ⟨j, mv, rfl, hj0, hjm, hmv⟩
      (repeat (first | ((first | refine r1 ?_ | refine r2 ?_ | refine r3 ?_); intro K hK; simp only [go_sem, hP, hn]; (repeat (refine ⟨by first | trivial | omega | (simp <;> omega) | (simp +contextual; done) | (clear hK; grind), ?_⟩)); refine hK _ ?_; clear K hK) | refine Tr.seq ?_ | refine Tr.skip ?_ | refine Tr.label ?_ | refine Tr.block ?_ | refine Tr.scope ?_ | refine gs1 ?_ | refine gs2 ?_ | refine gs3 ?_ | refine Tr.exit ?_ | refine Tr.goto ?_ | refine Tr.ret ?_ | refine n1 ?_ | refine n2 ?_ | refine n3 ?_ | refine n4 ?_ | refine n5 ?_ | refine n6 ?_ | refine n7 ?_ | refine n8 ?_ | refine n9 (by decide) ?_))
      refine Tr.cond rfl (fun hd => ?_) (fun hd => ?_)
      · have hj : j < q.inn.length := by simpa using hd
        rw [drop_rd hj0 hj, List.all_cons, ← Bool.and_assoc] at hmv
        (repeat (first | refine Tr.seq ?_ | refine Tr.skip ?_ | refine Tr.label ?_ | refine Tr.block ?_ | refine Tr.scope ?_ | refine gs1 ?_ | refine gs2 ?_ | refine gs3 ?_ | refine Tr.exit ?_ | refine Tr.goto ?_ | refine Tr.ret ?_ | refine n1 ?_ | refine n2 ?_ | refine n3 ?_ | refine n4 ?_ | refine n5 ?_ | refine n6 ?_ | refine n7 ?_ | refine n8 ?_ | refine n9 (by decide) ?_))
        (first | refine r1 ?_ | refine r2 ?_ | refine r3 ?_); intro K hK; simp only [go_sem, hP, hn]
        (repeat (refine ⟨by first | trivial | omega | (simp <;> omega) | (simp +contextual; done) | (clear hK; grind), ?_⟩))
        refine c2 (fun hg => by rw [hP, hT]; exact has_c Tm (0 :: o) (rd q.inn j) hol) rfl rfl rfl (fun hg => trivial) (fun hg => by clear hK; revert hg; simp only [go_sem, hP, hn]; first | trivial | omega | (simp; done) | (simp +contextual; done) | grind) (fun hg => by simp only [go_sem, hP, hn]; try rfl) (by rw [hn]; decide) (by rfl) ?_; simp only [go_sem, hP, hn]; (repeat (refine ⟨by first | trivial | omega | (simp <;> omega) | (simp +contextual; done) | (clear hK; grind), ?_⟩))
        (repeat (refine ⟨by first | trivial | omega | (simp <;> omega) | (simp +contextual; done) | (clear hK; grind), ?_⟩))
        refine hK _ ?_; clear K hK
        (repeat (first | ((first | refine r1 ?_ | refine r2 ?_ | refine r3 ?_); intro K hK; simp only [go_sem, hP, hn]; (repeat (refine ⟨by first | trivial | omega | (simp <;> omega) | (simp +contextual; done) | (clear hK; grind), ?_⟩)); refine hK _ ?_; clear K hK) | refine Tr.seq ?_ | refine Tr.skip ?_ | refine Tr.label ?_ | refine Tr.block ?_ | refine Tr.scope ?_ | refine gs1 ?_ | refine gs2 ?_ | refine gs3 ?_ | refine Tr.exit ?_ | refine Tr.goto ?_ | refine Tr.ret ?_ | refine n1 ?_ | refine n2 ?_ | refine n3 ?_ | refine n4 ?_ | refine n5 ?_ | refine n6 ?_ | refine n7 ?_ | refine n8 ?_ | refine n9 (by decide) ?_))
        rw [w64 (x := j + 1) (by omega) (by omega)]
        refine ⟨m4 - 1, _, by omega, ?_, j + 1, (mv && (0 :: o).contains (rd q.inn j)), rfl, by omega, by omega, hmv⟩
        exact (Le.mv (by simp only [go_sem, hP, hn]; first | done | (simp; done) | (simp [intC]; done) | (repeat (first | rfl | constructor))) (by simp only [go_sem, hP, hn]; first | done | (simp; done) | (simp [intC]; done) | (repeat (first | rfl | constructor))))
      · rw [drop_end (by simpa using hd)] at hmv
        have hmv2 : mayO ns o i = mv := by rw [hmv]; simp
        (repeat (first | ((first | refine r1 ?_ | refine r2 ?_ | refine r3 ?_); intro K hK; simp only [go_sem, hP, hn]; (repeat (refine ⟨by first | trivial | omega | (simp <;> omega) | (simp +contextual; done) | (clear hK; grind), ?_⟩)); refine hK _ ?_; clear K hK) | refine Tr.seq ?_ | refine Tr.skip ?_ | refine Tr.label ?_ | refine Tr.block ?_ | refine Tr.scope ?_ | refine gs1 ?_ | refine gs2 ?_ | refine gs3 ?_ | refine Tr.exit ?_ | refine Tr.goto ?_ | refine Tr.ret ?_ | refine n1 ?_ | refine n2 ?_ | refine n3 ?_ | refine n4 ?_ | refine n5 ?_ | refine n6 ?_ | refine n7 ?_ | refine n8 ?_ | refine n9 (by decide) ?_))
        refine Tr.cond rfl (fun he => ?_) (fun he => ?_)
        · subst he
          (repeat (first | ((first | refine r1 ?_ | refine r2 ?_ | refine r3 ?_); intro K hK; simp only [go_sem, hP, hn]; (repeat (refine ⟨by first | trivial | omega | (simp <;> omega) | (simp +contextual; done) | (clear hK; grind), ?_⟩)); refine hK _ ?_; clear K hK) | refine Tr.seq ?_ | refine Tr.skip ?_ | refine Tr.label ?_ | refine Tr.block ?_ | refine Tr.scope ?_ | refine gs1 ?_ | refine gs2 ?_ | refine gs3 ?_ | refine Tr.exit ?_ | refine Tr.goto ?_ | refine Tr.ret ?_ | refine n1 ?_ | refine n2 ?_ | refine n3 ?_ | refine n4 ?_ | refine n5 ?_ | refine n6 ?_ | refine n7 ?_ | refine n8 ?_ | refine n9 (by decide) ?_))
          rw [w64 (x := k + 1) (by omega) (by omega)]
          refine ⟨m - 1, _, by omega, ?_, k + 1, o ++ [i], rfl, by omega, by omega, ?_, by simp; omega⟩
          · refine Le.trans (b := ⟨[(1, .ptr 1 0), (3, .own 54), (4, .d (.i .i64 (k + 1)))], [(1, .box 48 (gcs wd lo hi out (.d (rowN ns)))), (54, .row 3 [.i .i64 0] ((0 :: (o ++ [i])).map intC))]⟩) (Le.mv (by simp only [go_sem, hP, hn]; first | done | (simp; done) | (simp [intC]; done) | (repeat (first | rfl | constructor))) (by simp only [go_sem, hP, hn]; first | done | (simp; done) | (simp [intC]; done) | (repeat (first | rfl | constructor)))) ?_
            refine Le.trans (Le.ren 54 3001 (by rw [hpn] <;> rfl) rfl rfl) ?_; simp only [renT, renH, renO, renS, renL, rn, go_sem, hP, hn]
            exact (Le.mv (by simp only [go_sem, hP, hn]; first | done | (simp; done) | (simp [intC]; done) | (repeat (first | rfl | constructor))) (by simp only [go_sem, hP, hn]; first | done | (simp; done) | (simp [intC]; done) | (repeat (first | rfl | constructor))))
          · rw [hnx0, hnx]; show (match (if mayO ns o i = true then some i else _) with | none => _ | some i => _) = _; rw [if_pos hmv2]
        · subst he
          (repeat (first | ((first | refine r1 ?_ | refine r2 ?_ | refine r3 ?_); intro K hK; simp only [go_sem, hP, hn]; (repeat (refine ⟨by first | trivial | omega | (simp <;> omega) | (simp +contextual; done) | (clear hK; grind), ?_⟩)); refine hK _ ?_; clear K hK) | refine Tr.seq ?_ | refine Tr.skip ?_ | refine Tr.label ?_ | refine Tr.block ?_ | refine Tr.scope ?_ | refine gs1 ?_ | refine gs2 ?_ | refine gs3 ?_ | refine Tr.exit ?_ | refine Tr.goto ?_ | refine Tr.ret ?_ | refine n1 ?_ | refine n2 ?_ | refine n3 ?_ | refine n4 ?_ | refine n5 ?_ | refine n6 ?_ | refine n7 ?_ | refine n8 ?_ | refine n9 (by decide) ?_))
          rw [w64 (x := i + 1) (by omega) (by omega)]
          refine ⟨m3, _, by omega, ?_, i + 1, rfl, by omega, by omega, ?_⟩
          · exact (Le.mv (by simp only [go_sem, hP, hn]; first | done | (simp; done) | (simp [intC]; done) | (repeat (first | rfl | constructor))) (by simp only [go_sem, hP, hn]; first | done | (simp; done) | (simp [intC]; done) | (repeat (first | rfl | constructor))))
          · rw [hnx]; show (if mayO ns o i = true then _ else _) = _; rw [if_neg (by rw [hmv2]; decide)]
    · have hm2 : m2 = 0 := by have := of_decide_eq_false hc; omega
      subst hm2
      (repeat (first | ((first | refine r1 ?_ | refine r2 ?_ | refine r3 ?_); intro K hK; simp only [go_sem, hP, hn]; (repeat (refine ⟨by first | trivial | omega | (simp <;> omega) | (simp +contextual; done) | (clear hK; grind), ?_⟩)); refine hK _ ?_; clear K hK) | refine Tr.seq ?_ | refine Tr.skip ?_ | refine Tr.label ?_ | refine Tr.block ?_ | refine Tr.scope ?_ | refine gs1 ?_ | refine gs2 ?_ | refine gs3 ?_ | refine Tr.exit ?_ | refine Tr.goto ?_ | refine Tr.ret ?_ | refine n1 ?_ | refine n2 ?_ | refine n3 ?_ | refine n4 ?_ | refine n5 ?_ | refine n6 ?_ | refine n7 ?_ | refine n8 ?_ | refine n9 (by decide) ?_))
      rw [w64 (x := k + 1) (by omega) (by omega)]
      refine ⟨m - 1, _, by omega, ?_, k + 1, o, rfl, by omega, by omega, ?_, by omega⟩
      · exact (Le.mv (by simp only [go_sem, hP, hn]; first | done | (simp; done) | (simp [intC]; done) | (repeat (first | rfl | constructor))) (by simp only [go_sem, hP, hn]; first | done | (simp; done) | (simp [intC]; done) | (repeat (first | rfl | constructor))))
      · rw [hnx0, hnx]; rfl
  · have hm : m = 0 := by have := of_decide_eq_false hb; omega
    subst hm
    refine Tr.le (Le.freeze 3001) ?_
    simp only [go_sem, hP, hn]
    (repeat (first | refine Tr.seq ?_ | refine Tr.skip ?_ | refine Tr.label ?_ | refine Tr.block ?_ | refine Tr.scope ?_ | refine gs1 ?_ | refine gs2 ?_ | refine gs3 ?_ | refine Tr.exit ?_ | refine Tr.goto ?_ | refine Tr.ret ?_ | refine n1 ?_ | refine n2 ?_ | refine n3 ?_ | refine n4 ?_ | refine n5 ?_ | refine n6 ?_ | refine n7 ?_ | refine n8 ?_ | refine n9 (by decide) ?_))
    (first | refine r1 ?_ | refine r2 ?_ | refine r3 ?_); intro K hK; simp only [go_sem, hP, hn]; (repeat (refine ⟨by first | trivial | omega | (simp <;> omega) | (simp +contextual; done) | (clear hK; grind), ?_⟩)); refine hK _ ?_; clear K hK
    (repeat (first | refine Tr.seq ?_ | refine Tr.skip ?_ | refine Tr.label ?_ | refine Tr.block ?_ | refine Tr.scope ?_ | refine gs1 ?_ | refine gs2 ?_ | refine gs3 ?_ | refine Tr.exit ?_ | refine Tr.goto ?_ | refine Tr.ret ?_ | refine n1 ?_ | refine n2 ?_ | refine n3 ?_ | refine n4 ?_ | refine n5 ?_ | refine n6 ?_ | refine n7 ?_ | refine n8 ?_ | refine n9 (by decide) ?_))
    simp only [RetG, go_sem]; (repeat (with_reducible refine And.intro ?_ ?_; (· first | trivial | omega | (simp <;> omega) | (simp +contextual; done) | (clear hK; grind))))
    rw [hord, List.take_of_length_le (by simp)]; rfl
/-- what ref16.Look tells, walking along an order -/
def lookM (ns : List Nd) : List Int → List Int → List Int → Int × List Int × List Int
  | [], W, R => (0, W, R)
  | i :: r, W, R =>
    if ((nd ns (i - 1)).rchk ((nd ns (i - 1)).inn.map (rd W)) != 0) = true then ((nd ns (i - 1)).rchk ((nd ns (i - 1)).inn.map (rd W)), [], [])
    else if decide ((nd ns (i - 1)).rate ((nd ns (i - 1)).inn.map (rd R)) < 0) = true then (15, [], [])
    else lookM ns r (W.set i.toNat ((nd ns (i - 1)).rwide ((nd ns (i - 1)).inn.map (rd W)))) (R.set i.toNat ((nd ns (i - 1)).rate ((nd ns (i - 1)).inn.map (rd R))))
def lookR (wd lo hi out : Int) (ns : List Nd) : Int × List Int × List Int × List Int :=
  if (mayG wd lo hi out ns != 0) = true then (mayG wd lo hi out ns, [], [], [])
  else if decide (((order ns).length : Int) < ns.length) = true then (13, [], [], [])
  else match lookM ns (order ns) (wd :: List.replicate ns.length 0) (1 :: List.replicate ns.length 0) with
    | (e, W, R) => if (e != 0) = true then (e, [], [], []) else (0, order ns, W, R)
theorem lookM_cons (ns : List Nd) (i : Int) (r W R : List Int) : lookM ns (i :: r) W R = if ((nd ns (i - 1)).rchk ((nd ns (i - 1)).inn.map (rd W)) != 0) = true then ((nd ns (i - 1)).rchk ((nd ns (i - 1)).inn.map (rd W)), [], [])
    else if decide ((nd ns (i - 1)).rate ((nd ns (i - 1)).inn.map (rd R)) < 0) = true then (15, [], [])
    else lookM ns r (W.set i.toNat ((nd ns (i - 1)).rwide ((nd ns (i - 1)).inn.map (rd W)))) (R.set i.toNat ((nd ns (i - 1)).rate ((nd ns (i - 1)).inn.map (rd R)))) := rfl
def rtup (q : Int × List Int × List Int × List Int) : S := .agg [.d (.row [.i .i64 0] (q.2.1.map intC)), .d (.row [.i .i64 0] (q.2.2.1.map intC)), .d (.row [.i .i64 0] (q.2.2.2.map intC)), .d (.i .i64 q.1)]
theorem rd_set_same {l : List Int} {i v : Int} (hi : 0 ≤ i) (hi2 : i < l.length) : rd (l.set i.toNat v) i = v := by
  unfold rd
  rw [List.getD_eq_getElem?_getD, List.getElem?_set, if_pos rfl, if_pos (by omega)]; rfl
theorem Look_r {T : World → Prop} (Tm : TP T) (wd lo hi out : Int) (ns : List Nd) (hns : ns.length ≤ 65536) (hin : ∀ n ∈ ns, n.inn.length ≤ 4096 ∧ n.ws.length ≤ 65536 ∧ n.bs.length ≤ 65536) : Cg Go.Proofs.Tryd.prog T 50 [] [.agg (gcs wd lo hi out (.d (rowN ns)))] (fun r H => H = [] ∧ r = rtup (lookR wd lo hi out ns)) := by
  refine Cg_of [] Tm Go.Proofs.Tryd.func50 rfl rfl Go.Proofs.Tryd.ntmps50 (by simp) rfl (rs := [.cell 2 80]) rfl fun E hP hn hT hpn => ?_
  (repeat (first | refine Tr.seq ?_ | refine Tr.skip ?_ | refine Tr.label ?_ | refine Tr.block ?_ | refine Tr.scope ?_ | refine gs1 ?_ | refine gs2 ?_ | refine gs3 ?_ | refine Tr.exit ?_ | refine Tr.goto ?_ | refine Tr.ret ?_ | refine n1 ?_ | refine n2 ?_ | refine n3 ?_ | refine n4 ?_ | refine n5 ?_ | refine n6 ?_ | refine n7 ?_ | refine n8 ?_ | refine n9 (by decide) ?_))
  (first | refine r1 ?_ | refine r2 ?_ | refine r3 ?_); intro K hK; simp only [go_sem, hP, hn]; (repeat (refine ⟨by first | trivial | omega | (simp <;> omega) | (simp +contextual; done) | (clear hK; grind), ?_⟩)); refine hK _ ?_; clear K hK
  (repeat (first | refine Tr.seq ?_ | refine Tr.skip ?_ | refine Tr.label ?_ | refine Tr.block ?_ | refine Tr.scope ?_ | refine gs1 ?_ | refine gs2 ?_ | refine gs3 ?_ | refine Tr.exit ?_ | refine Tr.goto ?_ | refine Tr.ret ?_ | refine n1 ?_ | refine n2 ?_ | refine n3 ?_ | refine n4 ?_ | refine n5 ?_ | refine n6 ?_ | refine n7 ?_ | refine n8 ?_ | refine n9 (by decide) ?_))
  (first | refine r1 ?_ | refine r2 ?_ | refine r3 ?_); intro K hK; simp only [go_sem, hP, hn]
  (repeat (refine ⟨by first | trivial | omega | (simp <;> omega) | (simp +contextual; done) | (clear hK; grind), ?_⟩))
  refine c1 (by rw [hP, hT]; exact first_r Tm wd lo hi out ns hns (fun n h => by have := hin n h; omega)) rfl rfl rfl trivial (by simp only [go_sem, hP, hn]; try trivial) (by simp only [go_sem, hP, hn]; try rfl) (by rw [hn]; decide) (by rfl) ?_; simp only [go_sem, hP, hn]; (repeat (refine ⟨by first | trivial | omega | (simp <;> omega) | (simp +contextual; done) | (clear hK; grind), ?_⟩))
  refine hK _ ?_; clear K hK
  (repeat (first | ((first | refine r1 ?_ | refine r2 ?_ | refine r3 ?_); intro K hK; simp only [go_sem, hP, hn]; (repeat (refine ⟨by first | trivial | omega | (simp <;> omega) | (simp +contextual; done) | (clear hK; grind), ?_⟩)); refine hK _ ?_; clear K hK) | refine Tr.seq ?_ | refine Tr.skip ?_ | refine Tr.label ?_ | refine Tr.block ?_ | refine Tr.scope ?_ | refine gs1 ?_ | refine gs2 ?_ | refine gs3 ?_ | refine Tr.exit ?_ | refine Tr.goto ?_ | refine Tr.ret ?_ | refine n1 ?_ | refine n2 ?_ | refine n3 ?_ | refine n4 ?_ | refine n5 ?_ | refine n6 ?_ | refine n7 ?_ | refine n8 ?_ | refine n9 (by decide) ?_))
  refine Tr.cond rfl (fun h1 => ?_) (fun h1 => ?_)
  · (repeat (first | refine Tr.seq ?_ | refine Tr.skip ?_ | refine Tr.label ?_ | refine Tr.block ?_ | refine Tr.scope ?_ | refine gs1 ?_ | refine gs2 ?_ | refine gs3 ?_ | refine Tr.exit ?_ | refine Tr.goto ?_ | refine Tr.ret ?_ | refine n1 ?_ | refine n2 ?_ | refine n3 ?_ | refine n4 ?_ | refine n5 ?_ | refine n6 ?_ | refine n7 ?_ | refine n8 ?_ | refine n9 (by decide) ?_))
    (first | refine r1 ?_ | refine r2 ?_ | refine r3 ?_); intro K hK; simp only [go_sem, hP, hn]; (repeat (refine ⟨by first | trivial | omega | (simp <;> omega) | (simp +contextual; done) | (clear hK; grind), ?_⟩)); refine hK _ ?_; clear K hK
    refine Tr.le (Le.wbox 2 [.d (.row [.i .i64 0] []), .d (.row [.i .i64 0] []), .d (.row [.i .i64 0] []), _] rfl ⟨.inr ⟨rfl, _, rfl⟩, .inr ⟨rfl, _, rfl⟩, .inr ⟨rfl, _, rfl⟩, .inl rfl, trivial⟩) ?_; simp only [go_sem, hP, hn]
    (repeat (first | ((first | refine r1 ?_ | refine r2 ?_ | refine r3 ?_); intro K hK; simp only [go_sem, hP, hn]; (repeat (refine ⟨by first | trivial | omega | (simp <;> omega) | (simp +contextual; done) | (clear hK; grind), ?_⟩)); refine hK _ ?_; clear K hK) | refine Tr.seq ?_ | refine Tr.skip ?_ | refine Tr.label ?_ | refine Tr.block ?_ | refine Tr.scope ?_ | refine gs1 ?_ | refine gs2 ?_ | refine gs3 ?_ | refine Tr.exit ?_ | refine Tr.goto ?_ | refine Tr.ret ?_ | refine n1 ?_ | refine n2 ?_ | refine n3 ?_ | refine n4 ?_ | refine n5 ?_ | refine n6 ?_ | refine n7 ?_ | refine n8 ?_ | refine n9 (by decide) ?_))
    simp only [RetG, go_sem]; (repeat (with_reducible refine And.intro ?_ ?_; (· first | trivial | omega | (simp <;> omega) | (simp +contextual; done) | (clear hK; grind))))
    rw [show lookR wd lo hi out ns = (mayG wd lo hi out ns, [], [], []) from if_pos h1]; rfl
  have hmay : mayG wd lo hi out ns = 0 := bne_eq_false_iff_eq.mp h1
  have hLG : lookR wd lo hi out ns = if decide (((order ns).length : Int) < ns.length) = true then (13, [], [], []) else match lookM ns (order ns) (wd :: List.replicate ns.length 0) (1 :: List.replicate ns.length 0) with | (e, W, R) => if (e != 0) = true then (e, [], [], []) else (0, order ns, W, R) := by
    unfold lookR; rw [if_neg (by rw [h1]; decide)]
  have hN := mayG_ok hmay
  clear h1
  (repeat (first | refine Tr.seq ?_ | refine Tr.skip ?_ | refine Tr.label ?_ | refine Tr.block ?_ | refine Tr.scope ?_ | refine gs1 ?_ | refine gs2 ?_ | refine gs3 ?_ | refine Tr.exit ?_ | refine Tr.goto ?_ | refine Tr.ret ?_ | refine n1 ?_ | refine n2 ?_ | refine n3 ?_ | refine n4 ?_ | refine n5 ?_ | refine n6 ?_ | refine n7 ?_ | refine n8 ?_ | refine n9 (by decide) ?_))
  (first | refine r1 ?_ | refine r2 ?_ | refine r3 ?_); intro K hK; simp only [go_sem, hP, hn]
  (repeat (refine ⟨by first | trivial | omega | (simp <;> omega) | (simp +contextual; done) | (clear hK; grind), ?_⟩))
  refine CallN_cs (Hi := [] ) (by rw [hP, hT]; exact  order_r Tm wd lo hi out ns hN.2.1 (fun n h => by have := hin n h; omega)) rfl rfl rfl trivial (by simp only [go_sem, hP, hn]; try trivial) (by simp only [go_sem, hP, hn]; try rfl) (by simp only [inH, go_sem, hP, hn]; try simp) (by rw [hn]; decide) ?_; simp only [go_sem, hP, hn]; (repeat (refine ⟨by first | trivial | omega | (simp <;> omega) | (simp +contextual; done) | (clear hK; grind), ?_⟩))
  refine hK _ ?_; clear K hK
  (repeat (first | ((first | refine r1 ?_ | refine r2 ?_ | refine r3 ?_); intro K hK; simp only [go_sem, hP, hn]; (repeat (refine ⟨by first | trivial | omega | (simp <;> omega) | (simp +contextual; done) | (clear hK; grind), ?_⟩)); refine hK _ ?_; clear K hK) | refine Tr.seq ?_ | refine Tr.skip ?_ | refine Tr.label ?_ | refine Tr.block ?_ | refine Tr.scope ?_ | refine gs1 ?_ | refine gs2 ?_ | refine gs3 ?_ | refine Tr.exit ?_ | refine Tr.goto ?_ | refine Tr.ret ?_ | refine n1 ?_ | refine n2 ?_ | refine n3 ?_ | refine n4 ?_ | refine n5 ?_ | refine n6 ?_ | refine n7 ?_ | refine n8 ?_ | refine n9 (by decide) ?_))
  refine Tr.cond rfl (fun h2 => ?_) (fun h2 => ?_)
  · (repeat (first | refine Tr.seq ?_ | refine Tr.skip ?_ | refine Tr.label ?_ | refine Tr.block ?_ | refine Tr.scope ?_ | refine gs1 ?_ | refine gs2 ?_ | refine gs3 ?_ | refine Tr.exit ?_ | refine Tr.goto ?_ | refine Tr.ret ?_ | refine n1 ?_ | refine n2 ?_ | refine n3 ?_ | refine n4 ?_ | refine n5 ?_ | refine n6 ?_ | refine n7 ?_ | refine n8 ?_ | refine n9 (by decide) ?_))
    (first | refine r1 ?_ | refine r2 ?_ | refine r3 ?_); intro K hK; simp only [go_sem, hP, hn]; (repeat (refine ⟨by first | trivial | omega | (simp <;> omega) | (simp +contextual; done) | (clear hK; grind), ?_⟩)); refine hK _ ?_; clear K hK
    refine Tr.le (Le.wbox 2 [.d (.row [.i .i64 0] []), .d (.row [.i .i64 0] []), .d (.row [.i .i64 0] []), _] rfl ⟨.inr ⟨rfl, _, rfl⟩, .inr ⟨rfl, _, rfl⟩, .inr ⟨rfl, _, rfl⟩, .inl rfl, trivial⟩) ?_; simp only [go_sem, hP, hn]
    (repeat (first | ((first | refine r1 ?_ | refine r2 ?_ | refine r3 ?_); intro K hK; simp only [go_sem, hP, hn]; (repeat (refine ⟨by first | trivial | omega | (simp <;> omega) | (simp +contextual; done) | (clear hK; grind), ?_⟩)); refine hK _ ?_; clear K hK) | refine Tr.seq ?_ | refine Tr.skip ?_ | refine Tr.label ?_ | refine Tr.block ?_ | refine Tr.scope ?_ | refine gs1 ?_ | refine gs2 ?_ | refine gs3 ?_ | refine Tr.exit ?_ | refine Tr.goto ?_ | refine Tr.ret ?_ | refine n1 ?_ | refine n2 ?_ | refine n3 ?_ | refine n4 ?_ | refine n5 ?_ | refine n6 ?_ | refine n7 ?_ | refine n8 ?_ | refine n9 (by decide) ?_))
    simp only [RetG, go_sem]; (repeat (with_reducible refine And.intro ?_ ?_; (· first | trivial | omega | (simp <;> omega) | (simp +contextual; done) | (clear hK; grind))))
    rw [hLG, if_pos h2]; rfl
  rw [if_neg (by rw [h2]; decide)] at hLG
  have hle := (ordR_length (ns := ns) ns.length []).2
  have hol : (order ns).length = ns.length := by
    have := of_decide_eq_false h2
    have h3 : (order ns).length ≤ ns.length := by
      show (ordR ns ns.length []).length ≤ _
      simpa using hle
    omega
  have hor : ∀ x ∈ order ns, 1 ≤ x ∧ x ≤ ns.length := ordR_range (by simp)
  clear h2 hle
  generalize hos : order ns = os at hLG hol hor ⊢
  (repeat (first | refine Tr.seq ?_ | refine Tr.skip ?_ | refine Tr.label ?_ | refine Tr.block ?_ | refine Tr.scope ?_ | refine gs1 ?_ | refine gs2 ?_ | refine gs3 ?_ | refine Tr.exit ?_ | refine Tr.goto ?_ | refine Tr.ret ?_ | refine n1 ?_ | refine n2 ?_ | refine n3 ?_ | refine n4 ?_ | refine n5 ?_ | refine n6 ?_ | refine n7 ?_ | refine n8 ?_ | refine n9 (by decide) ?_))
  refine Tr.le (Le.keep [1, 2, 4]) ?_; simp only [List.map_cons, List.map_nil, lk, Nat.reduceEqDiff, reduceIte]
  refine Tr.meet (fun s => s = ⟨[(1, .ptr 1 0), (2, .ptr 2 0), (4, .d (.row [.i .i64 0] (os.map intC))), (5, .ptr 5 0)], [(1, .box 48 (gcs wd lo hi out (.d (rowN ns)))), (2, .box 80 [.d .nil, .d .nil, .d .nil, .d (.i .i64 0)]), (5, .box 80 [.d (.row [.i .i64 0] (os.map intC)), .own 32, .own 37, .d (.i .i64 0)]), (32, .row 3 [.i .i64 0] ((List.replicate (ns.length + 1) 0).map intC)), (37, .row 3 [.i .i64 0] ((List.replicate (ns.length + 1) 0).map intC))]⟩) ?_ ?_
  rotate_left
  · (first | refine d1 (.p true 0 (.p true 1 (.p true 2 (.p true 3 (.p true 4 (.p true 6 (.p true 7 (.p true 8 (.p true 9 (.alt 5 (.alt 10 (.p false 11 (.alt 12 (.alt 13 .nil .nil) .nil)) (.alt 12 (.alt 10 (.p false 11 (.alt 13 .nil .nil)) .nil) .nil)) (.alt 10 (.alt 5 (.p false 11 (.alt 12 (.alt 13 .nil .nil) .nil)) (.alt 12 (.alt 5 (.p false 11 (.alt 13 .nil .nil)) .nil) .nil)) (.alt 12 (.alt 5 (.alt 10 (.p false 11 (.alt 13 .nil .nil)) .nil) (.alt 10 (.alt 5 (.p false 11 (.alt 13 .nil .nil)) .nil) .nil)) .nil)))))))))))) [] (by rw [hP]; kernel_rfl) (by kernel_rfl) (by simp only [go_sem, hP, hn]; try simp) (fun _ _ h => h) fun K hK => ?_ | refine d2 (.p true 0 (.p true 1 (.p true 2 (.p true 3 (.p true 4 (.p true 6 (.p true 7 (.p true 8 (.p true 9 (.alt 5 (.alt 10 (.p false 11 (.alt 12 (.alt 13 .nil .nil) .nil)) (.alt 12 (.alt 10 (.p false 11 (.alt 13 .nil .nil)) .nil) .nil)) (.alt 10 (.alt 5 (.p false 11 (.alt 12 (.alt 13 .nil .nil) .nil)) (.alt 12 (.alt 5 (.p false 11 (.alt 13 .nil .nil)) .nil) .nil)) (.alt 12 (.alt 5 (.alt 10 (.p false 11 (.alt 13 .nil .nil)) .nil) (.alt 10 (.alt 5 (.p false 11 (.alt 13 .nil .nil)) .nil) .nil)) .nil)))))))))))) [] (by rw [hP]; kernel_rfl) (by kernel_rfl) (by simp only [go_sem, hP, hn]; try simp) (fun _ _ h => h) fun K hK => ?_ | refine d4 (.p true 0 (.p true 1 (.p true 2 (.p true 3 (.p true 4 (.p true 6 (.p true 7 (.p true 8 (.p true 9 (.alt 5 (.alt 10 (.p false 11 (.alt 12 (.alt 13 .nil .nil) .nil)) (.alt 12 (.alt 10 (.p false 11 (.alt 13 .nil .nil)) .nil) .nil)) (.alt 10 (.alt 5 (.p false 11 (.alt 12 (.alt 13 .nil .nil) .nil)) (.alt 12 (.alt 5 (.p false 11 (.alt 13 .nil .nil)) .nil) .nil)) (.alt 12 (.alt 5 (.alt 10 (.p false 11 (.alt 13 .nil .nil)) .nil) (.alt 10 (.alt 5 (.p false 11 (.alt 13 .nil .nil)) .nil) .nil)) .nil)))))))))))) [] (by rw [hP]; kernel_rfl) (by kernel_rfl) (by simp only [go_sem, hP, hn]; try simp) (fun _ _ h => h) fun K hK => ?_); simp only [go_sem, hP, hn]
    simp only [show wrap64 ((ns.length : Int) + 1) = ((ns.length + 1 : Nat) : Int) from w64 (by omega) (by omega), Int.toNat_natCast]
    (repeat' (refine And.intro ?_ ?_)); all_goals (first | (refine hK _ ?_; (refine ⟨_, ?_, rfl⟩; exact (Le.mv (by simp only [go_sem, hP, hn]; first | done | (simp; done) | (simp [intC]; done) | (repeat (first | rfl | constructor))) (by simp only [go_sem, hP, hn]; first | done | (simp; done) | (simp [intC]; done) | (repeat (first | rfl | constructor)))))) | (first | trivial | omega | (simp <;> omega) | (simp +contextual; done) | (clear hK; grind)))
  rintro s rfl
  (repeat (first | ((first | refine r1 ?_ | refine r2 ?_ | refine r3 ?_); intro K hK; simp only [go_sem, hP, hn]; (repeat (refine ⟨by first | trivial | omega | (simp <;> omega) | (simp +contextual; done) | (clear hK; grind), ?_⟩)); refine hK _ ?_; clear K hK) | refine Tr.seq ?_ | refine Tr.skip ?_ | refine Tr.label ?_ | refine Tr.block ?_ | refine Tr.scope ?_ | refine gs1 ?_ | refine gs2 ?_ | refine gs3 ?_ | refine Tr.exit ?_ | refine Tr.goto ?_ | refine Tr.ret ?_ | refine n1 ?_ | refine n2 ?_ | refine n3 ?_ | refine n4 ?_ | refine n5 ?_ | refine n6 ?_ | refine n7 ?_ | refine n8 ?_ | refine n9 (by decide) ?_))
  rw [show (List.replicate (ns.length + 1) (0 : Int)).set 0 1 = 1 :: List.replicate ns.length 0 from rfl, show (List.replicate (ns.length + 1) (0 : Int)).set 0 wd = wd :: List.replicate ns.length 0 from rfl]
  refine Tr.le (Le.keep [1, 2, 4, 5, 6]) ?_; simp only [List.map_cons, List.map_nil, lk, Nat.reduceEqDiff, reduceIte]
  refine Tr.loop (fun m s => ∃ (k : Int) (W R : List Int), s = ⟨[(1, .ptr 1 0), (2, .ptr 2 0), (4, .d (.row [.i .i64 0] (os.map intC))), (5, .ptr 5 0), (6, .d (.i .i64 k))], [(1, .box 48 (gcs wd lo hi out (.d (rowN ns)))), (2, .box 80 [.d .nil, .d .nil, .d .nil, .d (.i .i64 0)]), (5, .box 80 [.d (.row [.i .i64 0] (os.map intC)), .own 32, .own 37, .d (.i .i64 0)]), (32, .row 3 [.i .i64 0] (W.map intC)), (37, .row 3 [.i .i64 0] (R.map intC))]⟩ ∧ 0 ≤ k ∧ k + m = os.length ∧ W.length = ns.length + 1 ∧ R.length = ns.length + 1 ∧ lookM ns os (wd :: List.replicate ns.length 0) (1 :: List.replicate ns.length 0) = lookM ns (os.drop k.toNat) W R) os.length ⟨_, (Le.mv (by simp only [go_sem, hP, hn]; first | done | (simp; done) | (simp [intC]; done) | (repeat (first | rfl | constructor))) (by simp only [go_sem, hP, hn]; first | done | (simp; done) | (simp [intC]; done) | (repeat (first | rfl | constructor)))), 0, wd :: List.replicate ns.length 0, 1 :: List.replicate ns.length 0, rfl, by omega, by omega, by simp, by simp, rfl⟩ ?_
  rintro m s ⟨k, W, R, rfl, hk0, hkm, hWl, hRl, hL⟩
  (repeat (first | ((first | refine r1 ?_ | refine r2 ?_ | refine r3 ?_); intro K hK; simp only [go_sem, hP, hn]; (repeat (refine ⟨by first | trivial | omega | (simp <;> omega) | (simp +contextual; done) | (clear hK; grind), ?_⟩)); refine hK _ ?_; clear K hK) | refine Tr.seq ?_ | refine Tr.skip ?_ | refine Tr.label ?_ | refine Tr.block ?_ | refine Tr.scope ?_ | refine gs1 ?_ | refine gs2 ?_ | refine gs3 ?_ | refine Tr.exit ?_ | refine Tr.goto ?_ | refine Tr.ret ?_ | refine n1 ?_ | refine n2 ?_ | refine n3 ?_ | refine n4 ?_ | refine n5 ?_ | refine n6 ?_ | refine n7 ?_ | refine n8 ?_ | refine n9 (by decide) ?_))
  refine Tr.cond rfl (fun hb => ?_) (fun hb => ?_)
  · have hk1 : k < os.length := by simpa using hb
    rw [drop_rd hk0 hk1, lookM_cons] at hL
    have hiB := hor _ (rd_mem hk0 hk1)
    have hiw : wrap64 (rd os k - 1) = rd os k - 1 := w64 (by omega) (by omega)
    have hnd := rw_nd ns (rd os k - 1) (by omega) (by omega)
    have hmem := nd_mem (ns := ns) (i := rd os k - 1) (by omega) (by omega)
    have hq := hin _ hmem
    have hqi := hN.2.2 _ hmem
    (repeat (first | refine Tr.seq ?_ | refine Tr.skip ?_ | refine Tr.label ?_ | refine Tr.block ?_ | refine Tr.scope ?_ | refine gs1 ?_ | refine gs2 ?_ | refine gs3 ?_ | refine Tr.exit ?_ | refine Tr.goto ?_ | refine Tr.ret ?_ | refine n1 ?_ | refine n2 ?_ | refine n3 ?_ | refine n4 ?_ | refine n5 ?_ | refine n6 ?_ | refine n7 ?_ | refine n8 ?_ | refine n9 (by decide) ?_))
    refine Tr.meet (fun s => s = ⟨[(1, .ptr 1 0), (2, .ptr 2 0), (4, .d (.row [.i .i64 0] (os.map intC))), (5, .ptr 5 0), (6, .d (.i .i64 k)), (7, .ptr 7 0)], [(7, .box 29 (nd ns (rd os k - 1)).cs), (1, .box 48 (gcs wd lo hi out (.d (rowN ns)))), (2, .box 80 [.d .nil, .d .nil, .d .nil, .d (.i .i64 0)]), (5, .box 80 [.d (.row [.i .i64 0] (os.map intC)), .own 32, .own 37, .d (.i .i64 0)]), (32, .row 3 [.i .i64 0] (W.map intC)), (37, .row 3 [.i .i64 0] (R.map intC))]⟩) ?_ ?_
    rotate_left
    · (first | refine d1 (.p true 0 (.p true 1 (.p true 2 (.p true 3 (.p true 4 (.p true 5 (.p true 6 (.p true 7 (.p true 8 (.alt 9 (.alt 10 .nil .nil) .nil)))))))))) [] (by rw [hP]; kernel_rfl) (by kernel_rfl) (by simp only [go_sem, hP, hn]; try simp) (fun _ _ h => h) fun K hK => ?_ | refine d2 (.p true 0 (.p true 1 (.p true 2 (.p true 3 (.p true 4 (.p true 5 (.p true 6 (.p true 7 (.p true 8 (.alt 9 (.alt 10 .nil .nil) .nil)))))))))) [] (by rw [hP]; kernel_rfl) (by kernel_rfl) (by simp only [go_sem, hP, hn]; try simp) (fun _ _ h => h) fun K hK => ?_ | refine d4 (.p true 0 (.p true 1 (.p true 2 (.p true 3 (.p true 4 (.p true 5 (.p true 6 (.p true 7 (.p true 8 (.alt 9 (.alt 10 .nil .nil) .nil)))))))))) [] (by rw [hP]; kernel_rfl) (by kernel_rfl) (by simp only [go_sem, hP, hn]; try simp) (fun _ _ h => h) fun K hK => ?_); simp only [go_sem, hP, hn]
      simp only [hiw, hnd, go_sem, hP, hn]
      (repeat' (refine And.intro ?_ ?_)); all_goals (first | (refine hK _ ?_; (refine ⟨_, ?_, rfl⟩; exact (Le.mv (by simp only [go_sem, hP, hn]; first | done | (simp; done) | (simp [intC]; done) | (repeat (first | rfl | constructor))) (by simp only [go_sem, hP, hn]; first | done | (simp; done) | (simp [intC]; done) | (repeat (first | rfl | constructor)))))) | (first | trivial | omega | (simp <;> omega) | (simp +contextual; done) | (clear hK; grind)))
    rintro s rfl
    clear hiw hnd hmem
    generalize nd ns (rd os k - 1) = q at hq hqi hL ⊢
    have hqW : ∀ x ∈ q.inn, (0 ≤ x ∧ x < W.length) ∧ x < R.length := fun x hx => by have := hqi x hx; omega
    have hml : (q.inn.map (rd W)).length ≤ 65536 := by rw [List.length_map]; omega
    have hmr : (q.inn.map (rd R)).length ≤ 65536 := by rw [List.length_map]; omega
    (repeat (first | refine Tr.seq ?_ | refine Tr.skip ?_ | refine Tr.label ?_ | refine Tr.block ?_ | refine Tr.scope ?_ | refine gs1 ?_ | refine gs2 ?_ | refine gs3 ?_ | refine Tr.exit ?_ | refine Tr.goto ?_ | refine Tr.ret ?_ | refine n1 ?_ | refine n2 ?_ | refine n3 ?_ | refine n4 ?_ | refine n5 ?_ | refine n6 ?_ | refine n7 ?_ | refine n8 ?_ | refine n9 (by decide) ?_))
    (first | refine r1 ?_ | refine r2 ?_ | refine r3 ?_); intro K hK; simp only [go_sem, hP, hn]; (repeat (refine ⟨by first | trivial | omega | (simp <;> omega) | (simp +contextual; done) | (clear hK; grind), ?_⟩)); refine hK _ ?_; clear K hK
    (repeat (first | refine Tr.seq ?_ | refine Tr.skip ?_ | refine Tr.label ?_ | refine Tr.block ?_ | refine Tr.scope ?_ | refine gs1 ?_ | refine gs2 ?_ | refine gs3 ?_ | refine Tr.exit ?_ | refine Tr.goto ?_ | refine Tr.ret ?_ | refine n1 ?_ | refine n2 ?_ | refine n3 ?_ | refine n4 ?_ | refine n5 ?_ | refine n6 ?_ | refine n7 ?_ | refine n8 ?_ | refine n9 (by decide) ?_))
    (first | refine r1 ?_ | refine r2 ?_ | refine r3 ?_); intro K hK; simp only [go_sem, hP, hn]; (repeat (refine ⟨by first | trivial | omega | (simp <;> omega) | (simp +contextual; done) | (clear hK; grind), ?_⟩)); refine hK _ ?_; clear K hK
    (repeat (first | refine Tr.seq ?_ | refine Tr.skip ?_ | refine Tr.label ?_ | refine Tr.block ?_ | refine Tr.scope ?_ | refine gs1 ?_ | refine gs2 ?_ | refine gs3 ?_ | refine Tr.exit ?_ | refine Tr.goto ?_ | refine Tr.ret ?_ | refine n1 ?_ | refine n2 ?_ | refine n3 ?_ | refine n4 ?_ | refine n5 ?_ | refine n6 ?_ | refine n7 ?_ | refine n8 ?_ | refine n9 (by decide) ?_))
    (first | refine r1 ?_ | refine r2 ?_ | refine r3 ?_); intro K hK; simp only [go_sem, hP, hn]; (repeat (refine ⟨by first | trivial | omega | (simp <;> omega) | (simp +contextual; done) | (clear hK; grind), ?_⟩)); refine hK _ ?_; clear K hK
    (repeat (first | refine Tr.seq ?_ | refine Tr.skip ?_ | refine Tr.label ?_ | refine Tr.block ?_ | refine Tr.scope ?_ | refine gs1 ?_ | refine gs2 ?_ | refine gs3 ?_ | refine Tr.exit ?_ | refine Tr.goto ?_ | refine Tr.ret ?_ | refine n1 ?_ | refine n2 ?_ | refine n3 ?_ | refine n4 ?_ | refine n5 ?_ | refine n6 ?_ | refine n7 ?_ | refine n8 ?_ | refine n9 (by decide) ?_))
    refine Tr.le (Le.keep [1, 2, 4, 5, 6, 7, 8, 9, 10]) ?_; simp only [List.map_cons, List.map_nil, lk, Nat.reduceEqDiff, reduceIte]
    refine Tr.le (Le.nilslot 3001 8 3 [.i .i64 0] rfl (by rw [hpn] <;> rfl) rfl rfl) ?_
    refine Tr.le (Le.nilslot 3002 9 3 [.i .i64 0] rfl (by rw [hpn] <;> rfl) rfl rfl) ?_
    refine Tr.loop (fun m2 s => ∃ (j : Int), s = ⟨[(1, .ptr 1 0), (2, .ptr 2 0), (4, .d (.row [.i .i64 0] (os.map intC))), (5, .ptr 5 0), (6, .d (.i .i64 k)), (7, .ptr 7 0), (8, .own 3001), (9, .own 3002), (10, .d (.i .i64 j))], [(3001, .row 3 [.i .i64 0] (((q.inn.take j.toNat).map (rd W)).map intC)), (3002, .row 3 [.i .i64 0] (((q.inn.take j.toNat).map (rd R)).map intC)), (7, .box 29 q.cs), (1, .box 48 (gcs wd lo hi out (.d (rowN ns)))), (2, .box 80 [.d .nil, .d .nil, .d .nil, .d (.i .i64 0)]), (5, .box 80 [.d (.row [.i .i64 0] (os.map intC)), .own 32, .own 37, .d (.i .i64 0)]), (32, .row 3 [.i .i64 0] (W.map intC)), (37, .row 3 [.i .i64 0] (R.map intC))]⟩ ∧ 0 ≤ j ∧ j + m2 = q.inn.length) q.inn.length ⟨_, (Le.mv (by simp only [go_sem, hP, hn]; first | done | (simp; done) | (simp [intC]; done) | (repeat (first | rfl | constructor))) (by simp only [go_sem, hP, hn]; first | done | (simp; done) | (simp [intC]; done) | (repeat (first | rfl | constructor)))), 0, rfl, by omega, by omega⟩ ?_
    rintro m2 s ⟨j, rfl, hj0, hjm⟩
    (repeat (first | ((first | refine r1 ?_ | refine r2 ?_ | refine r3 ?_); intro K hK; simp only [go_sem, hP, hn]; (repeat (refine ⟨by first | trivial | omega | (simp <;> omega) | (simp +contextual; done) | (clear hK; grind), ?_⟩)); refine hK _ ?_; clear K hK) | refine Tr.seq ?_ | refine Tr.skip ?_ | refine Tr.label ?_ | refine Tr.block ?_ | refine Tr.scope ?_ | refine gs1 ?_ | refine gs2 ?_ | refine gs3 ?_ | refine Tr.exit ?_ | refine Tr.goto ?_ | refine Tr.ret ?_ | refine n1 ?_ | refine n2 ?_ | refine n3 ?_ | refine n4 ?_ | refine n5 ?_ | refine n6 ?_ | refine n7 ?_ | refine n8 ?_ | refine n9 (by decide) ?_))
    refine Tr.cond rfl (fun hc => ?_) (fun hc => ?_)
    · have hj : j < q.inn.length := by simpa using hc
      have hjx := hqW _ (rd_mem hj0 hj)
      have htl : (q.inn.take j.toNat).length = j.toNat := by simp; omega
      refine Tr.le (Le.keep [1, 2, 4, 5, 6, 7, 8, 9, 10]) ?_; simp only [List.map_cons, List.map_nil, lk, Nat.reduceEqDiff, reduceIte]
      (repeat (first | refine Tr.seq ?_ | refine Tr.skip ?_ | refine Tr.label ?_ | refine Tr.block ?_ | refine Tr.scope ?_ | refine gs1 ?_ | refine gs2 ?_ | refine gs3 ?_ | refine Tr.exit ?_ | refine Tr.goto ?_ | refine Tr.ret ?_ | refine n1 ?_ | refine n2 ?_ | refine n3 ?_ | refine n4 ?_ | refine n5 ?_ | refine n6 ?_ | refine n7 ?_ | refine n8 ?_ | refine n9 (by decide) ?_))
      (first | refine d1 (.p true 0 (.p true 1 (.p true 2 (.p true 3 (.p true 4 (.p true 5 (.p true 6 (.p true 7 (.p true 8 (.p true 9 (.alt 10 (.alt 11 (.p false 12 .nil) .nil) .nil))))))))))) [3001] (by rw [hP]; kernel_rfl) (by kernel_rfl) (by simp only [go_sem, hP, hn]; try simp) (fun _ _ h => h) fun K hK => ?_ | refine d2 (.p true 0 (.p true 1 (.p true 2 (.p true 3 (.p true 4 (.p true 5 (.p true 6 (.p true 7 (.p true 8 (.p true 9 (.alt 10 (.alt 11 (.p false 12 .nil) .nil) .nil))))))))))) [3001] (by rw [hP]; kernel_rfl) (by kernel_rfl) (by simp only [go_sem, hP, hn]; try simp) (fun _ _ h => h) fun K hK => ?_ | refine d4 (.p true 0 (.p true 1 (.p true 2 (.p true 3 (.p true 4 (.p true 5 (.p true 6 (.p true 7 (.p true 8 (.p true 9 (.alt 10 (.alt 11 (.p false 12 .nil) .nil) .nil))))))))))) [3001] (by rw [hP]; kernel_rfl) (by kernel_rfl) (by simp only [go_sem, hP, hn]; try simp) (fun _ _ h => h) fun K hK => ?_); simp only [go_sem, hP, hn]
      simp only [htl]
      (repeat (refine ⟨by first | trivial | omega | (simp <;> omega) | (simp +contextual; done) | (clear hK; grind), ?_⟩))
      refine hK _ ?_; clear K hK
      refine Tr.le (Le.keep [1, 2, 4, 5, 6, 7, 8, 9, 10]) ?_; simp only [List.map_cons, List.map_nil, lk, Nat.reduceEqDiff, reduceIte]
      (repeat (first | refine Tr.seq ?_ | refine Tr.skip ?_ | refine Tr.label ?_ | refine Tr.block ?_ | refine Tr.scope ?_ | refine gs1 ?_ | refine gs2 ?_ | refine gs3 ?_ | refine Tr.exit ?_ | refine Tr.goto ?_ | refine Tr.ret ?_ | refine n1 ?_ | refine n2 ?_ | refine n3 ?_ | refine n4 ?_ | refine n5 ?_ | refine n6 ?_ | refine n7 ?_ | refine n8 ?_ | refine n9 (by decide) ?_))
      (first | refine d1 (.p true 0 (.p true 1 (.p true 2 (.p true 3 (.p true 4 (.p true 5 (.p true 6 (.p true 7 (.p true 8 (.p true 9 (.alt 10 (.alt 11 (.p false 12 .nil) .nil) .nil))))))))))) [3002] (by rw [hP]; kernel_rfl) (by kernel_rfl) (by simp only [go_sem, hP, hn]; try simp) (fun _ _ h => h) fun K hK => ?_ | refine d2 (.p true 0 (.p true 1 (.p true 2 (.p true 3 (.p true 4 (.p true 5 (.p true 6 (.p true 7 (.p true 8 (.p true 9 (.alt 10 (.alt 11 (.p false 12 .nil) .nil) .nil))))))))))) [3002] (by rw [hP]; kernel_rfl) (by kernel_rfl) (by simp only [go_sem, hP, hn]; try simp) (fun _ _ h => h) fun K hK => ?_ | refine d4 (.p true 0 (.p true 1 (.p true 2 (.p true 3 (.p true 4 (.p true 5 (.p true 6 (.p true 7 (.p true 8 (.p true 9 (.alt 10 (.alt 11 (.p false 12 .nil) .nil) .nil))))))))))) [3002] (by rw [hP]; kernel_rfl) (by kernel_rfl) (by simp only [go_sem, hP, hn]; try simp) (fun _ _ h => h) fun K hK => ?_); simp only [go_sem, hP, hn]
      simp only [htl]
      (repeat (refine ⟨by first | trivial | omega | (simp <;> omega) | (simp +contextual; done) | (clear hK; grind), ?_⟩))
      refine hK _ ?_; clear K hK
      (repeat (first | ((first | refine r1 ?_ | refine r2 ?_ | refine r3 ?_); intro K hK; simp only [go_sem, hP, hn]; (repeat (refine ⟨by first | trivial | omega | (simp <;> omega) | (simp +contextual; done) | (clear hK; grind), ?_⟩)); refine hK _ ?_; clear K hK) | refine Tr.seq ?_ | refine Tr.skip ?_ | refine Tr.label ?_ | refine Tr.block ?_ | refine Tr.scope ?_ | refine gs1 ?_ | refine gs2 ?_ | refine gs3 ?_ | refine Tr.exit ?_ | refine Tr.goto ?_ | refine Tr.ret ?_ | refine n1 ?_ | refine n2 ?_ | refine n3 ?_ | refine n4 ?_ | refine n5 ?_ | refine n6 ?_ | refine n7 ?_ | refine n8 ?_ | refine n9 (by decide) ?_))
      rw [w64 (x := j + 1) (by omega) (by omega)]
      have htk : (q.inn.take (j + 1).toNat).map (rd W) = (q.inn.take j.toNat).map (rd W) ++ [rd W (rd q.inn j)] := by rw [take_rd hj0 hj, List.map_append]; rfl
      have htk2 : (q.inn.take (j + 1).toNat).map (rd R) = (q.inn.take j.toNat).map (rd R) ++ [rd R (rd q.inn j)] := by rw [take_rd hj0 hj, List.map_append]; rfl
      refine ⟨m2 - 1, _, by omega, ?_, j + 1, rfl, by omega, by omega⟩
      rw [htk, htk2]
      refine Le.trans (b := ⟨[(1, .ptr 1 0), (2, .ptr 2 0), (4, .d (.row [.i .i64 0] (os.map intC))), (5, .ptr 5 0), (6, .d (.i .i64 k)), (7, .ptr 7 0), (8, .own 80), (9, .own 92), (10, .d (.i .i64 (j + 1)))], [(80, .row 3 [.i .i64 0] (((q.inn.take j.toNat).map (rd W) ++ [rd W (rd q.inn j)]).map intC)), (92, .row 3 [.i .i64 0] (((q.inn.take j.toNat).map (rd R) ++ [rd R (rd q.inn j)]).map intC)), (7, .box 29 q.cs), (1, .box 48 (gcs wd lo hi out (.d (rowN ns)))), (2, .box 80 [.d .nil, .d .nil, .d .nil, .d (.i .i64 0)]), (5, .box 80 [.d (.row [.i .i64 0] (os.map intC)), .own 32, .own 37, .d (.i .i64 0)]), (32, .row 3 [.i .i64 0] (W.map intC)), (37, .row 3 [.i .i64 0] (R.map intC))]⟩) (Le.mv (by simp only [go_sem, hP, hn]; first | done | (simp; done) | (simp [intC]; done) | (repeat (first | rfl | constructor))) (by simp only [go_sem, hP, hn]; first | done | (simp; done) | (simp [intC]; done) | (repeat (first | rfl | constructor)))) ?_
      refine Le.trans (Le.ren 80 3001 (by rw [hpn] <;> rfl) rfl rfl) ?_; simp only [renT, renH, renO, renS, renL, rn, go_sem, hP, hn]
      refine Le.trans (Le.ren 92 3002 (by rw [hpn] <;> rfl) rfl rfl) ?_; simp only [renT, renH, renO, renS, renL, rn, go_sem, hP, hn]
      exact (Le.mv (by simp only [go_sem, hP, hn]; first | done | (simp; done) | (simp [intC]; done) | (repeat (first | rfl | constructor))) (by simp only [go_sem, hP, hn]; first | done | (simp; done) | (simp [intC]; done) | (repeat (first | rfl | constructor))))
    · rw [List.take_of_length_le (by have := of_decide_eq_false hc; omega)]
      (repeat (first | refine Tr.seq ?_ | refine Tr.skip ?_ | refine Tr.label ?_ | refine Tr.block ?_ | refine Tr.scope ?_ | refine gs1 ?_ | refine gs2 ?_ | refine gs3 ?_ | refine Tr.exit ?_ | refine Tr.goto ?_ | refine Tr.ret ?_ | refine n1 ?_ | refine n2 ?_ | refine n3 ?_ | refine n4 ?_ | refine n5 ?_ | refine n6 ?_ | refine n7 ?_ | refine n8 ?_ | refine n9 (by decide) ?_))
      refine Tr.le (Le.keep [1, 2, 4, 5, 6, 7, 8, 9]) ?_; simp only [List.map_cons, List.map_nil, lk, Nat.reduceEqDiff, reduceIte]
      (repeat (first | refine Tr.seq ?_ | refine Tr.skip ?_ | refine Tr.label ?_ | refine Tr.block ?_ | refine Tr.scope ?_ | refine gs1 ?_ | refine gs2 ?_ | refine gs3 ?_ | refine Tr.exit ?_ | refine Tr.goto ?_ | refine Tr.ret ?_ | refine n1 ?_ | refine n2 ?_ | refine n3 ?_ | refine n4 ?_ | refine n5 ?_ | refine n6 ?_ | refine n7 ?_ | refine n8 ?_ | refine n9 (by decide) ?_))
      (first | refine r1 ?_ | refine r2 ?_ | refine r3 ?_); intro K hK; simp only [go_sem, hP, hn]; (repeat (refine ⟨by first | trivial | omega | (simp <;> omega) | (simp +contextual; done) | (clear hK; grind), ?_⟩)); refine c1 (by rw [hP, hT]; exact Check_r Tm q (q.inn.map (rd W)) (by omega) (by omega) hml (by omega)) rfl rfl rfl trivial (by simp only [go_sem, hP, hn]; try trivial) (by simp only [go_sem, hP, hn]; try rfl) (by rw [hn]; decide) (by rfl) ?_; simp only [go_sem, hP, hn]; (repeat (refine ⟨by first | trivial | omega | (simp <;> omega) | (simp +contextual; done) | (clear hK; grind), ?_⟩)); refine hK _ ?_; clear K hK
      (repeat (first | ((first | refine r1 ?_ | refine r2 ?_ | refine r3 ?_); intro K hK; simp only [go_sem, hP, hn]; (repeat (refine ⟨by first | trivial | omega | (simp <;> omega) | (simp +contextual; done) | (clear hK; grind), ?_⟩)); refine hK _ ?_; clear K hK) | refine Tr.seq ?_ | refine Tr.skip ?_ | refine Tr.label ?_ | refine Tr.block ?_ | refine Tr.scope ?_ | refine gs1 ?_ | refine gs2 ?_ | refine gs3 ?_ | refine Tr.exit ?_ | refine Tr.goto ?_ | refine Tr.ret ?_ | refine n1 ?_ | refine n2 ?_ | refine n3 ?_ | refine n4 ?_ | refine n5 ?_ | refine n6 ?_ | refine n7 ?_ | refine n8 ?_ | refine n9 (by decide) ?_))
      refine Tr.cond rfl (fun hd => ?_) (fun hd => ?_)
      · rw [if_pos hd] at hL
        (repeat (first | refine Tr.seq ?_ | refine Tr.skip ?_ | refine Tr.label ?_ | refine Tr.block ?_ | refine Tr.scope ?_ | refine gs1 ?_ | refine gs2 ?_ | refine gs3 ?_ | refine Tr.exit ?_ | refine Tr.goto ?_ | refine Tr.ret ?_ | refine n1 ?_ | refine n2 ?_ | refine n3 ?_ | refine n4 ?_ | refine n5 ?_ | refine n6 ?_ | refine n7 ?_ | refine n8 ?_ | refine n9 (by decide) ?_))
        (first | refine r1 ?_ | refine r2 ?_ | refine r3 ?_); intro K hK; simp only [go_sem, hP, hn]; (repeat (refine ⟨by first | trivial | omega | (simp <;> omega) | (simp +contextual; done) | (clear hK; grind), ?_⟩)); refine hK _ ?_; clear K hK
        refine Tr.le (Le.wbox 2 [.d (.row [.i .i64 0] []), .d (.row [.i .i64 0] []), .d (.row [.i .i64 0] []), _] rfl ⟨.inr ⟨rfl, _, rfl⟩, .inr ⟨rfl, _, rfl⟩, .inr ⟨rfl, _, rfl⟩, .inl rfl, trivial⟩) ?_; simp only [go_sem, hP, hn]
        (repeat (first | ((first | refine r1 ?_ | refine r2 ?_ | refine r3 ?_); intro K hK; simp only [go_sem, hP, hn]; (repeat (refine ⟨by first | trivial | omega | (simp <;> omega) | (simp +contextual; done) | (clear hK; grind), ?_⟩)); refine hK _ ?_; clear K hK) | refine Tr.seq ?_ | refine Tr.skip ?_ | refine Tr.label ?_ | refine Tr.block ?_ | refine Tr.scope ?_ | refine gs1 ?_ | refine gs2 ?_ | refine gs3 ?_ | refine Tr.exit ?_ | refine Tr.goto ?_ | refine Tr.ret ?_ | refine n1 ?_ | refine n2 ?_ | refine n3 ?_ | refine n4 ?_ | refine n5 ?_ | refine n6 ?_ | refine n7 ?_ | refine n8 ?_ | refine n9 (by decide) ?_))
        simp only [RetG, go_sem]; (repeat (with_reducible refine And.intro ?_ ?_; (· first | trivial | omega | (simp <;> omega) | (simp +contextual; done) | (clear hK; grind))))
        rw [hLG, hL]; simp only [if_pos hd]; rfl
      rw [if_neg (by rw [hd]; decide)] at hL
      have hc0 : q.rchk (q.inn.map (rd W)) = 0 := bne_eq_false_iff_eq.mp hd
      have hpos : 0 < q.inn.length := by
        rcases Nat.eq_zero_or_pos q.inn.length with h | h
        · rw [List.eq_nil_of_length_eq_zero h, ← chk_eq] at hc0; exact absurd hc0 (Nd.chk_ne q)
        · exact h
      (repeat (first | refine Tr.seq ?_ | refine Tr.skip ?_ | refine Tr.label ?_ | refine Tr.block ?_ | refine Tr.scope ?_ | refine gs1 ?_ | refine gs2 ?_ | refine gs3 ?_ | refine Tr.exit ?_ | refine Tr.goto ?_ | refine Tr.ret ?_ | refine n1 ?_ | refine n2 ?_ | refine n3 ?_ | refine n4 ?_ | refine n5 ?_ | refine n6 ?_ | refine n7 ?_ | refine n8 ?_ | refine n9 (by decide) ?_))
      refine Tr.le (Le.keep [1, 2, 4, 5, 6, 7, 8, 9]) ?_; simp only [List.map_cons, List.map_nil, lk, Nat.reduceEqDiff, reduceIte]
      (first | refine d1 (.p true 0 (.p true 1 (.p true 2 (.p true 3 (.p true 4 (.p true 5 (.p true 6 (.p true 7 (.alt 8 (.p true 9 (.alt 10 .nil .nil)) .nil))))))))) [32] (by rw [hP]; kernel_rfl) (by kernel_rfl) (by simp only [go_sem, hP, hn]; try simp) (fun _ _ h => h) fun K hK => ?_ | refine d2 (.p true 0 (.p true 1 (.p true 2 (.p true 3 (.p true 4 (.p true 5 (.p true 6 (.p true 7 (.alt 8 (.p true 9 (.alt 10 .nil .nil)) .nil))))))))) [32] (by rw [hP]; kernel_rfl) (by kernel_rfl) (by simp only [go_sem, hP, hn]; try simp) (fun _ _ h => h) fun K hK => ?_ | refine d4 (.p true 0 (.p true 1 (.p true 2 (.p true 3 (.p true 4 (.p true 5 (.p true 6 (.p true 7 (.alt 8 (.p true 9 (.alt 10 .nil .nil)) .nil))))))))) [32] (by rw [hP]; kernel_rfl) (by kernel_rfl) (by simp only [go_sem, hP, hn]; try simp) (fun _ _ h => h) fun K hK => ?_); simp only [go_sem, hP, hn]
      (repeat (refine ⟨by first | trivial | omega | (simp <;> omega) | (simp +contextual; done) | (clear hK; grind), ?_⟩))
      refine p1 (by rw [hP, hT]; exact Width_r Tm q (q.inn.map (rd W)) (by omega) (by omega) hml (by omega)) rfl rfl rfl trivial (by simp only [go_sem, hP, hn]; try trivial) (by simp only [go_sem, hP, hn]; try rfl) (by rw [hn]; decide) (by rfl) ?_; simp only [go_sem, hP, hn]; (repeat (refine ⟨by first | trivial | omega | (simp <;> omega) | (simp +contextual; done) | (clear hK; grind), ?_⟩))
      refine hK _ ?_; clear K hK
      refine Tr.le (Le.keep [1, 2, 4, 5, 6, 7, 8, 9]) ?_; simp only [List.map_cons, List.map_nil, lk, Nat.reduceEqDiff, reduceIte]
      (first | refine d1 (.p true 0 (.p true 1 (.p true 2 (.p true 3 (.p true 4 (.p true 5 (.p true 6 (.p true 7 (.alt 8 (.p true 9 (.alt 10 .nil .nil)) .nil))))))))) [37] (by rw [hP]; kernel_rfl) (by kernel_rfl) (by simp only [go_sem, hP, hn]; try simp) (fun _ _ h => h) fun K hK => ?_ | refine d2 (.p true 0 (.p true 1 (.p true 2 (.p true 3 (.p true 4 (.p true 5 (.p true 6 (.p true 7 (.alt 8 (.p true 9 (.alt 10 .nil .nil)) .nil))))))))) [37] (by rw [hP]; kernel_rfl) (by kernel_rfl) (by simp only [go_sem, hP, hn]; try simp) (fun _ _ h => h) fun K hK => ?_ | refine d4 (.p true 0 (.p true 1 (.p true 2 (.p true 3 (.p true 4 (.p true 5 (.p true 6 (.p true 7 (.alt 8 (.p true 9 (.alt 10 .nil .nil)) .nil))))))))) [37] (by rw [hP]; kernel_rfl) (by kernel_rfl) (by simp only [go_sem, hP, hn]; try simp) (fun _ _ h => h) fun K hK => ?_); simp only [go_sem, hP, hn]
      (repeat (refine ⟨by first | trivial | omega | (simp <;> omega) | (simp +contextual; done) | (clear hK; grind), ?_⟩))
      refine p1 (by rw [hP, hT]; exact rate16_r Tm q (q.inn.map (rd R)) (by simpa using hpos) hmr) rfl rfl rfl trivial (by simp only [go_sem, hP, hn]; try trivial) (by simp only [go_sem, hP, hn]; try rfl) (by rw [hn]; decide) (by rfl) ?_; simp only [go_sem, hP, hn]; (repeat (refine ⟨by first | trivial | omega | (simp <;> omega) | (simp +contextual; done) | (clear hK; grind), ?_⟩))
      refine hK _ ?_; clear K hK
      refine Tr.le (Le.keep [1, 2, 4, 5, 6, 7, 8, 9]) ?_; simp only [List.map_cons, List.map_nil, lk, Nat.reduceEqDiff, reduceIte]
      (first | refine d1 (.p true 0 (.p true 1 (.p true 2 (.p true 3 (.p true 4 (.p true 5 (.p true 6 (.p true 7 (.p true 8 .nil))))))))) [] (by rw [hP]; kernel_rfl) (by kernel_rfl) (by simp only [go_sem, hP, hn]; try simp) (fun _ _ h => h) fun K hK => ?_ | refine d2 (.p true 0 (.p true 1 (.p true 2 (.p true 3 (.p true 4 (.p true 5 (.p true 6 (.p true 7 (.p true 8 .nil))))))))) [] (by rw [hP]; kernel_rfl) (by kernel_rfl) (by simp only [go_sem, hP, hn]; try simp) (fun _ _ h => h) fun K hK => ?_ | refine d4 (.p true 0 (.p true 1 (.p true 2 (.p true 3 (.p true 4 (.p true 5 (.p true 6 (.p true 7 (.p true 8 .nil))))))))) [] (by rw [hP]; kernel_rfl) (by kernel_rfl) (by simp only [go_sem, hP, hn]; try simp) (fun _ _ h => h) fun K hK => ?_); simp only [go_sem, hP, hn]
      simp only [List.length_set]
      (repeat (refine ⟨by first | trivial | omega | (simp <;> omega) | (simp +contextual; done) | (clear hK; grind), ?_⟩))
      rw [rd_set_same (by omega) (by omega)]
      refine hK _ ?_; clear K hK
      refine Tr.cond rfl (fun he => ?_) (fun he => ?_)
      · rw [if_pos he] at hL
        (repeat (first | refine Tr.seq ?_ | refine Tr.skip ?_ | refine Tr.label ?_ | refine Tr.block ?_ | refine Tr.scope ?_ | refine gs1 ?_ | refine gs2 ?_ | refine gs3 ?_ | refine Tr.exit ?_ | refine Tr.goto ?_ | refine Tr.ret ?_ | refine n1 ?_ | refine n2 ?_ | refine n3 ?_ | refine n4 ?_ | refine n5 ?_ | refine n6 ?_ | refine n7 ?_ | refine n8 ?_ | refine n9 (by decide) ?_))
        (first | refine r1 ?_ | refine r2 ?_ | refine r3 ?_); intro K hK; simp only [go_sem, hP, hn]; (repeat (refine ⟨by first | trivial | omega | (simp <;> omega) | (simp +contextual; done) | (clear hK; grind), ?_⟩)); refine hK _ ?_; clear K hK
        refine Tr.le (Le.wbox 2 [.d (.row [.i .i64 0] []), .d (.row [.i .i64 0] []), .d (.row [.i .i64 0] []), _] rfl ⟨.inr ⟨rfl, _, rfl⟩, .inr ⟨rfl, _, rfl⟩, .inr ⟨rfl, _, rfl⟩, .inl rfl, trivial⟩) ?_; simp only [go_sem, hP, hn]
        (repeat (first | ((first | refine r1 ?_ | refine r2 ?_ | refine r3 ?_); intro K hK; simp only [go_sem, hP, hn]; (repeat (refine ⟨by first | trivial | omega | (simp <;> omega) | (simp +contextual; done) | (clear hK; grind), ?_⟩)); refine hK _ ?_; clear K hK) | refine Tr.seq ?_ | refine Tr.skip ?_ | refine Tr.label ?_ | refine Tr.block ?_ | refine Tr.scope ?_ | refine gs1 ?_ | refine gs2 ?_ | refine gs3 ?_ | refine Tr.exit ?_ | refine Tr.goto ?_ | refine Tr.ret ?_ | refine n1 ?_ | refine n2 ?_ | refine n3 ?_ | refine n4 ?_ | refine n5 ?_ | refine n6 ?_ | refine n7 ?_ | refine n8 ?_ | refine n9 (by decide) ?_))
        simp only [RetG, go_sem]; (repeat (with_reducible refine And.intro ?_ ?_; (· first | trivial | omega | (simp <;> omega) | (simp +contextual; done) | (clear hK; grind))))
        rw [hLG, hL]; rfl
      rw [if_neg (by rw [he]; decide)] at hL
      (repeat (first | ((first | refine r1 ?_ | refine r2 ?_ | refine r3 ?_); intro K hK; simp only [go_sem, hP, hn]; (repeat (refine ⟨by first | trivial | omega | (simp <;> omega) | (simp +contextual; done) | (clear hK; grind), ?_⟩)); refine hK _ ?_; clear K hK) | refine Tr.seq ?_ | refine Tr.skip ?_ | refine Tr.label ?_ | refine Tr.block ?_ | refine Tr.scope ?_ | refine gs1 ?_ | refine gs2 ?_ | refine gs3 ?_ | refine Tr.exit ?_ | refine Tr.goto ?_ | refine Tr.ret ?_ | refine n1 ?_ | refine n2 ?_ | refine n3 ?_ | refine n4 ?_ | refine n5 ?_ | refine n6 ?_ | refine n7 ?_ | refine n8 ?_ | refine n9 (by decide) ?_))
      rw [w64 (x := k + 1) (by omega) (by omega)]
      refine ⟨m - 1, _, by omega, ?_, k + 1, W.set (rd os k).toNat (q.rwide (q.inn.map (rd W))), R.set (rd os k).toNat (q.rate (q.inn.map (rd R))), rfl, by omega, by omega, by simpa using hWl, by simpa using hRl, hL⟩
      exact (Le.mv (by simp only [go_sem, hP, hn]; first | done | (simp; done) | (simp [intC]; done) | (repeat (first | rfl | constructor))) (by simp only [go_sem, hP, hn]; first | done | (simp; done) | (simp [intC]; done) | (repeat (first | rfl | constructor))))
  rw [drop_end (by simpa using hb)] at hL
  (repeat (first | ((first | refine r1 ?_ | refine r2 ?_ | refine r3 ?_); intro K hK; simp only [go_sem, hP, hn]; (repeat (refine ⟨by first | trivial | omega | (simp <;> omega) | (simp +contextual; done) | (clear hK; grind), ?_⟩)); refine hK _ ?_; clear K hK) | refine Tr.seq ?_ | refine Tr.skip ?_ | refine Tr.label ?_ | refine Tr.block ?_ | refine Tr.scope ?_ | refine gs1 ?_ | refine gs2 ?_ | refine gs3 ?_ | refine Tr.exit ?_ | refine Tr.goto ?_ | refine Tr.ret ?_ | refine n1 ?_ | refine n2 ?_ | refine n3 ?_ | refine n4 ?_ | refine n5 ?_ | refine n6 ?_ | refine n7 ?_ | refine n8 ?_ | refine n9 (by decide) ?_))
  simp only [RetG, go_sem]; (repeat (with_reducible refine And.intro ?_ ?_; (· first | trivial | omega | (simp <;> omega) | (simp +contextual; done) | (clear hK; grind))))
  rw [hLG, hL]; rfl
end Go.Proofs.YtohhaonjckfkaaaDoor.Aw
