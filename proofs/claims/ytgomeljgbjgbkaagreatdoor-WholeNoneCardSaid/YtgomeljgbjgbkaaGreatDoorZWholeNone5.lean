/- The abstract walk, and contracts of Go functions: each call returns what the Lean function named tells. Conditions: those that each theorem names, none else. -/
import Derived.Test.YtgomeljgbjgbkaaGreatDoorZWholeNone4
set_option linter.unusedVariables false
set_option linter.unusedSimpArgs false
set_option linter.unusedSectionVars false
set_option maxRecDepth 100000
set_option maxHeartbeats 4000000
namespace Go.Proofs.YtgomeljgbjgbkaaGreatDoor.Aw
open Go.RowKit
/-! what kernels make, in plain numbers -/
def dotK (ws : List Int) (o : Int) (f : List Int) : Nat → Int → Int
  | 0, x => x
  | k + 1, x => wrap64 (dotK ws o f k x + wrap64 (rd ws (o + k) * rd f k))
def stW (n : Nd) (w : Nat) : Nat := if n.k = 2 then 1 else w
def rowF (n : Nd) (fs : List (List Int)) (c : Int) (j : Nat) : List Int := if n.k = 2 then [rd (fr fs j) c] else fr fs j
/-- a number's sum, over the first frames -/
def accW (n : Nd) (fs : List (List Int)) (w : Nat) (c : Int) : Nat → Int
  | 0 => rd n.bs c
  | j + 1 => dotK n.ws ((c * fs.length + j) * stW n w) (rowF n fs c j) (stW n w) (accW n fs w c j)
def weighedN (n : Nd) (fs : List (List Int)) (w : Nat) : Nat → List Int
  | 0 => []
  | c + 1 => weighedN n fs w c ++ [n.pst (accW n fs w (c : Nat) fs.length)]
def weighedV (n : Nd) (fs : List (List Int)) (w : Nat) : List Int := weighedN n fs w n.bs.length
theorem weighedN_len (n : Nd) (fs : List (List Int)) (w : Nat) : ∀ c, (weighedN n fs w c).length = c
  | 0 => rfl
  | c + 1 => by simp [weighedN, weighedN_len n fs w c]
/-- a node that weighs, over frames as wide -/
structure WOk (n : Nd) (fs : List (List Int)) (w : Nat) : Prop where
  m0 : 1 ≤ fs.length ∧ fs.length ≤ 16
  w0 : 1 ≤ w ∧ w ≤ 16
  b0 : 1 ≤ n.bs.length ∧ n.bs.length ≤ 16
  len : ∀ f ∈ fs, f.length = w
  dp : n.k = 2 → n.bs.length = w
  ws : n.ws.length = n.bs.length * fs.length * stW n w
theorem stW_pos {n : Nd} {fs : List (List Int)} {w : Nat} (h : WOk n fs w) : 1 ≤ stW n w ∧ stW n w ≤ 16 := by
  have := h.w0
  unfold stW
  split <;> omega
theorem WOk.wlen {n : Nd} {fs : List (List Int)} {w : Nat} (h : WOk n fs w) : n.ws.length ≤ 4096 := by
  have h1 := h.m0
  have h2 := h.b0
  have h3 := stW_pos h
  rw [h.ws]
  calc n.bs.length * fs.length * stW n w ≤ 16 * 16 * 16 := Nat.mul_le_mul (Nat.mul_le_mul h2.2 h1.2) h3.2
    _ = 4096 := rfl
theorem WOk.flen {n : Nd} {fs : List (List Int)} {w : Nat} (h : WOk n fs w) {j : Int} (h0 : 0 ≤ j) (h1 : j < fs.length) : (fr fs j).length = w := h.len _ (fr_mem h0 h1)
theorem WOk.off {n : Nd} {fs : List (List Int)} {w : Nat} (h : WOk n fs w) {c j : Int} (c0 : 0 ≤ c) (c1 : c < n.bs.length) (j0 : 0 ≤ j) (j1 : j < fs.length) :
    0 ≤ c * fs.length ∧ 0 ≤ (c * fs.length + j) * stW n w ∧ (c * fs.length + j) * stW n w + stW n w ≤ n.ws.length ∧ (c * fs.length + (j + 1)) * stW n w = (c * fs.length + j) * stW n w + stW n w ∧ c * fs.length + j < n.bs.length * fs.length ∧ (n.bs.length : Int) * fs.length ≤ 256 := by
  have h1 := h.m0
  have h2 := h.b0
  have h3 := stW_pos h
  have a0 : 0 ≤ c * fs.length := Int.mul_nonneg c0 (by omega)
  have a1 : (c + 1) * (fs.length : Int) ≤ n.bs.length * fs.length := Int.mul_le_mul_of_nonneg_right (by omega) (by omega)
  rw [Int.add_mul] at a1
  have a2 : (c * fs.length + j + 1) * (stW n w : Int) ≤ (n.bs.length * fs.length) * stW n w := Int.mul_le_mul_of_nonneg_right (by omega) (by omega)
  have a3 : ((n.ws.length : Nat) : Int) = (n.bs.length * fs.length) * stW n w := by rw [h.ws]; simp
  have a4 : (n.bs.length : Int) * fs.length ≤ 16 * 16 := by
    have := Nat.mul_le_mul h2.2 h1.2
    exact_mod_cast this
  refine ⟨a0, Int.mul_nonneg (by omega) (by omega), ?_, ?_, by omega, by omega⟩
  · rw [a3]
    rw [Int.add_mul (c * fs.length + j) 1] at a2
    omega
  · rw [← Int.add_assoc, Int.add_mul (c * fs.length + j) 1]
    omega
theorem WOk.next {n : Nd} {fs : List (List Int)} {w : Nat} (c : Int) : (c * fs.length + fs.length) * (stW n w : Int) = ((c + 1) * fs.length + 0) * stW n w := by
  rw [Int.add_mul c 1]; simp
/-- a node's frame, over frames -/
def frameV (n : Nd) (fs : List (List Int)) (w : Nat) : List Int :=
  if rWeighs n.k = true then weighedV n fs w
  else if n.k = 3 ∨ n.k = 5 then eachL (fun xs => rd xs (mostV xs)) fs w
  else if n.k = 4 ∨ n.k = 12 then eachL meanV fs w
  else if n.k = 7 then eachL addV fs w
  else if n.k = 9 then eachL (fun xs => clampV (rd xs 0) n.low n.high) fs w
  else if n.k = 10 then eachL (fun xs => scaleV (rd xs 0) n.mult n.shift) fs w
  else if n.k = 11 then [mostV (fr fs 0)]
  else fs.flatten
/-- a right node, and its frames -/
structure KOk (n : Nd) (fs : List (List Int)) (w : Nat) : Prop where
  w0 : 1 ≤ w ∧ w ≤ 16
  m0 : 1 ≤ fs.length ∧ fs.length ≤ 4096
  len : ∀ f ∈ fs, f.length = w
  num : ∀ f ∈ fs, ∀ x ∈ f, in32 x
  win : rWin n.k = true → (fs.length : Int) = n.size
  many : rMany n.k = true → fs.length = n.inn.length
  one : rWin n.k = false → rMany n.k = false → n.k ≠ 5 → fs.length = 1
  chk : n.rchk (List.replicate n.inn.length (w : Int)) = 0
  il : n.inn.length ≤ 4
  wl : n.ws.length ≤ 4096
  bl : n.bs.length ≤ 4096
theorem KOk.unpack {n : Nd} {fs : List (List Int)} {w : Nat} (h : KOk n fs w) : 1 ≤ n.k ∧ n.k ≤ 12 ∧ 0 ≤ n.post ∧ n.post ≤ 3 ∧ (rMany n.k = false → n.inn.length = 1) ∧ 1 ≤ n.inn.length := by
  obtain ⟨h1, h7, h9, _, _, _⟩ := rchk_unpack h.chk
  unfold Nd.r7 at h7
  unfold Nd.r9 at h9
  simp only [Bool.or_eq_false_iff, Bool.and_eq_false_iff, Bool.not_eq_false', inB_iff, decide_eq_false_iff_not, List.length_replicate] at h7 h9
  refine ⟨h7.1.1.1, h7.1.1.2, by omega, by omega, fun e => ?_, ?_⟩
  · rw [e] at h7; have := h7.2; simp at this; omega
  · cases e : rMany n.k with
    | true => rw [e] at h7; simp at h7; omega
    | false => rw [e] at h7; simp at h7; omega
theorem KOk.sized {n : Nd} {fs : List (List Int)} {w : Nat} (h : KOk n fs w) : n.sized w = true := by
  obtain ⟨_, _, _, _, hs, _⟩ := rchk_unpack h.chk
  have := h.unpack.2.2.2.2.2
  have e : rd (List.replicate n.inn.length (w : Int)) 0 = w := by
    unfold rd
    obtain ⟨m, hm⟩ : ∃ m, n.inn.length = m + 1 := ⟨n.inn.length - 1, by omega⟩
    rw [hm, List.replicate_succ]; rfl
  rwa [e] at hs
theorem KOk.wok {n : Nd} {fs : List (List Int)} {w : Nat} (h : KOk n fs w) (hw : rWeighs n.k = true) : WOk n fs w := by
  have hs := h.sized
  have hm := h.m0
  have hw0 := h.w0
  unfold Nd.sized at hs
  rw [if_pos hw] at hs
  have hc : n.k = 1 ∨ n.k = 2 ∨ n.k = 6 := by unfold rWeighs at hw; simpa [or_assoc] using hw
  have h4 : n.s4 = false := by
    cases e : n.s4 with
    | false => rfl
    | true => rw [e] at hs; simp at hs
  have h13 : n.s13 = false := by
    cases e : n.s13 with
    | false => rfl
    | true => rw [e] at hs; simp at hs
  have h21 : n.s21 w (if (n.k == 2) = true then (w : Int) else n.wid) = false := by
    cases e : n.s21 w (if (n.k == 2) = true then (w : Int) else n.wid) with
    | false => rfl
    | true => rw [e] at hs; simp at hs
  unfold Nd.s21 at h21
  simp only [Bool.or_eq_false_iff, bne_eq_false_iff_eq] at h21
  obtain ⟨⟨⟨hW, hB⟩, _⟩, _⟩ := h21
  have hsz : rFour n.k = true → 1 ≤ n.size ∧ n.size ≤ 8 := by
    intro e; unfold Nd.s4 at h4; rw [e] at h4
    simp at h4
    exact inB_iff.mp h4
  have hwd : (n.k = 1 ∨ n.k = 6) → 1 ≤ n.wid ∧ n.wid ≤ 16 := by
    intro e; unfold Nd.s13 at h13
    have : (n.k == 1 || n.k == 6) = true := by simpa using e
    rw [this] at h13; simp at h13
    exact inB_iff.mp h13
  unfold Nd.rWeights at hW
  rcases hc with hk | hk | hk
  · have hwin := h.win (by rw [hk]; rfl)
    have s1 := hsz (by rw [hk]; rfl)
    have d1 := hwd (.inl hk)
    rw [hk] at hW hB
    simp at hW hB
    have m1 := mul_le n.wid 16 n.size 8 (by omega) d1.2 (by omega) s1.2
    have m2 := mul_le (n.wid * n.size) 128 w 16 m1.1 m1.2 (by omega) (by omega)
    rw [w64 (x := n.wid * n.size) (by omega) (by omega), w64 (by omega) (by omega)] at hW
    refine ⟨⟨hm.1, by omega⟩, hw0, by omega, h.len, fun e => by omega, ?_⟩
    have : stW n w = w := by unfold stW; rw [if_neg (by omega)]
    rw [this]
    have : ((n.ws.length : Nat) : Int) = ((n.bs.length * fs.length * w : Nat) : Int) := by rw [hW]; simp only [Int.natCast_mul, hB, hwin]
    exact_mod_cast this
  · have hwin := h.win (by rw [hk]; rfl)
    have s1 := hsz (by rw [hk]; rfl)
    rw [hk] at hW hB
    simp at hW hB
    have m1 := mul_le (w : Int) 16 n.size 8 (by omega) (by omega) (by omega) s1.2
    rw [w64 (by omega) (by omega)] at hW
    refine ⟨⟨hm.1, by omega⟩, hw0, by omega, h.len, fun e => by omega, ?_⟩
    have : stW n w = 1 := by unfold stW; rw [if_pos hk]
    rw [this]
    have : ((n.ws.length : Nat) : Int) = ((n.bs.length * fs.length * 1 : Nat) : Int) := by rw [hW]; simp only [Int.natCast_mul, hB, hwin]; simp
    exact_mod_cast this
  · have h1 := h.one (by rw [hk]; rfl) (by rw [hk]; rfl) (by omega)
    have d1 := hwd (.inr hk)
    rw [hk] at hW hB
    simp at hW hB
    have m1 := mul_le n.wid 16 w 16 (by omega) d1.2 (by omega) (by omega)
    rw [w64 (by omega) (by omega)] at hW
    refine ⟨⟨hm.1, by omega⟩, hw0, by omega, h.len, fun e => by omega, ?_⟩
    have : stW n w = w := by unfold stW; rw [if_neg (by omega)]
    rw [this]
    have : ((n.ws.length : Nat) : Int) = ((n.bs.length * fs.length * w : Nat) : Int) := by rw [hW, h1]; simp only [Int.natCast_mul, hB]; simp
    exact_mod_cast this
theorem col_len (fs : List (List Int)) (k : Int) : (col fs k).length = fs.length := by simp [col]
theorem KOk.col {n : Nd} {fs : List (List Int)} {w : Nat} (h : KOk n fs w) {k : Int} (k0 : 0 ≤ k) (k1 : k < w) : ∀ x ∈ col fs k, in32 x := by
  intro x hx
  unfold Aw.col at hx
  obtain ⟨f, hf, rfl⟩ := List.mem_map.1 hx
  exact h.num f hf _ (rd_mem k0 (by rw [h.len f hf]; exact k1))
theorem eachL_len (g : List Int → Int) (fs : List (List Int)) (w : Nat) : (eachL g fs w).length = w := by simp [eachL]
end Go.Proofs.YtgomeljgbjgbkaaGreatDoor.Aw
namespace Go.Proofs.YtgomeljgbjgbkaaGreatDoor.Aw
open Go.RowKit
attribute [local go_sem_proc] Nat.reduceAdd Nat.reduceMul Nat.reduceSub Nat.reduceEqDiff Nat.reduceLeDiff Nat.reduceBEq Nat.reduceBNe Int.reduceToNat reduceIte reduceCtorEq
attribute [local go_sem] initT SQ so pe he ev lk constS stp stc gdS nth pickS pickD loadS cellsAt okAt fieldAddrS fieldS partS indexAddrS indexS extractS binS binD binI isShift unS convS lenS sliceS bndI bndC mmS mm2 mmD builtS fillS okCells cellsS splS solid aliveL alive okS boxS allocS makeS bsliceS elemsOf dcells stF frzW storeS frzA frzK oneS1 srcR rwsOf hdO appR frz frzT frzS frzL frzO frzH appS srcS appVC killS killT killC killH killO k1 k2 S.has S.hasL St.add St.upd dropH lh cond_or cond_and rw_intC rw_intC0 rw_set rw_app rw_apps rw_rep rw_slice wr64 cond_true cond_false true_and and_true List.map_cons List.map_nil List.length_cons List.length_nil List.drop_succ_cons List.drop_zero List.take_succ_cons List.take_zero List.nil_append List.cons_append List.getD_cons_zero List.getD_cons_succ List.headD_cons List.length_map ite_true ite_false if_true if_false Bool.false_eq_true and_self forall_const List.drop_nil List.take_nil List.append_nil Option.map_some Option.map_none List.mapM_cons List.mapM_nil Option.bind_eq_bind Option.bind_some Option.pure_def knows resL resV oneS freshS freshL cv cvL stpL stcL or_true true_or or_false false_or List.all_cons List.all_nil Bool.and_self Bool.or_self Bool.true_and Bool.and_true Bool.or_false Bool.false_or implies_true flatD allm_nil allm_cons List.getElem?_cons_zero List.getElem?_cons_succ Nd.cs Nd.ds ml mln Option.isSome_some Option.isSome_none eq_self Int.toNat_natCast AP ldOk isLd inL subL crt chg chgS chgP idxs aliveW Option.toList_some Option.toList_none Option.toList RetG Nd.win frzA offK keepH aliveK nkH closedH closedO keysK inH St.upd rowO List.contains_cons List.contains_nil Bool.or_self Option.isNone_none Option.isNone_some Bool.not_true Bool.not_false gcs rowN e0N frzC
attribute [local go_sem] sz2 ag2 ok2 kk2 iu2 zc2 zd2 by2 sz3 ag3 ok3 kk3 iu3 zc3 zd3 by3 sz4 ag4 ok4 bo4 zc4 zd4 by4 sz5 ag5 ok5 kk5 iu5 zc5 zd5 by5 sz9 ag9 ok9 st9 zc9 zd9 by9 sz12 ag12 ok12 kk12 iu12 zc12 zd12 by12 sz15 ag15 ok15 zc15 by15 sz16 ag16 ok16 zc16 by16 sz21 ag21 ok21 kk21 iu21 zc21 zd21 by21 sz22 ag22 ok22 sl22 zc22 zd22 by22 sz23 ag23 ok23 zc23 zd23 pl23 by23 fl23_0 fl23_1 fl23_2 sz24 ag24 ok24 zc24 zd24 pl24 by24 fl24_0 fl24_1 fl24_2 sz26 ag26 ok26 sl26 zc26 zd26 by26 sz27 ag27 ok27 zc27 zd27 pl27 by27 fl27_0 fl27_1 fl27_2 fl27_3 fl27_4 sz28 ag28 ok28 zc28 zd28 pl28 by28 fl28_0 fl28_1 fl28_2 fl28_3 fl28_4 sz29 ag29 ok29 sl29 zc29 zd29 by29 sz32 ag32 ok32 sl32 zc32 zd32 by32 sz33 ag33 ok33 kk33 iu33 zc33 zd33 by33 sz36 ag36 ok36 zc36 zd36 pl36 by36 fl36_0 fl36_1 sz37 ag37 ok37 zc37 zd37 pl37 by37 fl37_0 fl37_1 sz49 ag49 ok49 zc49 zd49 pl49 by49 fl49_0 fl49_1 fl49_2 fl49_3 fl49_4 fl49_5 fl49_6 fl49_7 fl49_8 fl49_9 fl49_10 fl49_11 fl49_12 fl49_13 fl49_14 sz50 ag50 ok50 zc50 zd50 pl50 by50 fl50_0 fl50_1 fl50_2 fl50_3 fl50_4 fl50_5 fl50_6 fl50_7 fl50_8 fl50_9 fl50_10 fl50_11 fl50_12 fl50_13 fl50_14 sz53 ag53 ok53 zc53 by53 sz55 ag55 ok55 zc55 zd55 pl55 by55 fl55_0 fl55_1 fl55_2 sz56 ag56 ok56 zc56 zd56 pl56 by56 fl56_0 fl56_1 fl56_2 sz58 ag58 ok58 zc58 zd58 pl58 by58 fl58_0 fl58_1 fl58_2 fl58_3 sz59 ag59 ok59 zc59 zd59 pl59 by59 fl59_0 fl59_1 fl59_2 fl59_3 sz66 ag66 ok66 zc66 zd66 pl66 by66 fl66_0 fl66_1 fl66_2 sz67 ag67 ok67 zc67 zd67 pl67 by67 fl67_0 fl67_1 fl67_2 sz79 ag79 ok79 zc79 by79 sz80 ag80 ok80 zc80 zd80 pl80 by80 fl80_0 fl80_1 sz81 ag81 ok81 zc81 zd81 pl81 by81 fl81_0 fl81_1 sz105 ag105 ok105 sl105 ar105 zc105 zd105 pl105 by105 sz108 ag108 ok108 sl108 ar108 zc108 zd108 pl108 by108 sz109 ag109 ok109 zc109 by109 sz115 ag115 ok115 zc115 zd115 pl115 by115 fl115_0 fl115_1 sz116 ag116 ok116 zc116 zd116 pl116 by116 fl116_0 fl116_1 sz120 ag120 ok120 zc120 zd120 pl120 by120 fl120_0 fl120_1 sz121 ag121 ok121 sl121 ar121 zc121 zd121 pl121 by121 sz124 ag124 ok124 kk124 iu124 zc124 zd124 by124 sz133 ag133 ok133 kk133 iu133 zc133 zd133 by133 sz137 ag137 ok137 zc137 by137
section
attribute [local go_sem] frD
theorem rd_drop (l : List Int) (o k : Int) (h0 : 0 ≤ o) (h1 : 0 ≤ k) : rd (l.drop o.toNat) k = rd l (o + k) := by
  unfold rd
  rw [List.getD_eq_getElem?_getD, List.getD_eq_getElem?_getD, List.getElem?_drop]
  congr 2
  omega
theorem one_drop {l : List Int} {c : Int} (h0 : 0 ≤ c) (h1 : c < l.length) : ((l.take (c + 1).toNat).drop c.toNat) = [rd l c] := by
  rw [take_rd h0 h1, List.drop_append, List.drop_of_length_le (by simp; omega)]
  have : c.toNat - (l.take c.toNat).length = 0 := by simp; omega
  rw [this]; rfl
theorem rowF_len {n : Nd} {fs : List (List Int)} {w : Nat} (h : WOk n fs w) {c : Int} {j : Int} (j0 : 0 ≤ j) (j1 : j < fs.length) : (rowF n fs c j.toNat).length = stW n w := by
  have e : ((j.toNat : Nat) : Int) = j := Int.toNat_of_nonneg j0
  unfold rowF stW
  split
  · rfl
  · rw [e]; exact h.flen j0 j1
theorem weighed_c {T : World → Prop} (Tm : TP T) (n : Nd) (fs : List (List Int)) (w : Nat) (h : WOk n fs w) : Cg Go.Proofs.Tryz.prog T 64 [] [.agg n.cs, .d (frD fs)] (fun r H => H = [(2000, .row 3 [.i .i64 0] ((weighedV n fs w).map intC))] ∧ r = .own 2000) := by
  have hm0 := h.m0
  have hb0 := h.b0
  have hw0 := h.w0
  have hst := stW_pos h
  have hwl := h.wlen
  refine Cg_of [2000] Tm Go.Proofs.Tryz.func64 rfl rfl Go.Proofs.Tryz.ntmps64 (by simp) rfl (rs := [.tmp 4]) rfl fun E hP hn hT hpn => ?_
  (repeat refine TS.imp ?_)
  refine TR.imp ?_; intro K hK; simp only [go_sem, hP, hn]; (repeat refine vc ?_); refine hK _ ?_; clear K hK
  (repeat refine TS.imp ?_)
  refine TR.imp ?_; intro K hK; simp only [go_sem, hP, hn]; (repeat refine vc ?_); refine hK _ ?_; clear K hK
  (repeat refine TS.imp ?_)
  refine TR.imp ?_; intro K hK; simp only [go_sem, hP, hn]; (repeat refine vc ?_); refine hK _ ?_; clear K hK
  (repeat refine TS.imp ?_)
  refine TR.imp ?_; intro K hK; simp only [go_sem, hP, hn]; (repeat refine vc ?_); refine hK _ ?_; clear K hK
  (repeat refine TS.imp ?_)
  refine Tr.le (Le.keep [1, 2, 5, 6, 20, 21, 22]) ?_; simp only [List.map_cons, List.map_nil, lk, Nat.reduceEqDiff, reduceIte]
  refine Tr.loop (fun q s => ∃ (c : Int) (m L : List Int), s = ⟨[(1, .d (frD fs)), (2, .ptr 2 0), (5, .own 16), (6, .d (.row [.i .i64 0] (L.map intC))), (20, .d (.row [.i .i64 0] (n.bs.map intC))), (21, .d (.i .i64 n.bs.length)), (22, .d (.i .i64 c))], [(2, .box 50 n.cs), (16, .row 3 [.i .i64 0] (m.map intC))]⟩ ∧ 0 ≤ c ∧ c + q = n.bs.length ∧ m.length = n.bs.length ∧ m.take c.toNat = weighedN n fs w c.toNat ∧ L = n.ws.drop ((c * fs.length + 0) * stW n w).toNat) n.bs.length ⟨_, (Le.mv (by simp only [go_sem, hP, hn]; first | done | (simp; done) | (simp [intC]; done) | (repeat (first | rfl | constructor))) (by simp only [go_sem, hP, hn]; first | done | (simp; done) | (simp [intC]; done) | (repeat (first | rfl | constructor)))), 0, List.replicate n.bs.length 0, n.ws, rfl, by omega, by omega, by simp, by simp [weighedN], by simp⟩ ?_
  rintro q s ⟨c, m, L, rfl, c0, cq, hm, ht, hL⟩
  (repeat refine TS.imp ?_)
  refine TR.imp ?_; intro K hK; simp only [go_sem, hP, hn]; (repeat refine vc ?_); refine hK _ ?_; clear K hK
  (repeat refine TS.imp ?_)
  refine Tr.cond rfl (fun hb => ?_) (fun hb => ?_)
  · have hc : c < n.bs.length := by simpa using hb
    clear hb
    (repeat refine TS.imp ?_)
    refine TR.imp ?_; intro K hK; simp only [go_sem, hP, hn]; (repeat refine vc ?_); refine hK _ ?_; clear K hK
    (repeat refine TS.imp ?_)
    refine TR.imp ?_; intro K hK; simp only [go_sem, hP, hn]; (repeat refine vc ?_); refine hK _ ?_; clear K hK
    (repeat refine TS.imp ?_)
    refine Tr.le (Le.keep [1, 2, 5, 6, 7, 8, 20, 21, 22, 27, 28, 29]) ?_; simp only [List.map_cons, List.map_nil, lk, Nat.reduceEqDiff, reduceIte]
    refine Tr.loop (fun p s => ∃ (j : Int) (L : List Int), s = ⟨[(1, .d (frD fs)), (2, .ptr 2 0), (5, .own 16), (6, .d (.row [.i .i64 0] (L.map intC))), (7, .d (.i .i64 c)), (8, .d (.i .i64 (accW n fs w c j.toNat))), (20, .d (.row [.i .i64 0] (n.bs.map intC))), (21, .d (.i .i64 n.bs.length)), (22, .d (.i .i64 c)), (27, .d (frD fs)), (28, .d (.i .i64 fs.length)), (29, .d (.i .i64 j))], [(2, .box 50 n.cs), (16, .row 3 [.i .i64 0] (m.map intC))]⟩ ∧ 0 ≤ j ∧ j + p = fs.length ∧ L = n.ws.drop ((c * fs.length + j) * stW n w).toNat) fs.length ⟨_, (Le.mv (by simp only [go_sem, hP, hn]; first | done | (simp; done) | (simp [intC]; done) | (repeat (first | rfl | constructor))) (by simp only [go_sem, hP, hn]; first | done | (simp; done) | (simp [intC]; done) | (repeat (first | rfl | constructor)))), 0, L, rfl, by omega, by omega, hL⟩ ?_
    clear hL L
    rintro p s ⟨j, L, rfl, j0, jp, hL⟩
    (repeat refine TS.imp ?_)
    refine TR.imp ?_; intro K hK; simp only [go_sem, hP, hn]; (repeat refine vc ?_); refine hK _ ?_; clear K hK
    (repeat refine TS.imp ?_)
    refine Tr.cond rfl (fun hb => ?_) (fun hb => ?_)
    · have hj : j < fs.length := by simpa using hb
      clear hb
      have hfl := h.flen j0 hj
      obtain ⟨o0, o1, o2, o3, o4, o5⟩ := h.off c0 hc j0 hj
      have hrl := rowF_len h (c := c) j0 hj
      have hLl : (L.length : Int) = n.ws.length - (c * fs.length + j) * stW n w := by rw [hL, List.length_drop]; omega
      have hLr : ∀ k : Int, 0 ≤ k → rd L k = rd n.ws ((c * fs.length + j) * stW n w + k) := fun k hk => by rw [hL, rd_drop _ _ _ o1 hk]
      have hLn : n.ws.drop ((c * fs.length + (j + 1)) * stW n w).toNat = L.drop (stW n w) := by
        rw [hL, List.drop_drop, o3]
        congr 1
        omega
      have hacc : accW n fs w c (j + 1).toNat = dotK n.ws ((c * fs.length + j) * stW n w) (rowF n fs c j.toNat) (stW n w) (accW n fs w c j.toNat) := by
        have e : (j + 1).toNat = j.toNat + 1 := by omega
        have e2 : ((j.toNat : Nat) : Int) = j := Int.toNat_of_nonneg j0
        rw [e]; simp only [accW, e2]
      have hrow : rowF n fs c j.toNat = if n.k = 2 then [rd (fr fs j) c] else fr fs j := by
        unfold rowF; rw [Int.toNat_of_nonneg j0]
      clear hL
      (repeat refine TS.imp ?_)
      refine TR.imp ?_; intro K hK; simp only [go_sem, hP, hn]
      rw [rw_fr fs j j0 hj]
      simp only [go_sem, hP, hn]
      (repeat refine vc ?_)
      refine hK _ ?_; clear K hK
      (repeat refine TS.imp ?_)
      refine TR.imp ?_; intro K hK; simp only [go_sem, hP, hn]; (repeat refine vc ?_); refine hK _ ?_; clear K hK
      refine Tr.block ?_
      refine Tr.seq ?_
      refine Tr.meet (fun s => s = ⟨[(1, .d (frD fs)), (2, .ptr 2 0), (5, .own 16), (6, .d (.row [.i .i64 0] (L.map intC))), (7, .d (.i .i64 c)), (8, .d (.i .i64 (accW n fs w c j.toNat))), (10, .d (.row [.i .i64 0] ((rowF n fs c j.toNat).map intC))), (20, .d (.row [.i .i64 0] (n.bs.map intC))), (21, .d (.i .i64 n.bs.length)), (22, .d (.i .i64 c)), (27, .d (frD fs)), (28, .d (.i .i64 fs.length)), (29, .d (.i .i64 j))], [(2, .box 50 n.cs), (16, .row 3 [.i .i64 0] (m.map intC))]⟩) ?_ ?_
      rotate_left
      · (repeat refine TS.imp ?_)
        refine TR.imp ?_; intro K hK; simp only [go_sem, hP, hn]; (repeat refine vc ?_); refine hK _ ?_; clear K hK
        (repeat refine TS.imp ?_)
        refine Tr.cond rfl (fun hk => ?_) (fun hk => ?_)
        · have hk2 : n.k = 2 := by simpa using hk
          have hcw := h.dp hk2
          rw [hrow, if_pos hk2]
          have hw1 : wrap64 (c + 1) = c + 1 := w64 (by omega) (by omega)
          (repeat refine TS.imp ?_)
          refine TR.imp ?_; intro K hK; simp only [hw1, rw_slice, one_drop c0 (show c < (fr fs j).length by omega), go_sem, hP, hn]
          (repeat refine vc ?_)
          refine hK _ ?_; clear K hK
          (repeat refine TS.imp ?_)
          exact ⟨_, (Le.mv (by simp only [go_sem, hP, hn]; first | done | (simp; done) | (simp [intC]; done) | (repeat (first | rfl | constructor))) (by simp only [go_sem, hP, hn]; first | done | (simp; done) | (simp [intC]; done) | (repeat (first | rfl | constructor)))), rfl⟩
        · have hk2 : ¬ n.k = 2 := by simpa using hk
          rw [hrow, if_neg hk2]
          (repeat refine TS.imp ?_)
          exact ⟨_, (Le.mv (by simp only [go_sem, hP, hn]; first | done | (simp; done) | (simp [intC]; done) | (repeat (first | rfl | constructor))) (by simp only [go_sem, hP, hn]; first | done | (simp; done) | (simp [intC]; done) | (repeat (first | rfl | constructor)))), rfl⟩
      rintro s rfl
      generalize rowF n fs c j.toNat = f at hrl hacc
      generalize accW n fs w c j.toNat = x at hacc
      generalize hst2 : stW n w = st at *
      (repeat refine TS.imp ?_)
      refine TR.imp ?_; intro K hK; simp only [go_sem, hP, hn]; (repeat refine vc ?_); refine hK _ ?_; clear K hK
      (repeat refine TS.imp ?_)
      rw [hrl]
      generalize hoo : (c * fs.length + j) * (st : Int) = o at *
      refine Tr.le (Le.keep [1, 2, 5, 6, 7, 8, 10, 20, 21, 22, 27, 28, 29, 42, 43, 44]) ?_; simp only [List.map_cons, List.map_nil, lk, Nat.reduceEqDiff, reduceIte]
      refine Tr.loop (fun r s => ∃ (k : Int), s = ⟨[(1, .d (frD fs)), (2, .ptr 2 0), (5, .own 16), (6, .d (.row [.i .i64 0] (L.map intC))), (7, .d (.i .i64 c)), (8, .d (.i .i64 (dotK n.ws o f k.toNat x))), (10, .d (.row [.i .i64 0] (f.map intC))), (20, .d (.row [.i .i64 0] (n.bs.map intC))), (21, .d (.i .i64 n.bs.length)), (22, .d (.i .i64 c)), (27, .d (frD fs)), (28, .d (.i .i64 fs.length)), (29, .d (.i .i64 j)), (42, .d (.row [.i .i64 0] (f.map intC))), (43, .d (.i .i64 st)), (44, .d (.i .i64 k))], [(2, .box 50 n.cs), (16, .row 3 [.i .i64 0] (m.map intC))]⟩ ∧ 0 ≤ k ∧ k + r = st) st ⟨_, (Le.mv (by simp only [go_sem, hP, hn]; first | done | (simp; done) | (simp [intC]; done) | (repeat (first | rfl | constructor))) (by simp only [go_sem, hP, hn]; first | done | (simp; done) | (simp [intC]; done) | (repeat (first | rfl | constructor)))), 0, rfl, by omega, by omega⟩ ?_
      rintro r s ⟨k, rfl, k0, kr⟩
      (repeat refine TS.imp ?_)
      refine TR.imp ?_; intro K hK; simp only [go_sem, hP, hn]; (repeat refine vc ?_); refine hK _ ?_; clear K hK
      (repeat refine TS.imp ?_)
      refine Tr.cond rfl (fun hb => ?_) (fun hb => ?_)
      · have hk : k < st := by simpa using hb
        clear hb
        have hLk := hLr k k0
        (repeat refine TS.imp ?_)
        refine TR.imp ?_; intro K hK; simp only [go_sem, hP, hn]; (repeat refine vc ?_); refine hK _ ?_; clear K hK
        (repeat refine TS.imp ?_)
        refine TR.imp ?_; intro K hK; simp only [hLk, go_sem, hP, hn]; (repeat refine vc ?_); refine hK _ ?_; clear K hK
        (repeat refine TS.imp ?_)
        refine TR.imp ?_; intro K hK; simp only [go_sem, hP, hn]; (repeat refine vc ?_); refine hK _ ?_; clear K hK
        (repeat refine TS.imp ?_)
        rw [w64 (x := k + 1) (by omega) (by omega)]
        refine ⟨r - 1, _, by omega, ?_, k + 1, rfl, by omega, by omega⟩
        rw [show (k + 1).toNat = k.toNat + 1 by omega]
        simp only [dotK]
        rw [Int.toNat_of_nonneg k0]
        exact (Le.mv (by simp only [go_sem, hP, hn]; first | done | (simp; done) | (simp [intC]; done) | (repeat (first | rfl | constructor))) (by simp only [go_sem, hP, hn]; first | done | (simp; done) | (simp [intC]; done) | (repeat (first | rfl | constructor))))
      · have hk : k = st := by have := of_decide_eq_false hb; omega
        subst hk
        clear hb
        rw [Int.toNat_natCast, ← hacc]
        (repeat refine TS.imp ?_)
        refine TR.imp ?_; intro K hK; simp only [go_sem, hP, hn]
        rw [hrl]
        (repeat refine vc ?_)
        refine hK _ ?_; clear K hK
        (repeat refine TS.imp ?_)
        refine TR.imp ?_; intro K hK; simp only [go_sem, hP, hn]; (repeat refine vc ?_); refine hK _ ?_; clear K hK
        (repeat refine TS.imp ?_)
        rw [w64 (x := j + 1) (by omega) (by omega)]
        refine ⟨p - 1, _, by omega, ?_, j + 1, L.drop st, rfl, by omega, by omega, hLn.symm⟩
        exact (Le.mv (by simp only [go_sem, hP, hn]; first | done | (simp; done) | (simp [intC]; done) | (repeat (first | rfl | constructor))) (by simp only [go_sem, hP, hn]; first | done | (simp; done) | (simp [intC]; done) | (repeat (first | rfl | constructor))))
    · have hj : j = fs.length := by have := of_decide_eq_false hb; omega
      subst hj
      clear hb
      rw [Int.toNat_natCast]
      rw [WOk.next] at hL
      (repeat refine TS.imp ?_)
      refine TR.imp ?_; intro K hK; simp only [go_sem, hP, hn]
      (repeat refine vc ?_)
      refine CallN_cs (Hi := [] ) (by rw [hP, hT]; exact  post_c Tm n (accW n fs w c fs.length)) rfl rfl rfl trivial (by simp only [go_sem, hP, hn]; try trivial) (by simp only [go_sem, hP, hn]; try rfl) (by simp only [inH, go_sem, hP, hn]; try simp) (by rw [hn]; decide) ?_; simp only [go_sem, hP, hn]; (repeat refine vc ?_)
      refine hK _ ?_; clear K hK
      (repeat refine TS.imp ?_)
      refine TR.imp ?_; intro K hK; simp only [go_sem, hP, hn]; (repeat refine vc ?_); refine hK _ ?_; clear K hK
      (repeat refine TS.imp ?_)
      rw [w64 (x := c + 1) (by omega) (by omega)]
      refine ⟨q - 1, _, by omega, ?_, c + 1, m.set c.toNat (n.pst (accW n fs w c fs.length)), L, rfl, by omega, by omega, by simpa using hm, ?_, hL⟩
      · exact (Le.mv (by simp only [go_sem, hP, hn]; first | done | (simp; done) | (simp [intC]; done) | (repeat (first | rfl | constructor))) (by simp only [go_sem, hP, hn]; first | done | (simp; done) | (simp [intC]; done) | (repeat (first | rfl | constructor))))
      · rw [take_set c0 (by omega), ht, show (c + 1).toNat = c.toNat + 1 by omega]
        simp only [weighedN]
        rw [Int.toNat_of_nonneg c0]
  · have hc : c = n.bs.length := by have := of_decide_eq_false hb; omega
    subst hc
    rw [Int.toNat_natCast, List.take_of_length_le (by omega)] at ht
    subst ht
    refine Tr.le (Le.keep [5]) ?_; simp only [List.map_cons, List.map_nil, lk, Nat.reduceEqDiff, reduceIte]
    refine Tr.le (Le.ren 16 2000 (by rw [hpn] <;> rfl) rfl rfl) ?_; simp only [renT, renH, renO, renS, renL, rn, go_sem, hP, hn]
    (repeat (first | (refine TR.imp ?_; intro K hK; simp only [go_sem, hP, hn]; (repeat refine vc ?_); refine hK _ ?_; clear K hK) | refine TS.imp ?_))
    simp only [RetG, go_sem]; (repeat with_reducible refine vc ?_)
    rfl
end
section
attribute [local go_sem] frD
theorem col_rd (fs : List (List Int)) (k : Int) {i : Int} (h0 : 0 ≤ i) (h1 : i < fs.length) : rd (col fs k) i = rd (fr fs i) k := by
  have hk : i.toNat < fs.length := by omega
  unfold col fr
  rw [rd, List.getD_eq_getElem?_getD, List.getElem?_map, List.getElem?_eq_getElem hk, List.getD_eq_getElem?_getD, List.getElem?_eq_getElem hk]
  rfl
theorem eachA_c {T : World → Prop} (Tm : TP T) (fs : List (List Int)) (w : Nat) (g : List Int → Int) (f : Nat) (m0 : 1 ≤ fs.length ∧ fs.length ≤ 4096) (hw : w ≤ 4096) (hlen : ∀ x ∈ fs, x.length = w)
    (hC : ∀ k : Int, 0 ≤ k → k < w → Ct Go.Proofs.Tryz.prog T f [.d (.row [.i .i64 0] ((col fs k).map intC))] true (fun r => r = .d (.i .i64 (g (col fs k))))) :
    Cg Go.Proofs.Tryz.prog T 65 [] [.d (frD fs), .fn f []] (fun r H => H = [(2000, .row 3 [.i .i64 0] ((eachL g fs w).map intC))] ∧ r = .own 2000) := by
  have hf0 : (fr fs 0).length = w := hlen _ (fr_mem (by omega) (by omega))
  refine Cg_of [2000] Tm Go.Proofs.Tryz.func65 rfl rfl Go.Proofs.Tryz.ntmps65 (by simp) rfl (rs := [.tmp 4]) rfl fun E hP hn hT hpn => ?_
  (repeat refine TS.imp ?_)
  refine TR.imp ?_; intro K hK; simp only [go_sem, hP, hn]; (repeat refine vc ?_); refine hK _ ?_; clear K hK
  (repeat refine TS.imp ?_)
  refine TR.imp ?_; intro K hK; simp only [go_sem, hP, hn]
  rw [show (fs.map frE).getD 0 [.nil] = [.row [.i .i64 0] ((fr fs 0).map intC)] from rw_fr fs 0 (by omega) (by omega)]
  simp only [go_sem, hP, hn]
  rw [hf0]
  (repeat refine vc ?_)
  refine hK _ ?_; clear K hK
  (repeat refine TS.imp ?_)
  refine TR.imp ?_; intro K hK; simp only [go_sem, hP, hn]; (repeat refine vc ?_); refine hK _ ?_; clear K hK
  (repeat refine TS.imp ?_)
  refine TR.imp ?_; intro K hK; simp only [go_sem, hP, hn]; (repeat refine vc ?_); refine hK _ ?_; clear K hK
  (repeat refine TS.imp ?_)
  refine Tr.le (Le.keep [0, 1, 5, 6, 19, 20]) ?_; simp only [List.map_cons, List.map_nil, lk, Nat.reduceEqDiff, reduceIte]
  refine Tr.loop (fun n s => ∃ (k : Int) (m xs : List Int), s = ⟨[(0, .d (frD fs)), (1, .fn f []), (5, .own 14), (6, .own 17), (19, .d (.i .i64 w)), (20, .d (.i .i64 k))], [(14, .row 3 [.i .i64 0] (m.map intC)), (17, .row 3 [.i .i64 0] (xs.map intC))]⟩ ∧ 0 ≤ k ∧ k + n = w ∧ m.length = w ∧ m.take k.toNat = eachL g fs k.toNat ∧ xs.length = fs.length) w ⟨_, (Le.mv (by simp only [go_sem, hP, hn]; first | done | (simp; done) | (simp [intC]; done) | (repeat (first | rfl | constructor))) (by simp only [go_sem, hP, hn]; first | done | (simp; done) | (simp [intC]; done) | (repeat (first | rfl | constructor)))), 0, List.replicate w 0, List.replicate fs.length 0, rfl, by omega, by omega, by simp, by simp [eachL], by simp⟩ ?_
  rintro n s ⟨k, m, xs, rfl, k0, k1, hm, ht, hx⟩
  (repeat refine TS.imp ?_)
  refine TR.imp ?_; intro K hK; simp only [go_sem, hP, hn]; (repeat refine vc ?_); refine hK _ ?_; clear K hK
  (repeat refine TS.imp ?_)
  refine Tr.cond rfl (fun hb => ?_) (fun hb => ?_)
  · have hk : k < w := by simpa using hb
    (repeat refine TS.imp ?_)
    refine TR.imp ?_; intro K hK; simp only [go_sem, hP, hn]; (repeat refine vc ?_); refine hK _ ?_; clear K hK
    (repeat refine TS.imp ?_)
    refine TR.imp ?_; intro K hK; simp only [go_sem, hP, hn]; (repeat refine vc ?_); refine hK _ ?_; clear K hK
    (repeat refine TS.imp ?_)
    refine Tr.le (Le.keep [0, 1, 5, 6, 7, 19, 20, 23, 24, 25]) ?_; simp only [List.map_cons, List.map_nil, lk, Nat.reduceEqDiff, reduceIte]
    refine Tr.loop (fun n s => ∃ (i : Int) (xs : List Int), s = ⟨[(0, .d (frD fs)), (1, .fn f []), (5, .own 14), (6, .own 17), (7, .d (.i .i64 k)), (19, .d (.i .i64 w)), (20, .d (.i .i64 k)), (23, .d (frD fs)), (24, .d (.i .i64 fs.length)), (25, .d (.i .i64 i))], [(14, .row 3 [.i .i64 0] (m.map intC)), (17, .row 3 [.i .i64 0] (xs.map intC))]⟩ ∧ 0 ≤ i ∧ i + n = fs.length ∧ xs.length = fs.length ∧ xs.take i.toNat = (col fs k).take i.toNat) fs.length ⟨_, (Le.mv (by simp only [go_sem, hP, hn]; first | done | (simp; done) | (simp [intC]; done) | (repeat (first | rfl | constructor))) (by simp only [go_sem, hP, hn]; first | done | (simp; done) | (simp [intC]; done) | (repeat (first | rfl | constructor)))), 0, xs, rfl, by omega, by omega, hx, by simp⟩ ?_
    clear hx xs
    rintro p s ⟨i, xs, rfl, i0, i1, hx, hxt⟩
    (repeat refine TS.imp ?_)
    refine TR.imp ?_; intro K hK; simp only [go_sem, hP, hn]; (repeat refine vc ?_); refine hK _ ?_; clear K hK
    (repeat refine TS.imp ?_)
    refine Tr.cond rfl (fun hc => ?_) (fun hc => ?_)
    · have hi : i < fs.length := by simpa using hc
      have hfl := hlen _ (fr_mem i0 hi)
      (repeat refine TS.imp ?_)
      refine TR.imp ?_; intro K hK; simp only [go_sem, hP, hn]
      rw [rw_fr fs i i0 hi]
      simp only [go_sem, hP, hn]
      (repeat refine vc ?_)
      refine hK _ ?_; clear K hK
      (repeat refine TS.imp ?_)
      refine TR.imp ?_; intro K hK; simp only [go_sem, hP, hn]; (repeat refine vc ?_); refine hK _ ?_; clear K hK
      (repeat refine TS.imp ?_)
      refine TR.imp ?_; intro K hK; simp only [go_sem, hP, hn]; (repeat refine vc ?_); refine hK _ ?_; clear K hK
      (repeat refine TS.imp ?_)
      rw [w64 (x := i + 1) (by omega) (by omega)]
      refine ⟨p - 1, _, by omega, ?_, i + 1, xs.set i.toNat (rd (fr fs i) k), rfl, by omega, by omega, by simpa using hx, ?_⟩
      · exact (Le.mv (by simp only [go_sem, hP, hn]; first | done | (simp; done) | (simp [intC]; done) | (repeat (first | rfl | constructor))) (by simp only [go_sem, hP, hn]; first | done | (simp; done) | (simp [intC]; done) | (repeat (first | rfl | constructor))))
      · rw [take_set i0 (by omega), hxt, take_rd i0 (by rw [col_len]; omega), col_rd fs k i0 hi]
    · have hi : i = fs.length := by have := of_decide_eq_false hc; omega
      subst hi
      rw [Int.toNat_natCast, List.take_of_length_le (by omega), List.take_of_length_le (by rw [col_len]; omega)] at hxt
      subst hxt
      (repeat refine TS.imp ?_)
      refine TR.imp ?_; intro K hK; simp only [go_sem, hP, hn]
      (repeat refine vc ?_)
      refine c1 (by rw [hP, hT]; exact hC k k0 hk) rfl rfl rfl trivial (by simp only [go_sem, hP, hn]; try trivial) (by simp only [go_sem, hP, hn]; try rfl) (by rw [hn]; decide) (by rfl) ?_; simp only [go_sem, hP, hn]; (repeat refine vc ?_)
      refine hK _ ?_; clear K hK
      (repeat refine TS.imp ?_)
      refine TR.imp ?_; intro K hK; simp only [go_sem, hP, hn]; (repeat refine vc ?_); refine hK _ ?_; clear K hK
      (repeat refine TS.imp ?_)
      rw [w64 (x := k + 1) (by omega) (by omega)]
      refine ⟨n - 1, _, by omega, ?_, k + 1, m.set k.toNat (g (col fs k)), col fs k, rfl, by omega, by omega, by simpa using hm, ?_, col_len fs k⟩
      · exact (Le.mv (by simp only [go_sem, hP, hn]; first | done | (simp; done) | (simp [intC]; done) | (repeat (first | rfl | constructor))) (by simp only [go_sem, hP, hn]; first | done | (simp; done) | (simp [intC]; done) | (repeat (first | rfl | constructor))))
      · rw [take_set k0 (by omega), ht, show (k + 1).toNat = k.toNat + 1 by omega, eachL_take, Int.toNat_of_nonneg k0]
  · have hk : k = w := by have := of_decide_eq_false hb; omega
    subst hk
    rw [Int.toNat_natCast, List.take_of_length_le (by omega)] at ht
    subst ht
    refine Tr.le (Le.keep [5]) ?_; simp only [List.map_cons, List.map_nil, lk, Nat.reduceEqDiff, reduceIte]
    refine Tr.le (Le.ren 14 2000 (by rw [hpn] <;> rfl) rfl rfl) ?_; simp only [renT, renH, renO, renS, renL, rn, go_sem, hP, hn]
    (repeat (first | (refine TR.imp ?_; intro K hK; simp only [go_sem, hP, hn]; (repeat refine vc ?_); refine hK _ ?_; clear K hK) | refine TS.imp ?_))
    simp only [RetG, go_sem]; (repeat with_reducible refine vc ?_)
end
section
attribute [local go_sem] frD OB2
theorem eachB_c {T : World → Prop} (Tm : TP T) (fs : List (List Int)) (w : Nat) (g : List Int → Int) (n : Nd) (f : Nat) (m0 : 1 ≤ fs.length ∧ fs.length ≤ 4096) (hw : w ≤ 4096) (hlen : ∀ x ∈ fs, x.length = w)
    (hC : ∀ k : Int, 0 ≤ k → k < w → Cg Go.Proofs.Tryz.prog T f (OB2 n (col fs k)) [.own 1001, .ptr 1000 0] (fun r H => H = OB2 n (col fs k) ∧ r = .d (.i .i64 (g (col fs k))))) :
    Cg Go.Proofs.Tryz.prog T 65 [(1000, .box 50 n.cs)] [.d (frD fs), .fn f [.ptr 1000 0]] (fun r H => H = [(2000, .row 3 [.i .i64 0] ((eachL g fs w).map intC)), (1000, .box 50 n.cs)] ∧ r = .own 2000) := by
  have hf0 : (fr fs 0).length = w := hlen _ (fr_mem (by omega) (by omega))
  refine Cg_of [1000, 2000] Tm Go.Proofs.Tryz.func65 rfl rfl Go.Proofs.Tryz.ntmps65 (by simp) rfl (rs := [.tmp 4]) rfl fun E hP hn hT hpn => ?_
  (repeat refine TS.imp ?_)
  refine TR.imp ?_; intro K hK; simp only [go_sem, hP, hn]; (repeat refine vc ?_); refine hK _ ?_; clear K hK
  (repeat refine TS.imp ?_)
  refine TR.imp ?_; intro K hK; simp only [go_sem, hP, hn]
  rw [show (fs.map frE).getD 0 [.nil] = [.row [.i .i64 0] ((fr fs 0).map intC)] from rw_fr fs 0 (by omega) (by omega)]
  simp only [go_sem, hP, hn]
  rw [hf0]
  (repeat refine vc ?_)
  refine hK _ ?_; clear K hK
  (repeat refine TS.imp ?_)
  refine TR.imp ?_; intro K hK; simp only [go_sem, hP, hn]; (repeat refine vc ?_); refine hK _ ?_; clear K hK
  (repeat refine TS.imp ?_)
  refine TR.imp ?_; intro K hK; simp only [go_sem, hP, hn]; (repeat refine vc ?_); refine hK _ ?_; clear K hK
  (repeat refine TS.imp ?_)
  refine Tr.le (Le.keep [0, 1, 5, 6, 19, 20]) ?_; simp only [List.map_cons, List.map_nil, lk, Nat.reduceEqDiff, reduceIte]
  refine Tr.le (Le.ren 17 1001 (by rw [hpn] <;> rfl) rfl rfl) ?_; simp only [renT, renH, renO, renS, renL, rn, go_sem, hP, hn]
  refine Tr.loop (fun q s => ∃ (k : Int) (m xs : List Int), s = ⟨[(0, .d (frD fs)), (1, .fn f [.ptr 1000 0]), (5, .own 14), (6, .own 1001), (19, .d (.i .i64 w)), (20, .d (.i .i64 k))], [(14, .row 3 [.i .i64 0] (m.map intC)), (1000, .box 50 n.cs), (1001, .row 3 [.i .i64 0] (xs.map intC))]⟩ ∧ 0 ≤ k ∧ k + q = w ∧ m.length = w ∧ m.take k.toNat = eachL g fs k.toNat ∧ xs.length = fs.length) w ⟨_, (Le.mv (by simp only [go_sem, hP, hn]; first | done | (simp; done) | (simp [intC]; done) | (repeat (first | rfl | constructor))) (by simp only [go_sem, hP, hn]; first | done | (simp; done) | (simp [intC]; done) | (repeat (first | rfl | constructor)))), 0, List.replicate w 0, List.replicate fs.length 0, rfl, by omega, by omega, by simp, by simp [eachL], by simp⟩ ?_
  rintro q s ⟨k, m, xs, rfl, k0, k1, hm, ht, hx⟩
  (repeat refine TS.imp ?_)
  refine TR.imp ?_; intro K hK; simp only [go_sem, hP, hn]; (repeat refine vc ?_); refine hK _ ?_; clear K hK
  (repeat refine TS.imp ?_)
  refine Tr.cond rfl (fun hb => ?_) (fun hb => ?_)
  · have hk : k < w := by simpa using hb
    (repeat refine TS.imp ?_)
    refine TR.imp ?_; intro K hK; simp only [go_sem, hP, hn]; (repeat refine vc ?_); refine hK _ ?_; clear K hK
    (repeat refine TS.imp ?_)
    refine TR.imp ?_; intro K hK; simp only [go_sem, hP, hn]; (repeat refine vc ?_); refine hK _ ?_; clear K hK
    (repeat refine TS.imp ?_)
    refine Tr.le (Le.keep [0, 1, 5, 6, 7, 19, 20, 23, 24, 25]) ?_; simp only [List.map_cons, List.map_nil, lk, Nat.reduceEqDiff, reduceIte]
    refine Tr.loop (fun q s => ∃ (i : Int) (xs : List Int), s = ⟨[(0, .d (frD fs)), (1, .fn f [.ptr 1000 0]), (5, .own 14), (6, .own 1001), (7, .d (.i .i64 k)), (19, .d (.i .i64 w)), (20, .d (.i .i64 k)), (23, .d (frD fs)), (24, .d (.i .i64 fs.length)), (25, .d (.i .i64 i))], [(14, .row 3 [.i .i64 0] (m.map intC)), (1000, .box 50 n.cs), (1001, .row 3 [.i .i64 0] (xs.map intC))]⟩ ∧ 0 ≤ i ∧ i + q = fs.length ∧ xs.length = fs.length ∧ xs.take i.toNat = (col fs k).take i.toNat) fs.length ⟨_, (Le.mv (by simp only [go_sem, hP, hn]; first | done | (simp; done) | (simp [intC]; done) | (repeat (first | rfl | constructor))) (by simp only [go_sem, hP, hn]; first | done | (simp; done) | (simp [intC]; done) | (repeat (first | rfl | constructor)))), 0, xs, rfl, by omega, by omega, hx, by simp⟩ ?_
    clear hx xs
    rintro p s ⟨i, xs, rfl, i0, i1, hx, hxt⟩
    (repeat refine TS.imp ?_)
    refine TR.imp ?_; intro K hK; simp only [go_sem, hP, hn]; (repeat refine vc ?_); refine hK _ ?_; clear K hK
    (repeat refine TS.imp ?_)
    refine Tr.cond rfl (fun hc => ?_) (fun hc => ?_)
    · have hi : i < fs.length := by simpa using hc
      have hfl := hlen _ (fr_mem i0 hi)
      (repeat refine TS.imp ?_)
      refine TR.imp ?_; intro K hK; simp only [go_sem, hP, hn]
      rw [rw_fr fs i i0 hi]
      simp only [go_sem, hP, hn]
      (repeat refine vc ?_)
      refine hK _ ?_; clear K hK
      (repeat refine TS.imp ?_)
      refine TR.imp ?_; intro K hK; simp only [go_sem, hP, hn]; (repeat refine vc ?_); refine hK _ ?_; clear K hK
      (repeat refine TS.imp ?_)
      refine TR.imp ?_; intro K hK; simp only [go_sem, hP, hn]; (repeat refine vc ?_); refine hK _ ?_; clear K hK
      (repeat refine TS.imp ?_)
      rw [w64 (x := i + 1) (by omega) (by omega)]
      refine ⟨p - 1, _, by omega, ?_, i + 1, xs.set i.toNat (rd (fr fs i) k), rfl, by omega, by omega, by simpa using hx, ?_⟩
      · exact (Le.mv (by simp only [go_sem, hP, hn]; first | done | (simp; done) | (simp [intC]; done) | (repeat (first | rfl | constructor))) (by simp only [go_sem, hP, hn]; first | done | (simp; done) | (simp [intC]; done) | (repeat (first | rfl | constructor))))
      · rw [take_set i0 (by omega), hxt, take_rd i0 (by rw [col_len]; omega), col_rd fs k i0 hi]
    · have hi : i = fs.length := by have := of_decide_eq_false hc; omega
      subst hi
      rw [Int.toNat_natCast, List.take_of_length_le (by omega), List.take_of_length_le (by rw [col_len]; omega)] at hxt
      subst hxt
      (repeat refine TS.imp ?_)
      refine TR.imp ?_; intro K hK; simp only [go_sem, hP, hn]
      (repeat refine vc ?_)
      refine CallN_cs (Hi := OB2 n (col fs k) ) (by rw [hP, hT]; exact  hC k k0 hk) rfl rfl rfl trivial (by simp only [go_sem, hP, hn]; try trivial) (by simp only [go_sem, hP, hn]; try rfl) (by simp only [inH, go_sem, hP, hn]; try simp) (by rw [hn]; decide) ?_; simp only [go_sem, hP, hn]; (repeat refine vc ?_)
      refine hK _ ?_; clear K hK
      (repeat refine TS.imp ?_)
      refine TR.imp ?_; intro K hK; simp only [go_sem, hP, hn]; (repeat refine vc ?_); refine hK _ ?_; clear K hK
      (repeat refine TS.imp ?_)
      rw [w64 (x := k + 1) (by omega) (by omega)]
      refine ⟨q - 1, _, by omega, ?_, k + 1, m.set k.toNat (g (col fs k)), col fs k, rfl, by omega, by omega, by simpa using hm, ?_, col_len fs k⟩
      · exact (Le.mv (by simp only [go_sem, hP, hn]; first | done | (simp; done) | (simp [intC]; done) | (repeat (first | rfl | constructor))) (by simp only [go_sem, hP, hn]; first | done | (simp; done) | (simp [intC]; done) | (repeat (first | rfl | constructor))))
      · rw [take_set k0 (by omega), ht, show (k + 1).toNat = k.toNat + 1 by omega, eachL_take, Int.toNat_of_nonneg k0]
  · have hk : k = w := by have := of_decide_eq_false hb; omega
    subst hk
    rw [Int.toNat_natCast, List.take_of_length_le (by omega)] at ht
    subst ht
    refine Tr.le (Le.keep [5]) ?_; simp only [List.map_cons, List.map_nil, lk, Nat.reduceEqDiff, reduceIte]
    refine Tr.le (Le.ren 14 2000 (by rw [hpn] <;> rfl) rfl rfl) ?_; simp only [renT, renH, renO, renS, renL, rn, go_sem, hP, hn]
    (repeat (first | (refine TR.imp ?_; intro K hK; simp only [go_sem, hP, hn]; (repeat refine vc ?_); refine hK _ ?_; clear K hK) | refine TS.imp ?_))
    simp only [RetG, go_sem]; (repeat with_reducible refine vc ?_)
end
section
attribute [local go_sem] frD
end
section
attribute [local go_sem] frD
end
section
attribute [local go_sem] prmT
/-- what a node weighs -/
def costV (n : Nd) (w : Int) : Int := if (rWeighs n.k && n.chk [w] == 0) = true then n.ws.length else 0
def macF (ns : List Nd) (W : List Int) (s i : Int) : Int := wrap64 (s + costV (nd ns (i - 1)) (rd W (rd (nd ns (i - 1)).inn 0)))
end
section
attribute [local go_sem] prmT
/-- what a node asks of one of its inputs -/
def roomV (n : Nd) (rate ahead : Int) : Int := if (n.k == 7 || n.k == 8) = true then (if rate = 0 then 1 else wrap64 (wrap64 (Int.tdiv (wrap64 (wrap64 (ahead + rate) - 1)) rate) + 1)) else n.span
/-- what a node asks, of input j -/
def rmJ (q : Nd) (r top : Int) (hi : List Int) (o : List Int) (j : Int) : List Int := o.set j.toNat (mx (rd o j) (roomV q r (wrap64 (top - rd hi j))))
def rmF (ns : List Nd) (R hi : List Int) (o : List Int) (i : Int) : List Int := (nd ns (i - 1)).inn.foldl (rmJ (nd ns (i - 1)) (rd R i) (mostL ((nd ns (i - 1)).inn.map (rd hi))) hi) o
end
section
theorem Made16_c {T : World → Prop} (Tm : TP T) (l0 : List Int) : Cg Go.Proofs.Tryz.prog T 15 [] [.d (.row [.i .i64 0] (l0.map intC))] PMade := by
  refine Cg_of [2000] Tm Go.Proofs.Tryz.func15 rfl rfl Go.Proofs.Tryz.ntmps15 (by simp) rfl (rs := [.cell 2 28]) rfl fun E hP hn hT hpn => ?_
  (repeat refine TS.imp ?_)
  refine TR.imp ?_; intro K hK; simp only [go_sem, hP, hn]; (repeat refine vc ?_); refine hK _ ?_; clear K hK
  (repeat refine TS.imp ?_)
  refine TR.imp ?_; intro K hK; simp only [go_sem, hP, hn]
  (repeat refine vc ?_)
  refine CallN_cx (Hi := []) (by rw [hP, hT]; exact Made15_c Tm l0 ) rfl rfl rfl trivial (by simp only [go_sem, hP, hn]; try trivial) (by simp only [go_sem, hP, hn]; try rfl) trivial (by rw [hn]; decide) (fun r Ho hr => ?_); obtain  ⟨wd, lo, hi, out, ns, rfl, rfl, hG⟩ := hr; refine ⟨fun k _ => hpn k rfl, ?_⟩; simp only [cgS, newK, touK, go_sem, hP, hn]; (repeat refine vc ?_)
  refine hK _ ?_; clear K hK
  (repeat (first | (refine TR.imp ?_; intro K hK; simp only [go_sem, hP, hn]; (repeat refine vc ?_); refine hK _ ?_; clear K hK) | refine TS.imp ?_))
  simp only [RetG, go_sem]; (repeat with_reducible refine vc ?_)
  exact ⟨wd, lo, hi, out, ns, rfl, rfl, hG⟩
attribute [local simp] ring
end
section
def nP : Nd := ⟨3, [0], 0, 3, 2, 1, 0, 0, [], [], 0, 0, 0, 0, 0⟩
def nC : Nd := ⟨1, [1], 1, 2, 1, 1, 1, 0, [1, 1], [0], 0, 0, 0, 0, 0⟩
attribute [local go_sem] nP nC
end
end Go.Proofs.YtgomeljgbjgbkaaGreatDoor.Aw
namespace Go.Proofs.YtgomeljgbjgbkaaGreatDoor.Aw
open Go.RowKit
set_option maxRecDepth 100000
/-! a frame is ready just as soon as the last frame is there that it hangs on -/
def p3 : Nat → Int
  | 0 => 1
  | r + 1 => 3 * p3 r
theorem inn12 {N : Int} {n : Nd} {W R : Int → Int} {rk : Int → Nat} {i : Int} (h : NodeG N n W R rk i) : (∃ a, n.inn = [a]) ∨ ∃ a b, n.inn = [a, b] := by
  have h1 := h.l1
  have h2 := h.l2
  match hq : n.inn, h1, h2 with
  | [a], _, _ => exact .inl ⟨a, rfl⟩
  | [a, b], _, _ => exact .inr ⟨a, b, rfl⟩
section
variable {wd : Int} {ns : List Nd} {W R : Int → Int} {rk : Int → Nat} (h : GG wd ns W R rk)
include h
end
theorem fewest1 {a : Int} (h : 0 ≤ a) : fewestV [a] = a := by
  unfold fewestV
  simp only [List.foldl_cons, List.foldl_nil, mn, mx]
  split <;> (try split) <;> omega
theorem fewest2 {a b : Int} (h : 0 ≤ a) (h2 : 0 ≤ b) : fewestV [a, b] = mn a b := by
  unfold fewestV
  simp only [List.foldl_cons, List.foldl_nil, mn, mx]
  repeat' split
  all_goals omega
def wantV (N r hi : Int) : Int := if 0 < r ∧ hi ≤ N - 1 then (N - 1 - hi) / r + 1 else 0
section
variable {wd : Int} {ns : List Nd} {W R : Int → Int} {rk : Int → Nat} (h : GG wd ns W R rk) {R2 : List Int} (hR : ∀ x : Int, 0 ≤ x → x ≤ ns.length → rd R2 x = R x) {N : Int} (hN : 0 ≤ N ∧ N ≤ 1099511627776)
include h hR
omit hR in
theorem GG.cnt_eq (g : Nd → List Int → Int) : rd (cntL ns g N) 0 = N ∧ ∀ i : Int, 1 ≤ i → i ≤ ns.length → rd (cntL ns g N) i = g (nd ns (i - 1)) ((nd ns (i - 1)).inn.map (rd (cntL ns g N))) := by
  obtain ⟨a, b⟩ := h.ordL (d := (0 : Int)) (f := cntF ns g) cntF_loc (N :: List.replicate ns.length 0) (by simp)
  exact ⟨a, fun i i1 i2 => b i i1 i2⟩
include hN
end
end Go.Proofs.YtgomeljgbjgbkaaGreatDoor.Aw
namespace Go.Proofs.YtgomeljgbjgbkaaGreatDoor.Aw
open Go.RowKit
attribute [local go_sem_proc] Nat.reduceAdd Nat.reduceMul Nat.reduceSub Nat.reduceEqDiff Nat.reduceLeDiff Nat.reduceBEq Nat.reduceBNe Int.reduceToNat reduceIte reduceCtorEq
attribute [local go_sem] initT SQ so pe he ev lk constS stp stc gdS nth pickS pickD loadS cellsAt okAt fieldAddrS fieldS partS indexAddrS indexS extractS binS binD binI isShift unS convS lenS sliceS bndI bndC mmS mm2 mmD builtS fillS okCells cellsS splS solid aliveL alive okS boxS allocS makeS bsliceS elemsOf dcells stF frzW storeS frzA frzK oneS1 srcR rwsOf hdO appR frz frzT frzS frzL frzO frzH appS srcS appVC killS killT killC killH killO k1 k2 S.has S.hasL St.add St.upd dropH lh cond_or cond_and rw_intC rw_intC0 rw_set rw_app rw_apps rw_rep rw_slice wr64 cond_true cond_false true_and and_true List.map_cons List.map_nil List.length_cons List.length_nil List.drop_succ_cons List.drop_zero List.take_succ_cons List.take_zero List.nil_append List.cons_append List.getD_cons_zero List.getD_cons_succ List.headD_cons List.length_map ite_true ite_false if_true if_false Bool.false_eq_true and_self forall_const List.drop_nil List.take_nil List.append_nil Option.map_some Option.map_none List.mapM_cons List.mapM_nil Option.bind_eq_bind Option.bind_some Option.pure_def knows resL resV oneS freshS freshL cv cvL stpL stcL or_true true_or or_false false_or List.all_cons List.all_nil Bool.and_self Bool.or_self Bool.true_and Bool.and_true Bool.or_false Bool.false_or implies_true flatD allm_nil allm_cons List.getElem?_cons_zero List.getElem?_cons_succ Nd.cs Nd.ds ml mln Option.isSome_some Option.isSome_none eq_self Int.toNat_natCast AP ldOk isLd inL subL crt chg chgS chgP idxs aliveW Option.toList_some Option.toList_none Option.toList RetG Nd.win frzA offK keepH aliveK nkH closedH closedO keysK inH St.upd rowO List.contains_cons List.contains_nil Bool.or_self Option.isNone_none Option.isNone_some Bool.not_true Bool.not_false gcs rowN e0N frzC
attribute [local go_sem] sz2 ag2 ok2 kk2 iu2 zc2 zd2 by2 sz3 ag3 ok3 kk3 iu3 zc3 zd3 by3 sz4 ag4 ok4 bo4 zc4 zd4 by4 sz5 ag5 ok5 kk5 iu5 zc5 zd5 by5 sz9 ag9 ok9 st9 zc9 zd9 by9 sz12 ag12 ok12 kk12 iu12 zc12 zd12 by12 sz15 ag15 ok15 zc15 by15 sz16 ag16 ok16 zc16 by16 sz21 ag21 ok21 kk21 iu21 zc21 zd21 by21 sz22 ag22 ok22 sl22 zc22 zd22 by22 sz23 ag23 ok23 zc23 zd23 pl23 by23 fl23_0 fl23_1 fl23_2 sz24 ag24 ok24 zc24 zd24 pl24 by24 fl24_0 fl24_1 fl24_2 sz26 ag26 ok26 sl26 zc26 zd26 by26 sz27 ag27 ok27 zc27 zd27 pl27 by27 fl27_0 fl27_1 fl27_2 fl27_3 fl27_4 sz28 ag28 ok28 zc28 zd28 pl28 by28 fl28_0 fl28_1 fl28_2 fl28_3 fl28_4 sz29 ag29 ok29 sl29 zc29 zd29 by29 sz32 ag32 ok32 sl32 zc32 zd32 by32 sz33 ag33 ok33 kk33 iu33 zc33 zd33 by33 sz36 ag36 ok36 zc36 zd36 pl36 by36 fl36_0 fl36_1 sz37 ag37 ok37 zc37 zd37 pl37 by37 fl37_0 fl37_1 sz49 ag49 ok49 zc49 zd49 pl49 by49 fl49_0 fl49_1 fl49_2 fl49_3 fl49_4 fl49_5 fl49_6 fl49_7 fl49_8 fl49_9 fl49_10 fl49_11 fl49_12 fl49_13 fl49_14 sz50 ag50 ok50 zc50 zd50 pl50 by50 fl50_0 fl50_1 fl50_2 fl50_3 fl50_4 fl50_5 fl50_6 fl50_7 fl50_8 fl50_9 fl50_10 fl50_11 fl50_12 fl50_13 fl50_14 sz53 ag53 ok53 zc53 by53 sz55 ag55 ok55 zc55 zd55 pl55 by55 fl55_0 fl55_1 fl55_2 sz56 ag56 ok56 zc56 zd56 pl56 by56 fl56_0 fl56_1 fl56_2 sz58 ag58 ok58 zc58 zd58 pl58 by58 fl58_0 fl58_1 fl58_2 fl58_3 sz59 ag59 ok59 zc59 zd59 pl59 by59 fl59_0 fl59_1 fl59_2 fl59_3 sz66 ag66 ok66 zc66 zd66 pl66 by66 fl66_0 fl66_1 fl66_2 sz67 ag67 ok67 zc67 zd67 pl67 by67 fl67_0 fl67_1 fl67_2 sz79 ag79 ok79 zc79 by79 sz80 ag80 ok80 zc80 zd80 pl80 by80 fl80_0 fl80_1 sz81 ag81 ok81 zc81 zd81 pl81 by81 fl81_0 fl81_1 sz105 ag105 ok105 sl105 ar105 zc105 zd105 pl105 by105 sz108 ag108 ok108 sl108 ar108 zc108 zd108 pl108 by108 sz109 ag109 ok109 zc109 by109 sz115 ag115 ok115 zc115 zd115 pl115 by115 fl115_0 fl115_1 sz116 ag116 ok116 zc116 zd116 pl116 by116 fl116_0 fl116_1 sz120 ag120 ok120 zc120 zd120 pl120 by120 fl120_0 fl120_1 sz121 ag121 ok121 sl121 ar121 zc121 zd121 pl121 by121 sz124 ag124 ok124 kk124 iu124 zc124 zd124 by124 sz133 ag133 ok133 kk133 iu133 zc133 zd133 by133 sz137 ag137 ok137 zc137 by137
section
attribute [local go_sem] PMade rtup
/-- what is known of a made graph -/
structure GF (wd lo hi out : Int) (ns : List Nd) (W R : Int → Int) (rk : Int → Nat) (W2 R2 : List Int) : Prop where
  gg : GG wd ns W R rk
  n0 : 1 ≤ ns.length ∧ ns.length ≤ 12
  look : lookG wd lo hi out ns = (0, order ns, W2, R2)
  wl : W2.length = ns.length + 1
  rl : R2.length = ns.length + 1
  eq : ∀ x : Int, 0 ≤ x → x ≤ ns.length → rd W2 x = W x ∧ rd R2 x = R x
  inn : ∀ n ∈ ns, n.inn.length ≤ 4096 ∧ n.ws.length ≤ 65536 ∧ n.bs.length ≤ 65536
theorem GM.gf {wd lo hi out : Int} {ns : List Nd} (h : GM wd lo hi out ns) : ∃ W R rk W2 R2, GF wd lo hi out ns W R rk W2 R2 := by
  obtain ⟨W, R, rk, hg⟩ := h.gg
  obtain ⟨W2, R2, h1, h2, h3, h4⟩ := hg.lookG h.may
  have := h.n0
  exact ⟨W, R, rk, W2, R2, hg, by omega, h1, h2, h3, h4, fun n hn => by have := h.inn n hn; omega⟩
section
variable {wd lo hi out : Int} {ns : List Nd} {W R : Int → Int} {rk : Int → Nat} {W2 R2 : List Int} (h : GF wd lo hi out ns W R rk W2 R2)
include h
theorem GF.ord : ∀ i ∈ order ns, 1 ≤ i ∧ i ≤ ns.length := ordR_range (o := []) (by simp)
theorem GF.ro : RO ns (order ns) := ⟨fun i hi => by
  have hr := h.ord i hi
  have hn := (h.gg.node i hr.1 hr.2).1
  exact ⟨hr, fun j hj => ⟨(hn.inn j hj).1, (hn.inn j hj).2.1⟩, hn.l1⟩, by rw [h.gg.order_len]; exact Nat.le_refl _⟩
theorem GF.co : CO ns (order ns) := ⟨fun i hi => by
  have hr := h.ord i hi
  have hn := (h.gg.node i hr.1 hr.2).1
  exact ⟨hr, fun j hj => ⟨(hn.inn j hj).1, (hn.inn j hj).2.1⟩, hn.st0⟩, by rw [h.gg.order_len]; have := h.n0; omega⟩
theorem GF.rank (i : Int) (h0 : 0 ≤ i) (h1 : i ≤ ns.length) : rk i ≤ 12 := by
  have := h.n0
  rcases Int.lt_or_le 0 i with i2 | i2
  · have := (h.gg.node i i2 h1).2; omega
  · have : i = 0 := by omega
    subst this; rw [h.gg.k0]; omega
end
end
section
attribute [local go_sem] PMade rtup
/-! a graph's order, and its nodes by their numbers -/
def idxL (n : Nat) : List Int := (List.range n).map fun k => ((k : Nat) : Int) + 1
section
variable {wd lo hi out : Int} {ns : List Nd} {W R : Int → Int} {rk : Int → Nat} {W2 R2 : List Int} (h : GF wd lo hi out ns W R rk W2 R2)
include h
end
/-! sums of costs -/
def addF (ns : List Nd) (W : List Int) (s i : Int) : Int := s + costV (nd ns (i - 1)) (rd W (rd (nd ns (i - 1)).inn 0))
/-! a Best behind Out -/
def nBe (out : Int) : Nd := ⟨11, [out], 0, 0, 0, 0, 0, 0, [], [], 0, 0, 0, 0, 0⟩
end
/-! rooms, and what is ahead -/
section
variable {q : Nd} {r top : Int} {hi : List Int} {N : Nat}
end
/-- the rooms of a graph -/
def rmL (ns : List Nd) (R : List Int) : List Int := (order ns).foldl (rmF ns R (hiL ns R)) (List.replicate (ns.length + 1) 1)
section
variable {wd lo hi out : Int} {ns : List Nd} {W R : Int → Int} {rk : Int → Nat} {W2 R2 : List Int} (h : GF wd lo hi out ns W R rk W2 R2)
include h
end
section
attribute [local go_sem] PMade rtup

end
/-- likewise, where a table of the program is read: what it returns lies in blocks of its own -/

def an : List S → List S → Prop
  | [], [] => True
  | c :: cs, c' :: cs' => (c = c' ∨ c' = .any) ∧ an cs cs'
  | _, _ => False
def wtup (q : Int × List Int × List Int × List Int) : S := .agg [.any, .d (.row [.i .i64 0] (q.2.2.1.map intC)), .d (.row [.i .i64 0] (q.2.2.2.map intC)), .d (.i .i64 q.1)]
section
attribute [local go_sem] prmT
/-- what a slot says to somebody who reads boxes, too -/
def asD : List S → Option (List D)
  | [] => some []
  | .d x :: r => match asD r with
    | some l => some (x :: l)
    | none => none
  | _ :: _ => none
def cv2 (H : Hp) : S → S
  | .ptr h o => match lh H h with
    | some (.box _ cs) => match asD (cvL H cs) with
      | some ds => .fptr (ds.drop o)
      | none => .any
    | _ => .any
  | x => cv H x
def cv2L (H : Hp) : List S → List S
  | [] => []
  | c :: cs => cv2 H c :: cv2L H cs
/-- the document's room -/
def roomR (n : Nd) (hi : List Int) (j rate : Int) : Int := if rWin n.k = true then n.rSpan else if (!rMany n.k || rate == 0) = true then 1 else wrap64 (wrap64 (Int.tdiv (wrap64 (wrap64 (wrap64 (mostL (n.inn.map (rd hi)) - rd hi (rd n.inn j)) + rate) - 1)) rate) + 1)
end
section
attribute [local go_sem] frD
/-! all frames of a node, by definition -/
def atV (fs : List (List Int)) (t : Int) (w : Nat) : List Int := if t < 0 ∨ fs.length ≤ t then List.replicate w 0 else fr fs t
theorem at_c {T : World → Prop} (Tm : TP T) (fs : List (List Int)) (t : Int) (w : Nat) (hf : fs.length ≤ 65536) (hw : w ≤ 65536) : Cg Go.Proofs.Tryz.prog T 44 [] [.d (frD fs), .d (.i .i64 t), .d (.i .i64 w)] (fun r H => H = [] ∧ r = .d (.row [.i .i64 0] ((atV fs t w).map intC))) := by
  refine Cg_of [] Tm Go.Proofs.Tryz.func44 rfl rfl Go.Proofs.Tryz.ntmps44 (by simp) rfl (rs := [.tmp 6]) rfl fun E hP hn hT hpn => ?_
  (repeat refine TS.imp ?_)
  refine TR.imp ?_; intro K hK; simp only [go_sem, hP, hn]; (repeat refine vc ?_); refine hK _ ?_; clear K hK
  (repeat refine TS.imp ?_)
  refine TR.imp ?_; intro K hK; simp only [go_sem, hP, hn]; (repeat refine vc ?_); refine hK _ ?_; clear K hK
  (repeat refine TS.imp ?_)
  refine Tr.cond rfl (fun hb => ?_) (fun hb => ?_)
  · have h : t < 0 ∨ fs.length ≤ t := by simpa using hb
    unfold atV
    rw [if_pos h]
    (repeat refine TS.imp ?_)
    refine TR.imp ?_; intro K hK; simp only [go_sem, hP, hn]; (repeat refine vc ?_); refine hK _ ?_; clear K hK
    (repeat refine TS.imp ?_)
    simp only [RetG, go_sem]; (repeat with_reducible refine vc ?_)
  · have h : ¬ (t < 0 ∨ fs.length ≤ t) := by simpa using hb
    unfold atV
    rw [if_neg h]
    have hr := rw_fr fs t (by omega) (by omega)
    clear hb
    have t0 : 0 ≤ t := by omega
    have t1 : t < fs.length := by omega
    (repeat refine TS.imp ?_)
    refine TR.imp ?_; intro K hK; simp only [hr, go_sem, hP, hn]; (repeat refine vc ?_); refine hK _ ?_; clear K hK
    (repeat refine TS.imp ?_)
    simp only [RetG, go_sem]; (repeat with_reducible refine vc ?_)
def gapV (n : Nd) : Int := if (n.k == 12) = true then 1 else n.gap
theorem gap_c {T : World → Prop} (Tm : TP T) (n : Nd) : Ct Go.Proofs.Tryz.prog T 46 [.agg n.cs] true (fun r => r = .d (.i .i64 (gapV n))) := by
  refine Ct_of Tm Go.Proofs.Tryz.func46 rfl rfl Go.Proofs.Tryz.ntmps46 (by simp) (rs := [.tmp 2]) rfl fun E hP hn hT => ?_
  (repeat refine TS.imp ?_)
  refine TR.imp ?_; intro K hK; simp only [go_sem, hP, hn]; (repeat refine vc ?_); refine hK _ ?_; clear K hK
  (repeat refine TS.imp ?_)
  refine TR.imp ?_; intro K hK; simp only [go_sem, hP, hn]; (repeat refine vc ?_); refine hK _ ?_; clear K hK
  (repeat refine TS.imp ?_)
  unfold gapV
  refine Tr.cond rfl (fun hb => ?_) (fun hb => ?_)
  · rw [if_pos hb]
    (repeat (first | (refine TR.imp ?_; intro K hK; simp only [go_sem, hP, hn]; (repeat refine vc ?_); refine hK _ ?_; clear K hK) | refine TS.imp ?_))
    simp only [RetQ, go_sem]
  · rw [if_neg (by rw [hb]; decide)]
    (repeat (first | (refine TR.imp ?_; intro K hK; simp only [go_sem, hP, hn]; (repeat refine vc ?_); refine hK _ ?_; clear K hK) | refine TS.imp ?_))
    simp only [RetQ, go_sem]
def insE (s : List (List Int)) : List D := [frD s]
def insD (ins : List (List (List Int))) : D := .row [.nil] (ins.map insE)
def inF (ins : List (List (List Int))) (i : Int) : List (List Int) := ins.getD i.toNat []
theorem rw_ins (ins : List (List (List Int))) (i : Int) (h0 : 0 ≤ i) (h1 : i < ins.length) : (ins.map insE).getD i.toNat [.nil] = [frD (inF ins i)] := by
  have h : i.toNat < ins.length := by omega
  unfold inF
  simp [List.getD, h, insE]
attribute [local go_sem] insD
theorem inF_mem {ins : List (List (List Int))} {i : Int} (h0 : 0 ≤ i) (h1 : i < ins.length) : inF ins i ∈ ins := by
  have h : i.toNat < ins.length := by omega
  unfold inF
  simp [List.getD, h]
/-- the frames that a node's frame i is told from -/
def inpF (n : Nd) (ins : List (List (List Int))) (w : Nat) (i : Int) : List (List Int) :=
  if rWin n.k = true then (List.range n.size.toNat).map fun j => atV (inF ins 0) (wrap64 (n.rFirst i + wrap64 ((j : Nat) * gapV n))) w
  else if n.k = 5 then inF ins 0 else ins.map fun s => fr s i
theorem Node_c {T : World → Prop} (Tm : TP T) (n : Nd) (ins : List (List (List Int))) (w C : Nat) (out : Int → List Int) (hi0 : 1 ≤ ins.length ∧ ins.length ≤ 4096) (hil : ∀ s ∈ ins, s.length ≤ 65536) (hw : w ≤ 65536) (hC : n.rCount (ins.map fun s => (s.length : Int)) = C) (hC1 : C ≤ 65536)
    (hst : rWin n.k = true → 1 ≤ n.rStp) (hsz : n.size ≤ 4096) (hix : rWin n.k = false → n.k ≠ 5 → ∀ s ∈ ins, C ≤ s.length)
    (hF : ∀ i : Int, 0 ≤ i → i < C → Cg Go.Proofs.Tryz.prog T 47 [] [.agg n.cs, .d (frD (inpF n ins w i))] (fun r H => H = [] ∧ r = .d (.row [.i .i64 0] ((out i).map intC)))) :
    Cg Go.Proofs.Tryz.prog T 27 [] [.agg n.cs, .d (insD ins), .d (.i .i64 w)] (fun r H => H = [] ∧ r = .d (frD ((List.range C).map fun i => out (i : Nat)))) := by
  refine Cg_of [] Tm Go.Proofs.Tryz.func27 rfl rfl Go.Proofs.Tryz.ntmps27 (by simp) rfl (rs := [.tmp 6]) rfl fun E hP hn hT hpn => ?_
  (repeat refine TS.imp ?_)
  refine TR.imp ?_; intro K hK; simp only [go_sem, hP, hn]; (repeat refine vc ?_); refine hK _ ?_; clear K hK
  (repeat refine TS.imp ?_)
  refine TR.imp ?_; intro K hK; simp only [go_sem, hP, hn]; (repeat refine vc ?_); refine hK _ ?_; clear K hK
  (repeat refine TS.imp ?_)
  refine TR.imp ?_; intro K hK; simp only [go_sem, hP, hn]; (repeat refine vc ?_); refine hK _ ?_; clear K hK
  (repeat refine TS.imp ?_)
  refine Tr.le (Le.nilslot 3007 7 3 [.i .i64 0] rfl (by rw [hpn] <;> rfl) rfl rfl) ?_
  simp only [go_sem, hP, hn]
  refine Tr.loop (fun q s => ∃ j : Int, s = ⟨[(1, .d (insD ins)), (2, .d (.i .i64 w)), (3, .ptr 3 0), (7, .own 3007), (8, .d (.i .i64 j))], [(3, .box 50 n.cs), (3007, .row 3 [.i .i64 0] (((ins.take j.toNat).map fun s => (s.length : Int)).map intC))]⟩ ∧ 0 ≤ j ∧ j + q = ins.length) ins.length ⟨_, ?_, 0, rfl, by omega, by omega⟩ ?_
  · exact (Le.mv (by simp only [go_sem, hP, hn]; first | done | (simp; done) | (simp [intC]; done) | (repeat (first | rfl | constructor))) (by simp only [go_sem, hP, hn]; first | done | (simp; done) | (simp [intC]; done) | (repeat (first | rfl | constructor))))
  rintro q s ⟨j, rfl, j0, jq⟩
  have htl : (ins.take j.toNat).length = j.toNat := by simp; omega
  (repeat refine TS.imp ?_)
  refine TR.imp ?_; intro K hK; simp only [go_sem, hP, hn]; (repeat refine vc ?_); refine hK _ ?_; clear K hK
  (repeat refine TS.imp ?_)
  refine Tr.cond rfl (fun hb => ?_) (fun hb => ?_)
  · have hj : j < ins.length := by simpa using hb
    clear hb
    have hri := rw_ins ins j j0 hj
    have w1 : wrap64 (j + 1) = j + 1 := w64 (by omega) (by omega)
    (repeat refine TS.imp ?_)
    refine TR.imp ?_; intro K hK; simp only [hri, go_sem, hP, hn]
    (repeat refine vc ?_)
    refine hK _ ?_; clear K hK
    (repeat refine TS.imp ?_)
    refine TR.imp ?_; intro K hK; simp only [w1, go_sem, hP, hn]; (repeat refine vc ?_); refine hK _ ?_; clear K hK
    (repeat refine TS.imp ?_)
    refine ⟨q - 1, _, by omega, ?_, j + 1, rfl, by omega, by omega⟩
    have htk : ins.take (j + 1).toNat = ins.take j.toNat ++ [inF ins j] := by
      rw [show (j + 1).toNat = j.toNat + 1 by omega, List.take_succ_eq_append_getElem (by omega)]
      unfold inF
      simp [List.getD, show j.toNat < ins.length by omega]
    rw [htk]
    refine Le.trans (b := ⟨[(1, .d (insD ins)), (2, .d (.i .i64 w)), (3, .ptr 3 0), (7, .own 28), (8, .d (.i .i64 (j + 1)))], [(3, .box 50 n.cs), (28, .row 3 [.i .i64 0] (((ins.take j.toNat ++ [inF ins j]).map fun s => (s.length : Int)).map intC))]⟩) ?_ ?_
    · simp only [List.map_append, List.map_cons, List.map_nil]
      exact (Le.mv (by simp only [go_sem, hP, hn]; first | done | (simp; done) | (simp [intC]; done) | (repeat (first | rfl | constructor))) (by simp only [go_sem, hP, hn]; first | done | (simp; done) | (simp [intC]; done) | (repeat (first | rfl | constructor))))
    refine Le.trans (Le.ren 28 3007 (by rw [hpn] <;> rfl) rfl rfl) ?_; simp only [renT, renH, renO, renS, renL, rn, go_sem, hP, hn]
    exact Le.refl _
  have hj : j = ins.length := by have := of_decide_eq_false hb; omega
  subst hj
  clear hb
  rw [Int.toNat_natCast, List.take_length]
  refine Tr.le (Le.freeze 3007) ?_
  simp only [go_sem, hP, hn]
  (repeat refine TS.imp ?_)
  refine TR.imp ?_; intro K hK; simp only [go_sem, hP, hn]; (repeat refine vc ?_); refine c1 (by rw [hP, hT]; exact Windows_r Tm n.k) rfl rfl rfl trivial (by simp only [go_sem, hP, hn]; try trivial) (by simp only [go_sem, hP, hn]; try rfl) (by rw [hn]; decide) (by rfl) ?_; simp only [go_sem, hP, hn]; (repeat refine vc ?_); refine hK _ ?_; clear K hK
  (repeat refine TS.imp ?_)
  refine TR.imp ?_; intro K hK; simp only [go_sem, hP, hn]; (repeat refine vc ?_); refine hK _ ?_; clear K hK
  (repeat refine TS.imp ?_)
  refine TR.imp ?_; intro K hK; simp only [go_sem, hP, hn]; (repeat refine vc ?_); refine hK _ ?_; clear K hK
  (repeat refine TS.imp ?_)
  refine Tr.le (Le.nilslot 3010 10 22 [.nil] rfl (by rw [hpn] <;> rfl) rfl rfl) ?_
  simp only [go_sem, hP, hn]
  refine Tr.loop (fun q s => ∃ i : Int, s = ⟨[(1, .d (insD ins)), (2, .d (.i .i64 w)), (3, .ptr 3 0), (7, .d (.row [.i .i64 0] ((ins.map fun s => (s.length : Int)).map intC))), (9, .d (.b (rWin n.k))), (10, .own 3010), (11, .d (.i .i64 i))], [(3, .box 50 n.cs), (3010, .row 22 [.nil] (((List.range i.toNat).map fun k => out (k : Nat)).map frE))]⟩ ∧ 0 ≤ i ∧ i + q = C) C ⟨_, ?_, 0, rfl, by omega, by omega⟩ ?_
  · exact (Le.mv (by simp only [go_sem, hP, hn]; first | done | (simp; done) | (simp [intC]; done) | (repeat (first | rfl | constructor))) (by simp only [go_sem, hP, hn]; first | done | (simp; done) | (simp [intC]; done) | (repeat (first | rfl | constructor))))
  rintro q s ⟨i, rfl, i0, iq⟩
  have hlens : (ins.map fun s => (s.length : Int)).length ≤ 65536 := by rw [List.length_map]; omega
  (repeat refine TS.imp ?_)
  refine TR.imp ?_; intro K hK; simp only [go_sem, hP, hn]; (repeat refine vc ?_); refine c1 (by rw [hP, hT]; exact Count_r Tm n (ins.map fun s => (s.length : Int)) hlens hst) rfl rfl rfl trivial (by simp only [go_sem, hP, hn]; try trivial) (by simp only [go_sem, hP, hn]; try rfl) (by rw [hn]; decide) (by rfl) ?_; simp only [go_sem, hP, hn]; (repeat refine vc ?_); refine hK _ ?_; clear K hK
  rw [hC]
  (repeat refine TS.imp ?_)
  refine Tr.cond rfl (fun hb => ?_) (fun hb => ?_)
  · have hi : i < C := of_decide_eq_true hb
    clear hb
    have w1 : wrap64 (i + 1) = i + 1 := w64 (by omega) (by omega)
    have hf := hF i i0 hi
    (repeat refine TS.imp ?_)
    refine TR.imp ?_; intro K hK; simp only [go_sem, hP, hn]; (repeat refine vc ?_); refine hK _ ?_; clear K hK
    (repeat refine TS.imp ?_)
    refine TR.imp ?_; intro K hK; simp only [go_sem, hP, hn]; (repeat refine vc ?_); refine hK _ ?_; clear K hK
    (repeat refine TS.imp ?_)
    refine Tr.meet (fun s => s = ⟨[(1, .d (insD ins)), (2, .d (.i .i64 w)), (3, .ptr 3 0), (7, .d (.row [.i .i64 0] ((ins.map fun s => (s.length : Int)).map intC))), (9, .d (.b (rWin n.k))), (10, .own 3010), (11, .d (.i .i64 i)), (12, .d (frD (inpF n ins w i)))], [(3, .box 50 n.cs), (3010, .row 22 [.nil] (((List.range i.toNat).map fun k => out (k : Nat)).map frE))]⟩) ?_ ?_
    rotate_left
    · refine Tr.cond rfl (fun hwin => ?_) (fun hwin => ?_)
      · have hinp : inpF n ins w i = (List.range n.size.toNat).map fun j => atV (inF ins 0) (wrap64 (n.rFirst i + wrap64 ((j : Nat) * gapV n))) w := if_pos hwin
        have hri := rw_ins ins 0 (by omega) (by omega)
        have h0l : (inF ins 0).length ≤ 65536 := hil _ (inF_mem (by omega) (by omega))
        rw [hinp]
        (repeat refine TS.imp ?_)
        refine TR.imp ?_; intro K hK; simp only [go_sem, hP, hn]; (repeat refine vc ?_); refine hK _ ?_; clear K hK
        (repeat refine TS.imp ?_)
        refine Tr.le (Le.nilslot 3012 12 22 [.nil] rfl (by rw [hpn] <;> rfl) rfl rfl) ?_
        simp only [go_sem, hP, hn]
        refine Tr.loop (fun p s => ∃ (j : Int) (F : List (List Int)), s = ⟨[(1, .d (insD ins)), (2, .d (.i .i64 w)), (3, .ptr 3 0), (7, .d (.row [.i .i64 0] ((ins.map fun s => (s.length : Int)).map intC))), (9, .d (.b (rWin n.k))), (10, .own 3010), (11, .d (.i .i64 i)), (12, .own 3012), (13, .d (.i .i64 j))], [(3, .box 50 n.cs), (3010, .row 22 [.nil] (((List.range i.toNat).map fun k => out (k : Nat)).map frE)), (3012, .row 22 [.nil] (F.map frE))]⟩ ∧ 0 ≤ j ∧ j + p = n.size.toNat ∧ (0 < n.size ∨ j = 0) ∧ F = (List.range j.toNat).map fun j => atV (inF ins 0) (wrap64 (n.rFirst i + wrap64 ((j : Nat) * gapV n))) w) n.size.toNat ⟨_, ?_, 0, [], rfl, by omega, by omega, by omega, rfl⟩ ?_
        · exact (Le.mv (by simp only [go_sem, hP, hn]; first | done | (simp; done) | (simp [intC]; done) | (repeat (first | rfl | constructor))) (by simp only [go_sem, hP, hn]; first | done | (simp; done) | (simp [intC]; done) | (repeat (first | rfl | constructor))))
        rintro p s ⟨j, F, rfl, j0, jp, js, hFj⟩
        (repeat refine TS.imp ?_)
        refine TR.imp ?_; intro K hK; simp only [go_sem, hP, hn]; (repeat refine vc ?_); refine hK _ ?_; clear K hK
        (repeat refine TS.imp ?_)
        refine Tr.cond rfl (fun hc => ?_) (fun hc => ?_)
        · have hj : j < n.size := of_decide_eq_true hc
          clear hc
          have w2 : wrap64 (j + 1) = j + 1 := w64 (by omega) (by omega)
          have ca := at_c Tm (inF ins 0) (wrap64 (n.rFirst i + wrap64 (j * gapV n))) w h0l hw
          (repeat refine TS.imp ?_)
          refine d5 (.p true 0 (.p true 1 (.p true 2 (.p true 3 (.p true 4 (.p true 5 (.p true 7 (.p true 8 (.p true 12 (.alt 6 (.alt 9 (.p false 10 (.p false 11 (.alt 13 (.alt 14 (.alt 15 (.p false 16 .nil) .nil) .nil) .nil))) .nil) .nil)))))))))) [3012] (by rw [hP]; kernel_rfl) (by kernel_rfl) (by simp only [go_sem, hP, hn]; try simp) (by exact fun _ _ h => h) ?_; intro K hK; simp only [go_sem, hP, hn]
          rw [show (List.map insE ins).getD 0 [D.nil] = [frD (inF ins 0)] from hri]
          simp only [go_sem, hP, hn]
          (repeat refine vc ?_)
          refine p1 (by rw [hP, hT]; exact First_r Tm n i) rfl rfl rfl trivial (by simp only [go_sem, hP, hn]; try trivial) (by simp only [go_sem, hP, hn]; try rfl) (by rw [hn]; decide) (by rfl) ?_; simp only [go_sem, hP, hn]; (repeat refine vc ?_)
          refine p1 (by rw [hP, hT]; exact gap_c Tm n) rfl rfl rfl trivial (by simp only [go_sem, hP, hn]; try trivial) (by simp only [go_sem, hP, hn]; try rfl) (by rw [hn]; decide) (by rfl) ?_; simp only [go_sem, hP, hn]; (repeat refine vc ?_)
          refine CallP_cs (by rw [hP, hT]; exact ca) rfl rfl rfl trivial (by simp only [go_sem, hP, hn]; try trivial) (by simp only [go_sem, hP, hn]; try rfl) (by rw [hn]; decide) ?_; simp only [go_sem, hP, hn]; (repeat refine vc ?_)
          refine hK _ ?_; clear K hK
          (repeat refine TS.imp ?_)
          refine TR.imp ?_; intro K hK; simp only [w2, go_sem, hP, hn]; (repeat refine vc ?_); refine hK _ ?_; clear K hK
          (repeat refine TS.imp ?_)
          refine ⟨p - 1, _, by omega, ?_, j + 1, F ++ [atV (inF ins 0) (wrap64 (n.rFirst i + wrap64 (j * gapV n))) w], rfl, by omega, by omega, .inl (by omega), ?_⟩
          · refine Le.trans (b := ⟨[(1, .d (insD ins)), (2, .d (.i .i64 w)), (3, .ptr 3 0), (7, .d (.row [.i .i64 0] ((ins.map fun s => (s.length : Int)).map intC))), (9, .d (.b (rWin n.k))), (10, .own 3010), (11, .d (.i .i64 i)), (12, .own 61), (13, .d (.i .i64 (j + 1)))], [(3, .box 50 n.cs), (3010, .row 22 [.nil] (((List.range i.toNat).map fun k => out (k : Nat)).map frE)), (61, .row 22 [.nil] ((F ++ [atV (inF ins 0) (wrap64 (n.rFirst i + wrap64 (j * gapV n))) w]).map frE))]⟩) ?_ ?_
            · rw [List.map_append (l₁ := F)]
              exact (Le.mv (by simp only [go_sem, hP, hn]; first | done | (simp; done) | (simp [intC]; done) | (repeat (first | rfl | constructor))) (by simp only [go_sem, hP, hn]; first | done | (simp; done) | (simp [intC]; done) | (repeat (first | rfl | constructor))))
            refine Le.trans (Le.ren 61 3012 (by rw [hpn] <;> rfl) rfl rfl) ?_; simp only [renT, renH, renO, renS, renL, rn, go_sem, hP, hn]
            exact Le.refl _
          · rw [hFj, show (j + 1).toNat = j.toNat + 1 by omega, List.range_succ, List.map_append, List.map_cons, List.map_nil, Int.toNat_of_nonneg j0]
        · have hj : j.toNat = n.size.toNat := by have := of_decide_eq_false hc; omega
          rw [hj] at hFj
          rw [← hFj]
          clear hc
          (repeat refine TS.imp ?_)
          refine ⟨_, Le.trans (Le.freeze 3012) ?_, rfl⟩
          simp only [go_sem, hP, hn]
          exact (Le.mv (by simp only [go_sem, hP, hn]; first | done | (simp; done) | (simp [intC]; done) | (repeat (first | rfl | constructor))) (by simp only [go_sem, hP, hn]; first | done | (simp; done) | (simp [intC]; done) | (repeat (first | rfl | constructor))))
      · (repeat refine TS.imp ?_)
        refine TR.imp ?_; intro K hK; simp only [go_sem, hP, hn]; (repeat refine vc ?_); refine hK _ ?_; clear K hK
        (repeat refine TS.imp ?_)
        refine Tr.cond rfl (fun h5 => ?_) (fun h5 => ?_)
        · have hk5 : n.k = 5 := by simpa using h5
          have hinp : inpF n ins w i = inF ins 0 := by unfold inpF; rw [hwin, if_neg (by decide), if_pos hk5]
          have hri := rw_ins ins 0 (by omega) (by omega)
          rw [hinp]
          (repeat refine TS.imp ?_)
          refine TR.imp ?_; intro K hK; simp only [go_sem, hP, hn]
          rw [show (List.map insE ins).getD 0 [D.nil] = [frD (inF ins 0)] from hri]
          simp only [go_sem, hP, hn]
          (repeat refine vc ?_)
          refine hK _ ?_; clear K hK
          (repeat refine TS.imp ?_)
          exact ⟨_, (Le.mv (by simp only [go_sem, hP, hn]; first | done | (simp; done) | (simp [intC]; done) | (repeat (first | rfl | constructor))) (by simp only [go_sem, hP, hn]; first | done | (simp; done) | (simp [intC]; done) | (repeat (first | rfl | constructor)))), rfl⟩
        · have hk5 : n.k ≠ 5 := by simpa using h5
          have hinp : inpF n ins w i = ins.map fun s => fr s i := by unfold inpF; rw [hwin, if_neg (by decide), if_neg hk5]
          have hix := hix hwin hk5
          rw [hinp]
          (repeat refine TS.imp ?_)
          refine TR.imp ?_; intro K hK; simp only [go_sem, hP, hn]; (repeat refine vc ?_); refine hK _ ?_; clear K hK
          (repeat refine TS.imp ?_)
          refine Tr.le (Le.nilslot 3012 12 22 [.nil] rfl (by rw [hpn] <;> rfl) rfl rfl) ?_
          simp only [go_sem, hP, hn]
          refine Tr.loop (fun p s => ∃ (j : Int) (F : List (List Int)), s = ⟨[(1, .d (insD ins)), (2, .d (.i .i64 w)), (3, .ptr 3 0), (7, .d (.row [.i .i64 0] ((ins.map fun s => (s.length : Int)).map intC))), (9, .d (.b (rWin n.k))), (10, .own 3010), (11, .d (.i .i64 i)), (12, .own 3012), (14, .d (.i .i64 j))], [(3, .box 50 n.cs), (3010, .row 22 [.nil] (((List.range i.toNat).map fun k => out (k : Nat)).map frE)), (3012, .row 22 [.nil] (F.map frE))]⟩ ∧ 0 ≤ j ∧ j + p = ins.length ∧ F = (ins.take j.toNat).map fun s => fr s i) ins.length ⟨_, ?_, 0, [], rfl, by omega, by omega, rfl⟩ ?_
          · exact (Le.mv (by simp only [go_sem, hP, hn]; first | done | (simp; done) | (simp [intC]; done) | (repeat (first | rfl | constructor))) (by simp only [go_sem, hP, hn]; first | done | (simp; done) | (simp [intC]; done) | (repeat (first | rfl | constructor))))
          rintro p s ⟨j, F, rfl, j0, jp, hFj⟩
          (repeat refine TS.imp ?_)
          refine TR.imp ?_; intro K hK; simp only [go_sem, hP, hn]; (repeat refine vc ?_); refine hK _ ?_; clear K hK
          (repeat refine TS.imp ?_)
          refine Tr.cond rfl (fun hc => ?_) (fun hc => ?_)
          · have hj : j < ins.length := of_decide_eq_true hc
            clear hc
            have w2 : wrap64 (j + 1) = j + 1 := w64 (by omega) (by omega)
            have hri := rw_ins ins j j0 hj
            have hil2 := hix _ (inF_mem j0 hj)
            have hrf := rw_fr (inF ins j) i i0 (by omega)
            have hi2 : i < (inF ins j).length := by omega
            (repeat refine TS.imp ?_)
            refine TR.imp ?_; intro K hK; simp only [hri, hrf, go_sem, hP, hn]
            (repeat refine vc ?_)
            refine hK _ ?_; clear K hK
            (repeat refine TS.imp ?_)
            refine TR.imp ?_; intro K hK; simp only [w2, go_sem, hP, hn]; (repeat refine vc ?_); refine hK _ ?_; clear K hK
            (repeat refine TS.imp ?_)
            refine ⟨p - 1, _, by omega, ?_, j + 1, F ++ [fr (inF ins j) i], rfl, by omega, by omega, ?_⟩
            · refine Le.trans (b := ⟨[(1, .d (insD ins)), (2, .d (.i .i64 w)), (3, .ptr 3 0), (7, .d (.row [.i .i64 0] ((ins.map fun s => (s.length : Int)).map intC))), (9, .d (.b (rWin n.k))), (10, .own 3010), (11, .d (.i .i64 i)), (12, .own 83), (14, .d (.i .i64 (j + 1)))], [(3, .box 50 n.cs), (3010, .row 22 [.nil] (((List.range i.toNat).map fun k => out (k : Nat)).map frE)), (83, .row 22 [.nil] ((F ++ [fr (inF ins j) i]).map frE))]⟩) ?_ ?_
              · rw [List.map_append (l₁ := F)]
                exact (Le.mv (by simp only [go_sem, hP, hn]; first | done | (simp; done) | (simp [intC]; done) | (repeat (first | rfl | constructor))) (by simp only [go_sem, hP, hn]; first | done | (simp; done) | (simp [intC]; done) | (repeat (first | rfl | constructor))))
              refine Le.trans (Le.ren 83 3012 (by rw [hpn] <;> rfl) rfl rfl) ?_; simp only [renT, renH, renO, renS, renL, rn, go_sem, hP, hn]
              exact Le.refl _
            · have htk : ins.take (j + 1).toNat = ins.take j.toNat ++ [inF ins j] := by
                rw [show (j + 1).toNat = j.toNat + 1 by omega, List.take_succ_eq_append_getElem (by omega)]
                unfold inF
                simp [List.getD, show j.toNat < ins.length by omega]
              rw [hFj, htk, List.map_append, List.map_cons, List.map_nil]
          · have hj : j = ins.length := by have := of_decide_eq_false hc; omega
            subst hj
            rw [Int.toNat_natCast, List.take_length] at hFj
            rw [← hFj]
            clear hc
            (repeat refine TS.imp ?_)
            refine ⟨_, Le.trans (Le.freeze 3012) ?_, rfl⟩
            simp only [go_sem, hP, hn]
            exact (Le.mv (by simp only [go_sem, hP, hn]; first | done | (simp; done) | (simp [intC]; done) | (repeat (first | rfl | constructor))) (by simp only [go_sem, hP, hn]; first | done | (simp; done) | (simp [intC]; done) | (repeat (first | rfl | constructor))))
    rintro s rfl
    (repeat refine TS.imp ?_)
    refine TR.imp ?_; intro K hK; simp only [go_sem, hP, hn]
    (repeat refine vc ?_)
    refine CallN_cs (Hi := [] ) (by rw [hP, hT]; exact  hf) rfl rfl rfl trivial (by simp only [go_sem, hP, hn]; try trivial) (by simp only [go_sem, hP, hn]; try rfl) (by simp only [inH, go_sem, hP, hn]; try simp) (by rw [hn]; decide) ?_; simp only [go_sem, hP, hn]; (repeat refine vc ?_)
    refine hK _ ?_; clear K hK
    (repeat refine TS.imp ?_)
    refine TR.imp ?_; intro K hK; simp only [w1, go_sem, hP, hn]; (repeat refine vc ?_); refine hK _ ?_; clear K hK
    (repeat refine TS.imp ?_)
    refine ⟨q - 1, _, by omega, ?_, i + 1, rfl, by omega, by omega⟩
    have hrg : (List.range (i + 1).toNat).map (fun k => out (k : Nat)) = (List.range i.toNat).map (fun k => out (k : Nat)) ++ [out i] := by
      rw [show (i + 1).toNat = i.toNat + 1 by omega, List.range_succ, List.map_append, List.map_cons, List.map_nil, Int.toNat_of_nonneg i0]
    rw [hrg]
    refine Le.trans (b := ⟨[(1, .d (insD ins)), (2, .d (.i .i64 w)), (3, .ptr 3 0), (7, .d (.row [.i .i64 0] ((ins.map fun s => (s.length : Int)).map intC))), (9, .d (.b (rWin n.k))), (10, .own 89), (11, .d (.i .i64 (i + 1)))], [(3, .box 50 n.cs), (89, .row 22 [.nil] ((((List.range i.toNat).map fun k => out (k : Nat)) ++ [out i]).map frE))]⟩) ?_ ?_
    · rw [List.map_append (l₂ := [out i])]
      exact (Le.mv (by simp only [go_sem, hP, hn]; first | done | (simp; done) | (simp [intC]; done) | (repeat (first | rfl | constructor))) (by simp only [go_sem, hP, hn]; first | done | (simp; done) | (simp [intC]; done) | (repeat (first | rfl | constructor))))
    refine Le.trans (Le.ren 89 3010 (by rw [hpn] <;> rfl) rfl rfl) ?_; simp only [renT, renH, renO, renS, renL, rn, go_sem, hP, hn]
    exact Le.refl _
  have hi : i = C := by have := of_decide_eq_false hb; omega
  subst hi
  clear hb
  (repeat refine TS.imp ?_)
  refine TR.imp ?_; intro K hK; simp only [go_sem, hP, hn]; (repeat refine vc ?_); refine hK _ ?_; clear K hK
  (repeat refine TS.imp ?_)
  simp only [RetG, go_sem]; (repeat with_reducible refine vc ?_)
end
/-! frames of a graph's input -/
structure Fin18 (wd lo hi many : Int) (fs : List (List Int)) : Prop where
  len : (fs.length : Int) = many
  wid : ∀ f ∈ fs, (f.length : Int) = wd
  num : ∀ f ∈ fs, ∀ x ∈ f, lo ≤ x ∧ x ≤ hi
theorem num18 {lo hi x i : Int} (h : lo ≤ hi) (hl : -32768 ≤ lo ∧ hi ≤ 32767) (hi0 : 0 ≤ i ∧ i ≤ 1000) : lo ≤ wrap64 (lo + Int.tmod (wrap64 (wrap64 (Int.tmod x (wrap64 (wrap64 (hi - lo) + 1)) + wrap64 (wrap64 (hi - lo) + 1)) + i)) (wrap64 (wrap64 (hi - lo) + 1))) ∧ wrap64 (lo + Int.tmod (wrap64 (wrap64 (Int.tmod x (wrap64 (wrap64 (hi - lo) + 1)) + wrap64 (wrap64 (hi - lo) + 1)) + i)) (wrap64 (wrap64 (hi - lo) + 1))) ≤ hi := by
  rw [w64 (x := hi - lo) (by omega) (by omega), w64 (x := hi - lo + 1) (by omega) (by omega)]
  have h1 := Int.lt_tmod_of_pos x (show 0 < hi - lo + 1 by omega)
  have h2 := Int.tmod_lt_of_pos x (show 0 < hi - lo + 1 by omega)
  generalize Int.tmod x (hi - lo + 1) = y at *
  rw [w64 (x := y + (hi - lo + 1)) (by omega) (by omega), w64 (x := y + (hi - lo + 1) + i) (by omega) (by omega)]
  have h3 := Int.tmod_nonneg (hi - lo + 1) (show 0 ≤ y + (hi - lo + 1) + i by omega)
  have h4 := Int.tmod_lt_of_pos (y + (hi - lo + 1) + i) (show 0 < hi - lo + 1 by omega)
  generalize Int.tmod (y + (hi - lo + 1) + i) (hi - lo + 1) = z at *
  rw [w64 (by omega) (by omega)]
  omega
section
attribute [local go_sem] PMade frD
theorem many25 (m : Int) : 0 ≤ Int.tmod (wrap64 (Int.tmod m 25 + 25)) 25 ∧ Int.tmod (wrap64 (Int.tmod m 25 + 25)) 25 ≤ 24 := by
  have h2 := Int.lt_tmod_of_pos m (show (0 : Int) < 25 by decide)
  have h3 := Int.tmod_lt_of_pos m (show (0 : Int) < 25 by decide)
  rw [w64 (x := Int.tmod m 25 + 25) (by omega) (by omega)]
  have h4 := Int.tmod_nonneg (25 : Int) (show 0 ≤ Int.tmod m 25 + 25 by omega)
  have h5 := Int.tmod_lt_of_pos (Int.tmod m 25 + 25) (show (0 : Int) < 25 by decide)
  omega
/-- a made graph, and frames of its input -/
def PQ18 (r : S) (H : Hp) : Prop := ∃ wd lo hi out ns many fs, r = .tup [.agg (gcs wd lo hi out (.d (rowN ns))), .d (frD fs)] ∧ H = [] ∧ GM wd lo hi out ns ∧ Fin18 wd lo hi many fs ∧ 0 ≤ many ∧ many ≤ 24
end
section
attribute [local go_sem] frD insD rwS_len killC_rwS killC_set frzL_rwS frzL_set renL_rwS renL_set hasL_rwS hasL_set rwS_set List.set_set Bool.and_false Bool.not_false
/-! whole.Streams: the frames that a frame is told from -/
def rcs (wd lo hi out : Int) (ns : List Nd) (W : List Int) (h : Nat) : List S := [.d (.i .i64 wd), .d (.i .i64 lo), .d (.i .i64 hi), .d (rowN ns), .d (.i .i64 out), .d (.row [.i .i64 0] (W.map intC)), .own h]
attribute [local go_sem] rcs
/-- a run: node k's frames are F by now -/
def OBR (wd lo hi out : Int) (ns : List Nd) (W : List Int) (ds : List D) (k : Nat) (F : List (List Int)) : Hp := [(1001, .rows 29 ((rwS ds).set k (.own 1002))), (1002, .row 22 [.nil] (F.map frE))]
attribute [local go_sem] OBR
theorem wE_repF : ∀ n : Nat, wE (List.replicate n [D.nil]) ((List.replicate n ([] : List Int)).map frE)
  | 0 => trivial
  | n + 1 => ⟨by simp [frE, Aw.wd], wE_repF n⟩
theorem setE_frE (l : List (List Int)) (i : Nat) (f : List Int) : setE (l.map frE) i 0 [.row [.i .i64 0] (f.map intC)] = (l.set i f).map frE := by
  unfold setE
  apply List.ext_getElem?
  intro j
  rw [List.getElem?_modify, List.getElem?_map, List.getElem?_map, List.getElem?_set]
  by_cases h : i = j
  · subst h
    by_cases h2 : i < l.length
    · simp [h2, frE]
    · simp [h2]
  · simp [h]
theorem take_setG {α : Type} {l : List α} {i : Nat} {x : α} (h : i < l.length) : (l.set i x).take (i + 1) = l.take i ++ [x] := by
  rw [List.take_succ_eq_append_getElem (by simpa using h), List.take_set_of_le (Nat.le_refl _)]
  simp
theorem over_c {T : World → Prop} (Tk : KT T) (wd lo hi out : Int) (ns : List Nd) (W : List Int) (ds : List D) (k : Nat) (F : List (List Int)) (n : Nd) (i : Int) (u : Int → List (List Int)) (w : Nat) (hk : k < ds.length) (hil : 1 ≤ n.inn.length ∧ n.inn.length ≤ 4096)
    (hj : ∀ j ∈ n.inn, 0 ≤ j ∧ j < ds.length ∧ j.toNat ≠ k ∧ ds.getD j.toNat .nil = frD (u j) ∧ (u j).length ≤ 65536) (hw0 : rd n.inn 0 < W.length) (hw1 : rd W (rd n.inn 0) = w) (hw2 : w ≤ 65536) (hgap : rWin n.k = true → mx n.gap 1 = gapV n) (hsz : rWin n.k = true → 0 ≤ n.size ∧ n.size ≤ 4096)
    (hix : rWin n.k = false → n.k ≠ 5 → ∀ j ∈ n.inn, 0 ≤ i ∧ i < (u j).length) :
    Cg Go.Proofs.Tryz.prog T 36 (OBR wd lo hi out ns W ds k F) [.fps (rcs wd lo hi out ns W 1001), .agg n.cs, .d (.i .i64 i)] (fun r H => H = OBR wd lo hi out ns W ds k F ∧ r = .d (frD (inpF n (n.inn.map u) w i))) := by
  have h0m : rd n.inn 0 ∈ n.inn := rd_mem (by omega) (by omega)
  have hget : ∀ j ∈ n.inn, ((rwS ds).set k (.own 1002)).getD j.toNat .any = .d (frD (u j)) := fun j hm => by
    obtain ⟨a, b, c, d, _⟩ := hj j hm
    rw [set_getD (by rw [rwS_len]; exact hk), if_neg (fun e => c e.symm), rwS_getD (by omega), d]
  have hg0 := hget _ h0m
  have hj0 := hj _ h0m
  have hin0 : inF (n.inn.map u) 0 = u (rd n.inn 0) := by
    unfold inF rd
    rw [List.getD_eq_getElem?_getD, List.getD_eq_getElem?_getD, List.getElem?_map, List.getElem?_eq_getElem (by simp; omega)]; rfl
  refine Cg_of [1001, 1002] Tk.m Go.Proofs.Tryz.func36 rfl rfl Go.Proofs.Tryz.ntmps36 (by simp) rfl (rs := [.tmp 6]) rfl fun E hP hn hT hpn => ?_
  (repeat refine TS.imp ?_)
  refine TR.imp ?_; intro K hK; simp only [go_sem, hP, hn]; (repeat refine vc ?_); refine hK _ ?_; clear K hK
  (repeat refine TS.imp ?_)
  refine d5 (.p true 0 (.p true 1 (.p true 2 (.p true 3 (.p true 4 (.p true 5 (.p true 6 (.p true 7 (.p true 8 (.p true 9 (.p true 10 .nil))))))))))) [] (by rw [hP]; kernel_rfl) (by kernel_rfl) (by simp only [go_sem, hP, hn]; try simp) (by exact fun _ _ h => h) ?_; intro K hK; simp only [go_sem, hP, hn]
  rw [hg0]
  simp only [go_sem, hP, hn]
  have z1 : 0 ≤ rd n.inn 0 ∧ rd n.inn 0 < ds.length := ⟨hj0.1, hj0.2.1⟩
  have z2 : (rd n.inn 0).toNat < ds.length := by omega
  have z3 : (0 : Int) < n.inn.length := by omega
  simp only [z1, z2, z3, and_self, true_and, List.length_set, rwS_len, Nat.zero_lt_one]
  (repeat (refine ⟨by first | trivial | omega, ?_⟩))
  refine hK _ ?_; clear K hK
  refine Tr.le (Le.keep [0, 2, 4, 7]) ?_; simp only [List.map_cons, List.map_nil, lk, Nat.reduceEqDiff, reduceIte]
  (repeat refine TS.imp ?_)
  refine TR.imp ?_; intro K hK; simp only [go_sem, hP, hn]; (repeat refine vc ?_); refine hK _ ?_; clear K hK
  refine Tr.le (Le.keep [0, 2, 4, 7, 26]) ?_; simp only [List.map_cons, List.map_nil, lk, Nat.reduceEqDiff, reduceIte]
  refine Tr.block ?_
  refine Tr.seq ?_
  refine Tr.meet (fun s => s = ⟨[(0, .fps (rcs wd lo hi out ns W 1001)), (2, .d (.i .i64 i)), (4, .ptr 4 0), (7, .d (frD (u (rd n.inn 0)))), (26, .d (.i .i64 n.k)), (27, .d (.b (rWin n.k)))], [(4, .box 50 n.cs), (1001, .rows 29 ((rwS ds).set k (.own 1002))), (1002, .row 22 [.nil] (F.map frE))]⟩) ?_ ?_
  rotate_left
  · (repeat refine TS.imp ?_)
    refine TR.imp ?_; intro K hK; simp only [go_sem, hP, hn]; (repeat refine vc ?_); refine hK _ ?_; clear K hK
    (repeat refine TS.imp ?_)
    refine Tr.cond rfl (fun h1 => ?_) (fun h1 => ?_)
    · rw [h1, show rWin n.k = true by unfold rWin; rw [h1]; rfl]
      (repeat refine TS.imp ?_)
      exact ⟨_, (Le.mv (by simp only [go_sem, hP, hn]; first | done | (simp; done) | (simp [intC]; done) | (repeat (first | rfl | constructor))) (by simp only [go_sem, hP, hn]; first | done | (simp; done) | (simp [intC]; done) | (repeat (first | rfl | constructor)))), rfl⟩
    (repeat refine TS.imp ?_)
    refine TR.imp ?_; intro K hK; simp only [go_sem, hP, hn]; (repeat refine vc ?_); refine hK _ ?_; clear K hK
    (repeat refine TS.imp ?_)
    refine Tr.cond rfl (fun h2 => ?_) (fun h2 => ?_)
    · rw [h2, show rWin n.k = true by unfold rWin; rw [h1, h2]; rfl]
      (repeat refine TS.imp ?_)
      exact ⟨_, (Le.mv (by simp only [go_sem, hP, hn]; first | done | (simp; done) | (simp [intC]; done) | (repeat (first | rfl | constructor))) (by simp only [go_sem, hP, hn]; first | done | (simp; done) | (simp [intC]; done) | (repeat (first | rfl | constructor)))), rfl⟩
    (repeat refine TS.imp ?_)
    refine TR.imp ?_; intro K hK; simp only [go_sem, hP, hn]; (repeat refine vc ?_); refine hK _ ?_; clear K hK
    (repeat refine TS.imp ?_)
    refine Tr.cond rfl (fun h3 => ?_) (fun h3 => ?_)
    · rw [h3, show rWin n.k = true by unfold rWin; rw [h1, h2, h3]; rfl]
      (repeat refine TS.imp ?_)
      exact ⟨_, (Le.mv (by simp only [go_sem, hP, hn]; first | done | (simp; done) | (simp [intC]; done) | (repeat (first | rfl | constructor))) (by simp only [go_sem, hP, hn]; first | done | (simp; done) | (simp [intC]; done) | (repeat (first | rfl | constructor)))), rfl⟩
    (repeat refine TS.imp ?_)
    refine TR.imp ?_; intro K hK; simp only [go_sem, hP, hn]; (repeat refine vc ?_); refine hK _ ?_; clear K hK
    (repeat refine TS.imp ?_)
    refine Tr.cond rfl (fun h4 => ?_) (fun h4 => ?_)
    · rw [h4, show rWin n.k = true by unfold rWin; rw [h1, h2, h3, h4]; rfl]
      (repeat refine TS.imp ?_)
      exact ⟨_, (Le.mv (by simp only [go_sem, hP, hn]; first | done | (simp; done) | (simp [intC]; done) | (repeat (first | rfl | constructor))) (by simp only [go_sem, hP, hn]; first | done | (simp; done) | (simp [intC]; done) | (repeat (first | rfl | constructor)))), rfl⟩
    (repeat refine TS.imp ?_)
    refine TR.imp ?_; intro K hK; simp only [go_sem, hP, hn]; (repeat refine vc ?_); refine hK _ ?_; clear K hK
    (repeat refine TS.imp ?_)
    rw [show rWin n.k = (n.k == 12) by unfold rWin; rw [h1, h2, h3, h4]; rfl]
    exact ⟨_, (Le.mv (by simp only [go_sem, hP, hn]; first | done | (simp; done) | (simp [intC]; done) | (repeat (first | rfl | constructor))) (by simp only [go_sem, hP, hn]; first | done | (simp; done) | (simp [intC]; done) | (repeat (first | rfl | constructor)))), rfl⟩
  rintro s rfl
  (repeat refine TS.imp ?_)
  refine Tr.cond rfl (fun hwin => ?_) (fun hwin => ?_)
  · have hinp : inpF n (n.inn.map u) w i = (List.range n.size.toNat).map fun j => atV (u (rd n.inn 0)) (wrap64 (n.rFirst i + wrap64 ((j : Nat) * gapV n))) w := by
      unfold inpF
      rw [if_pos hwin, hin0]
    have hgap := hgap hwin
    have hsz := hsz hwin
    rw [hinp]
    (repeat refine TS.imp ?_)
    refine TR.imp ?_; intro K hK; simp only [go_sem, hP, hn]; (repeat refine vc ?_); refine hK _ ?_; clear K hK
    (repeat refine TS.imp ?_)
    rw [show (if 1 > n.gap then 1 else n.gap) = gapV n from hgap]
    (repeat refine TS.imp ?_)
    refine TR.imp ?_; intro K hK; simp only [go_sem, hP, hn]; (repeat refine vc ?_); refine hK _ ?_; clear K hK
    refine Tr.le (Le.wrow 38 ((List.replicate n.size.toNat ([] : List Int)).map frE) rfl (wE_repF _)) ?_
    simp only [go_sem, hP, hn]
    (repeat refine TS.imp ?_)
    refine TR.imp ?_; intro K hK; simp only [go_sem, hP, hn]; (repeat refine vc ?_); refine hK _ ?_; clear K hK
    rw [show ((List.replicate n.size.toNat ([] : List Int)).length : Int) = n.size by rw [List.length_replicate]; omega]
    (repeat refine TS.imp ?_)
    refine Tr.loop (fun q s => ∃ (j : Int) (G : List (List Int)), s = ⟨[(0, .fps (rcs wd lo hi out ns W 1001)), (2, .d (.i .i64 i)), (4, .ptr 4 0), (7, .d (frD (u (rd n.inn 0)))), (8, .d (.i .i64 (gapV n))), (9, .own 38), (40, .d (.i .i64 n.size)), (41, .d (.i .i64 j))], [(4, .box 50 n.cs), (1001, .rows 29 ((rwS ds).set k (.own 1002))), (1002, .row 22 [.nil] (F.map frE)), (38, .row 22 [.nil] (G.map frE))]⟩ ∧ 0 ≤ j ∧ j + q = n.size ∧ G.length = n.size.toNat ∧ G.take j.toNat = (List.range j.toNat).map fun j => atV (u (rd n.inn 0)) (wrap64 (n.rFirst i + wrap64 ((j : Nat) * gapV n))) w) n.size.toNat ⟨_, ?_, 0, List.replicate n.size.toNat [], rfl, by omega, by omega, by simp, rfl⟩ ?_
    · exact (Le.mv (by simp only [go_sem, hP, hn]; first | done | (simp; done) | (simp [intC]; done) | (repeat (first | rfl | constructor))) (by simp only [go_sem, hP, hn]; first | done | (simp; done) | (simp [intC]; done) | (repeat (first | rfl | constructor))))
    rintro q s ⟨j, G, rfl, j0, jq, hGl, hGt⟩
    (repeat refine TS.imp ?_)
    refine TR.imp ?_; intro K hK; simp only [go_sem, hP, hn]; (repeat refine vc ?_); refine hK _ ?_; clear K hK
    (repeat refine TS.imp ?_)
    refine Tr.cond rfl (fun hb => ?_) (fun hb => ?_)
    · have hj1 : j < n.size := of_decide_eq_true hb
      clear hb
      have w1 : wrap64 (j + 1) = j + 1 := w64 (by omega) (by omega)
      have hjn : j.toNat < G.length := by omega
      have hjG : j < G.length := by omega
      (repeat refine TS.imp ?_)
      refine TR.imp ?_; intro K hK; simp only [go_sem, hP, hn]; (repeat refine vc ?_); refine hK _ ?_; clear K hK
      (repeat refine TS.imp ?_)
      refine TR.imp ?_; intro K hK; simp only [go_sem, hP, hn]; (repeat refine vc ?_); refine c1 (by rw [hP, hT]; exact First_k Tk n i) rfl rfl rfl trivial (by simp only [go_sem, hP, hn]; try trivial) (by simp only [go_sem, hP, hn]; try rfl) (by rw [hn]; decide) (by rfl) ?_; simp only [go_sem, hP, hn]; (repeat refine vc ?_); refine hK _ ?_; clear K hK
      rw [first_eqW]
      have hrg : (List.range (j + 1).toNat).map (fun j => atV (u (rd n.inn 0)) (wrap64 (n.rFirst i + wrap64 ((j : Nat) * gapV n))) w) = (List.range j.toNat).map (fun j => atV (u (rd n.inn 0)) (wrap64 (n.rFirst i + wrap64 ((j : Nat) * gapV n))) w) ++ [atV (u (rd n.inn 0)) (wrap64 (n.rFirst i + wrap64 (j * gapV n))) w] := by
        rw [show (j + 1).toNat = j.toNat + 1 by omega, List.range_succ, List.map_append, List.map_cons, List.map_nil, Int.toNat_of_nonneg j0]
      generalize wrap64 (n.rFirst i + wrap64 (j * gapV n)) = v at *
      refine Tr.le (Le.keep [0, 2, 4, 7, 8, 9, 10, 11, 40, 41]) ?_; simp only [List.map_cons, List.map_nil, lk, Nat.reduceEqDiff, reduceIte]
      (repeat refine TS.imp ?_)
      refine TR.imp ?_; intro K hK; simp only [go_sem, hP, hn]; (repeat refine vc ?_); refine hK _ ?_; clear K hK
      (repeat refine TS.imp ?_)
      refine Tr.cond rfl (fun hc => ?_) (fun hc => ?_)
      · have hv : v < 0 ∨ (u (rd n.inn 0)).length ≤ v := by simpa using hc
        have hat : atV (u (rd n.inn 0)) v w = List.replicate w 0 := if_pos hv
        clear hc
        rw [hat] at hrg
        (repeat refine TS.imp ?_)
        refine d5 (.p true 0 (.p true 1 (.p true 2 (.p true 3 (.p true 4 (.p true 5 (.p true 6 (.p true 7 (.p true 8 (.p true 9 (.p true 10 (.p true 11 (.alt 12 (.p true 13 (.alt 14 .nil .nil)) .nil))))))))))))) [38] (by rw [hP]; kernel_rfl) (by kernel_rfl) (by simp only [go_sem, hP, hn]; try simp) (by exact fun _ _ h => h) ?_; intro K hK; simp only [go_sem, hP, hn]
        rw [hw1]
        simp only [go_sem, hP, hn]
        simp only [z1, z3, hw0, j0, hjG, and_self, true_and, List.length_map]
        (repeat refine vc ?_)
        refine hK _ ?_; clear K hK
        (repeat refine TS.imp ?_)
        refine TR.imp ?_; intro K hK; simp only [w1, go_sem, hP, hn]; (repeat refine vc ?_); refine hK _ ?_; clear K hK
        (repeat refine TS.imp ?_)
        refine ⟨q - 1, _, by omega, ?_, j + 1, G.set j.toNat (List.replicate w 0), rfl, by omega, by omega, by simp [hGl], by rw [show (j + 1).toNat = j.toNat + 1 by omega, take_setG hjn, hGt]; rw [show (j + 1).toNat = j.toNat + 1 by omega] at hrg; exact hrg.symm⟩
        rw [← setE_frE]
        exact (Le.mv (by simp only [go_sem, hP, hn]; first | done | (simp; done) | (simp [intC]; done) | (repeat (first | rfl | constructor))) (by simp only [go_sem, hP, hn]; first | done | (simp; done) | (simp [intC]; done) | (repeat (first | rfl | constructor))))
      · have hv : ¬ (v < 0 ∨ (u (rd n.inn 0)).length ≤ v) := by simpa using hc
        have hat : atV (u (rd n.inn 0)) v w = fr (u (rd n.inn 0)) v := if_neg hv
        clear hc
        rw [hat] at hrg
        have hrf := rw_fr (u (rd n.inn 0)) v (by omega) (by omega)
        have v0 : 0 ≤ v := by omega
        have v1 : v < (u (rd n.inn 0)).length := by omega
        (repeat refine TS.imp ?_)
        refine TR.imp ?_; intro K hK; simp only [hrf, go_sem, hP, hn]
        (repeat refine vc ?_)
        refine hK _ ?_; clear K hK
        (repeat refine TS.imp ?_)
        refine TR.imp ?_; intro K hK; simp only [w1, go_sem, hP, hn]; (repeat refine vc ?_); refine hK _ ?_; clear K hK
        (repeat refine TS.imp ?_)
        refine ⟨q - 1, _, by omega, ?_, j + 1, G.set j.toNat (fr (u (rd n.inn 0)) v), rfl, by omega, by omega, by simp [hGl], by rw [show (j + 1).toNat = j.toNat + 1 by omega, take_setG hjn, hGt]; rw [show (j + 1).toNat = j.toNat + 1 by omega] at hrg; exact hrg.symm⟩
        rw [← setE_frE]
        exact (Le.mv (by simp only [go_sem, hP, hn]; first | done | (simp; done) | (simp [intC]; done) | (repeat (first | rfl | constructor))) (by simp only [go_sem, hP, hn]; first | done | (simp; done) | (simp [intC]; done) | (repeat (first | rfl | constructor))))
    · have hj1 : j.toNat = n.size.toNat := by have := of_decide_eq_false hb; omega
      rw [hj1, List.take_of_length_le (by omega)] at hGt
      rw [← hGt]
      clear hb
      (repeat refine TS.imp ?_)
      refine TR.imp ?_; intro K hK; simp only [go_sem, hP, hn]; (repeat refine vc ?_); refine hK _ ?_; clear K hK
      (repeat refine TS.imp ?_)
      simp only [RetG, go_sem]; (repeat with_reducible refine vc ?_)
  have hinp0 : inpF n (n.inn.map u) w i = if n.k = 5 then u (rd n.inn 0) else n.inn.map fun j => fr (u j) i := by
    unfold inpF
    rw [if_neg (by rw [hwin]; decide), hin0, List.map_map]; rfl
  rw [hinp0]
  (repeat refine TS.imp ?_)
  refine TR.imp ?_; intro K hK; simp only [go_sem, hP, hn]; (repeat refine vc ?_); refine hK _ ?_; clear K hK
  (repeat refine TS.imp ?_)
  refine Tr.cond rfl (fun h5 => ?_) (fun h5 => ?_)
  · rw [if_pos (by simpa using h5)]
    (repeat refine TS.imp ?_)
    refine TR.imp ?_; intro K hK; simp only [go_sem, hP, hn]; (repeat refine vc ?_); refine hK _ ?_; clear K hK
    (repeat refine TS.imp ?_)
    simp only [RetG, go_sem]; (repeat with_reducible refine vc ?_)
  have hk5 : n.k ≠ 5 := by simpa using h5
  rw [if_neg hk5]
  have hix := hix hwin hk5
  clear h5
  (repeat refine TS.imp ?_)
  refine TR.imp ?_; intro K hK; simp only [go_sem, hP, hn]; (repeat refine vc ?_); refine hK _ ?_; clear K hK
  (repeat refine TS.imp ?_)
  refine TR.imp ?_; intro K hK; simp only [go_sem, hP, hn]; (repeat refine vc ?_); refine hK _ ?_; clear K hK
  (repeat refine TS.imp ?_)
  refine Tr.le (Le.nilslot 3012 12 22 [.nil] rfl (by rw [hpn] <;> rfl) rfl (by simp [freeH, closedO, hasL_set, hasL_rwS, k1, S.hasL, S.has, go_sem])) ?_
  simp only [go_sem, hP, hn]
  refine Tr.loop (fun q s => ∃ (m : Int), s = ⟨[(0, .fps (rcs wd lo hi out ns W 1001)), (2, .d (.i .i64 i)), (4, .ptr 4 0), (86, .d (.row [.i .i64 0] (n.inn.map intC))), (87, .d (.i .i64 n.inn.length)), (88, .d (.i .i64 m)), (12, .own 3012)], [(4, .box 50 n.cs), (1001, .rows 29 ((rwS ds).set k (.own 1002))), (1002, .row 22 [.nil] (F.map frE)), (3012, .row 22 [.nil] (((n.inn.take m.toNat).map fun j => fr (u j) i).map frE))]⟩ ∧ 0 ≤ m ∧ m + q = n.inn.length) n.inn.length ⟨_, ?_, 0, rfl, by omega, by omega⟩ ?_
  · exact (Le.mv (by simp only [go_sem, hP, hn]; first | done | (simp; done) | (simp [intC]; done) | (repeat (first | rfl | constructor))) (by simp only [go_sem, hP, hn]; first | done | (simp; done) | (simp [intC]; done) | (repeat (first | rfl | constructor))))
  rintro q s ⟨m, rfl, m0, mq⟩
  (repeat refine TS.imp ?_)
  refine TR.imp ?_; intro K hK; simp only [go_sem, hP, hn]; (repeat refine vc ?_); refine hK _ ?_; clear K hK
  (repeat refine TS.imp ?_)
  refine Tr.cond rfl (fun hb => ?_) (fun hb => ?_)
  · have hm1 : m < n.inn.length := of_decide_eq_true hb
    clear hb
    have hjm := rd_mem m0 hm1
    have hjr := hj _ hjm
    have hgj := hget _ hjm
    have hij := hix _ hjm
    have hrf := rw_fr (u (rd n.inn m)) i hij.1 hij.2
    have w1 : wrap64 (m + 1) = m + 1 := w64 (by omega) (by omega)
    have htl : (n.inn.take m.toNat).length ≤ 4096 := by rw [List.length_take]; omega
    have y1 : 0 ≤ rd n.inn m ∧ rd n.inn m < ds.length := ⟨hjr.1, hjr.2.1⟩
    have y2 : (rd n.inn m).toNat < ds.length := by omega
    have htk := take_rd m0 hm1
    (repeat refine TS.imp ?_)
    refine TR.imp ?_; intro K hK; simp only [go_sem, hP, hn]; (repeat refine vc ?_); refine hK _ ?_; clear K hK
    (repeat refine TS.imp ?_)
    generalize rd n.inn m = j at *
    refine TR.imp ?_; intro K hK; simp only [hgj, hrf, go_sem, hP, hn]
    (repeat refine vc ?_)
    refine hK _ ?_; clear K hK
    (repeat refine TS.imp ?_)
    refine TR.imp ?_; intro K hK; simp only [w1, go_sem, hP, hn]; (repeat refine vc ?_); refine hK _ ?_; clear K hK
    (repeat refine TS.imp ?_)
    refine ⟨q - 1, _, by omega, ?_, m + 1, rfl, by omega, by omega⟩
    rw [htk, List.map_append (f := fun j => fr (u j) i), List.map_cons, List.map_nil]
    refine Le.trans (b := ⟨[(0, .fps (rcs wd lo hi out ns W 1001)), (2, .d (.i .i64 i)), (4, .ptr 4 0), (86, .d (.row [.i .i64 0] (n.inn.map intC))), (87, .d (.i .i64 n.inn.length)), (88, .d (.i .i64 (m + 1))), (12, .own 104)], [(4, .box 50 n.cs), (1001, .rows 29 ((rwS ds).set k (.own 1002))), (1002, .row 22 [.nil] (F.map frE)), (104, .row 22 [.nil] ((((n.inn.take m.toNat).map fun j => fr (u j) i) ++ [fr (u j) i]).map frE))]⟩) ?_ ?_
    · rw [List.map_append (l₁ := (n.inn.take m.toNat).map fun j => fr (u j) i)]
      exact (Le.mv (by simp only [go_sem, hP, hn]; first | done | (simp; done) | (simp [intC]; done) | (repeat (first | rfl | constructor))) (by simp only [go_sem, hP, hn]; first | done | (simp; done) | (simp [intC]; done) | (repeat (first | rfl | constructor))))
    refine Le.trans (Le.ren 104 3012 (by rw [hpn] <;> rfl) rfl (by simp [freeH, closedO, hasL_set, hasL_rwS, k1, S.hasL, S.has, go_sem])) ?_; simp only [renT, renH, renO, renS, renL, rn, go_sem, hP, hn]
    exact Le.refl _
  have hm1 : m = n.inn.length := by have := of_decide_eq_false hb; omega
  subst hm1
  rw [Int.toNat_natCast, List.take_length]
  clear hb
  (repeat refine TS.imp ?_)
  refine TR.imp ?_; intro K hK; simp only [go_sem, hP, hn]; (repeat refine vc ?_); refine hK _ ?_; clear K hK
  (repeat refine TS.imp ?_)
  simp only [RetG, go_sem]; (repeat with_reducible refine vc ?_)
end
section
attribute [local go_sem] frD rwS_len killC_rwS killC_set frzL_rwS frzL_set renL_rwS renL_set hasL_rwS hasL_set rwS_set List.set_set List.length_set Bool.and_false Bool.not_false
/-- a call in a drawn region that hands objects back -/
theorem lh_keys : ∀ {H : Hp} {k : Nat} {o : Obj'}, lh H k = some o → k ∈ H.map Prod.fst
  | [], k, o, h => by simp [lh] at h
  | (i, x) :: H, k, o, h => by
    simp only [lh] at h
    split at h
    · rename_i e; subst e; simp
    · exact List.mem_cons_of_mem _ (lh_keys h)
theorem keys_lh : ∀ {H : Hp} {k : Nat}, k ∈ H.map Prod.fst → ∃ o, lh H k = some o
  | [], k, h => by simp at h
  | (i, x) :: H, k, h => by
    simp only [lh]
    split
    · exact ⟨x, rfl⟩
    · rename_i e
      rcases List.mem_cons.1 h with h | h
      · exact absurd h.symm e
      · exact keys_lh h
theorem CallP_hb {E : Env} {ops : List Oper} {o : Oper} {s sr : St} {nw wr : List Nat} {AP' : St → St → List Nat → Prop} {fx : Operand} {args : Array Operand} {ts : Array TypeId} {f : Nat} {caps xs : List S} {d : Nat} {post : S → Hp → Prop}
    (C : Cg E.P E.T f [] xs post) (ho : o.op = .call { callee := .value fx, args := args, argTypes := ts }) (hd : o.dst = some d) (hf : stp (ev s fx) = .fn f caps) (c1 : stc (ev s fx)) (c2 : stcL s args.toList)
    (hxs : stpL s args.toList ++ caps = xs) (hdn : d < E.n) (hr : ∀ r Ho, post r Ho → (∀ k, newK [] Ho k = true → E.pin k = none) ∧ AP' ⟨(d, r) :: (cgS s [] Ho).t, (cgS s [] Ho).h⟩ ⟨(d, .any) :: sr.t, sr.h⟩ (Ho.map Prod.fst ++ nw)) : CallP E ops wr o none s sr nw AP' := by
  intro Q Kc a w η h _ hg hK
  rw [if_pos (by simp [Region.wanted, hg rfl])]
  obtain ⟨vs, h1, h2⟩ := call_run h ho hf c1 c2 C.1
  unfold Oper.wp
  rw [h1]
  show Calls E.P f vs.toArray w _
  refine (C.2 (Fr E s.h η) w η vs h.hT (In.of h (show inH s.h [] from trivial)) (hxs ▸ h2)).mono ?_
  rintro e w' ⟨r, v, Ho, η', rfl, hp, hv, hO⟩
  obtain ⟨hn, hq⟩ := hr r Ho hp
  obtain ⟨hR, hG, hS⟩ := hO.rel h (show inH s.h [] from trivial) hn
  refine hK d ⟨(d, r) :: (cgS s [] Ho).t, (cgS s [] Ho).h⟩ v w' η' [] (Ho.map Prod.fst) hd (by simp [subL]) (by rw [hd]; exact hR.put hdn (RS.mono hG _ _ hv)) ⟨hS, fun j hj => hO.eta j ?_, fun j b hj e => .inl ?_, hO.bel.size, fun b o2 hb hn => ?_⟩ hq
  · cases hl : lh Ho j with
    | none => rfl
    | some o1 => exact absurd (lh_keys hl) hj
  · obtain ⟨o1, hl⟩ := keys_lh hj
    rcases (hO.ge j o1 b hl e).2 with h3 | ⟨k', o', h3, _⟩
    · exact h3
    · cases h3
  · rw [hO.bel.block b (Array.getElem?_eq_some_iff.1 hb).1 fun ⟨k', o', h3, h4⟩ => by cases h3]
    exact hb
/-- no frames at all -/
theorem Cg.nil2 {P : Program} {T : World → Prop} {f : Nat} {x : S} {e0 : List D} {post : S → Hp → Prop} (C : Cg P T f [] [x, .d (.row e0 [])] post) : Cg P T f [] [x, .d .nil] post :=
  ⟨C.1, fun F w η vs hT hi hx => C.2 F w η vs hT hi (by
    simp only [RSL] at hx ⊢
    obtain ⟨v, l, e, h1, u, l2, e2, h2, h3⟩ := hx
    refine ⟨v, l, e, h1, u, l2, e2, ?_, h3⟩
    simp only [RS, Rd] at h2 ⊢
    exact ⟨none, 0, h2, Nat.le_refl _, .inl (by simp)⟩)⟩
/-- a frame as what is read -/
def frX (f : List Int) : D := .row [.i .i64 0] (f.map intC)
theorem frE_X (fs : List (List Int)) : fs.map frE = (fs.map frX).map fun d => [d] := by
  rw [List.map_map]; rfl
theorem killC_app (p : Nat → Bool) : ∀ a b : List S, killC p (a ++ b) = killC p a ++ killC p b
  | [], b => rfl
  | x :: a, b => by simp only [List.cons_append, killC, killC_app p a b]
theorem frzL_app (h : Nat) (r : D) : ∀ a b : List S, frzL h r (a ++ b) = frzL h r a ++ frzL h r b
  | [], b => rfl
  | x :: a, b => by simp only [List.cons_append, frzL, frzL_app h r a b]
theorem renL_app (k k' : Nat) : ∀ a b : List S, renL k k' (a ++ b) = renL k k' a ++ renL k k' b
  | [], b => rfl
  | x :: a, b => by simp only [List.cons_append, renL, renL_app k k' a b]
theorem hasL_app (p : Nat → Bool) : ∀ a b : List S, S.hasL p (a ++ b) = (S.hasL p a || S.hasL p b)
  | [], b => by simp [S.hasL]
  | x :: a, b => by simp only [List.cons_append, S.hasL, hasL_app p a b, Bool.or_assoc]
attribute [local go_sem] killC_app frzL_app renL_app hasL_app
theorem rw_at {F : List (List Int)} {f : List Int} {p : Int} (hp : p.toNat = F.length) (x : S) : rwS (F.map frX) ++ [x] = (rwS ((F ++ [f]).map frX)).set p.toNat x := by
  rw [hp]
  unfold rwS
  simp only [List.map_append, List.map_cons, List.map_nil]
  rw [List.set_append_right _ _ (by simp)]
  simp
theorem rw_on {F : List (List Int)} {f : List Int} {p : Int} (hp : p.toNat < F.length) (x : S) : (rwS (F.map frX)).set p.toNat x ++ [.d (.row [.i .i64 0] (f.map intC))] = (rwS ((F ++ [f]).map frX)).set p.toNat x := by
  unfold rwS
  simp only [List.map_append, List.map_cons, List.map_nil]
  rw [List.set_append_left _ _ (by simpa using hp)]
  rfl
theorem Le.fresh {E : Env} {s : St} (k' : Nat) (t' : TypeId) (e0 : List D) (hp : E.pin k' = none) (ht : freeT k' s.t = true) (hh : freeH k' s.h = true) : Le E s ⟨s.t, (k', .row t' e0 []) :: s.h⟩ := fun a w η hR => ⟨_, (hR.fresh t' e0 hp ht hh).1⟩
/-- frames of a graph's input, of which one is the caller's own -/
def OWN18 (fs : List (List Int)) (p : Int) : Hp := [(2000, .rows 22 ((rwS (fs.map frX)).set p.toNat (.own 5000))), (5000, .row 3 [.i .i64 0] ((fr fs p).map intC))]
theorem Made18_p {T : World → Prop} (Tm : TP T) (p wd lo hi out many : Int) (ns : List Nd) (xs : List Int) (hp : 0 ≤ p ∧ (p < many ∨ many = 0)) (hwd : 1 ≤ wd ∧ wd ≤ 16) (hlh : lo ≤ hi) (hl : -32768 ≤ lo ∧ hi ≤ 32767) (hm : 0 ≤ many ∧ many ≤ 1000) :
    Cg Go.Proofs.Tryz.prog T 21 [] [.agg (gcs wd lo hi out (.d (rowN ns))), .d (.i .i64 many), .d (.row [.i .i64 0] (xs.map intC))] (fun r H => ∃ fs, Fin18 wd lo hi many fs ∧ r = .own 2000 ∧ H = OWN18 fs p) := by
  refine Cg_of [2000, 5000] Tm Go.Proofs.Tryz.func21 rfl rfl Go.Proofs.Tryz.ntmps21 (by simp) rfl (rs := [.tmp 6]) rfl fun E hP hn hT hpn => ?_
  (repeat refine TS.imp ?_)
  refine TR.imp ?_; intro K hK; simp only [go_sem, hP, hn]; (repeat refine vc ?_); refine hK _ ?_; clear K hK
  (repeat refine TS.imp ?_)
  refine TR.imp ?_; intro K hK; simp only [go_sem, hP, hn]; (repeat refine vc ?_); refine hK _ ?_; clear K hK
  (repeat refine TS.imp ?_)
  refine TR.imp ?_; intro K hK; simp only [go_sem, hP, hn]; (repeat refine vc ?_); refine hK _ ?_; clear K hK
  (repeat refine TS.imp ?_)
  refine Tr.le (Le.nilslot 3007 7 22 [.nil] rfl (by rw [hpn] <;> rfl) rfl rfl) ?_
  simp only [go_sem, hP, hn]
  refine Tr.loop (fun q s => ∃ (i : Int) (F : List (List Int)) (O : Obj') (X : Hp), s = ⟨[(1, .d (.i .i64 many)), (2, .d (.row [.i .i64 0] (xs.map intC))), (3, .ptr 3 0), (7, .own 3007), (8, .d (.i .i64 i))], [(3, .box 28 (gcs wd lo hi out (.d (rowN ns)))), (3007, O)] ++ X⟩ ∧ 0 ≤ i ∧ i + q = many ∧ Fin18 wd lo hi i F ∧ ((i ≤ p ∧ O = .row 22 [.nil] (F.map frE) ∧ X = []) ∨ (p < i ∧ O = .rows 22 ((rwS (F.map frX)).set p.toNat (.own 5000)) ∧ X = [(5000, .row 3 [.i .i64 0] ((fr F p).map intC))]))) many.toNat ⟨_, ?_, 0, [], .row 22 [.nil] [], [], rfl, by omega, by omega, ⟨rfl, by simp, by simp⟩, .inl ⟨hp.1, rfl, rfl⟩⟩ ?_
  · exact (Le.mv (by simp only [go_sem, hP, hn]; first | done | (simp; done) | (simp [intC]; done) | (repeat (first | rfl | constructor))) (by simp only [go_sem, hP, hn]; first | done | (simp; done) | (simp [intC]; done) | (repeat (first | rfl | constructor))))
  rintro q s ⟨i, F, O, X, rfl, i0, iq, hF, hOX⟩
  have hF0 := hF.len
  have w1 : wrap64 (i + 1) = i + 1 := w64 (by omega) (by omega)
  rcases hOX with ⟨hip, rfl, rfl⟩ | ⟨hip, rfl, rfl⟩
 
  · rw [List.cons_append, List.cons_append, List.nil_append]
    (repeat refine TS.imp ?_)
    refine TR.imp ?_; intro K hK; simp only [go_sem, hP, hn]; (repeat refine vc ?_); refine hK _ ?_; clear K hK
    (repeat refine TS.imp ?_)
    refine Tr.cond rfl (fun hb => ?_) (fun hb => ?_)
    · have hi1 : i < many := of_decide_eq_true hb
      clear hb
      (repeat refine TS.imp ?_)
      refine TR.imp ?_; intro K hK; simp only [go_sem, hP, hn]; (repeat refine vc ?_); refine hK _ ?_; clear K hK
      (repeat refine TS.imp ?_)
      refine TR.imp ?_; intro K hK; simp only [go_sem, hP, hn]; (repeat refine vc ?_); refine hK _ ?_; clear K hK
      (repeat refine TS.imp ?_)
      refine Tr.loop (fun p1 s => ∃ (k : Int) (f : List Int), s = ⟨[(1, .d (.i .i64 many)), (2, .d (.row [.i .i64 0] (xs.map intC))), (3, .ptr 3 0), (7, .own 3007), (8, .d (.i .i64 i)), (9, .own 19), (10, .d (.i .i64 k))], [(3, .box 28 (gcs wd lo hi out (.d (rowN ns)))), (3007, .row 22 [.nil] (F.map frE)), (19, .row 3 [.i .i64 0] (f.map intC))]⟩ ∧ 0 ≤ k ∧ k + p1 = wd ∧ (f.length : Int) = wd ∧ ∀ x ∈ f.take k.toNat, lo ≤ x ∧ x ≤ hi) wd.toNat ⟨_, (Le.mv (by simp only [go_sem, hP, hn]; first | done | (simp; done) | (simp [intC]; done) | (repeat (first | rfl | constructor))) (by simp only [go_sem, hP, hn]; first | done | (simp; done) | (simp [intC]; done) | (repeat (first | rfl | constructor)))), 0, List.replicate wd.toNat 0, rfl, by omega, by omega, by simp; omega, by simp⟩ ?_
      rintro p1 s ⟨k, f, rfl, k0, kp, hf, hft⟩
      (repeat refine TS.imp ?_)
      refine TR.imp ?_; intro K hK; simp only [go_sem, hP, hn]; (repeat refine vc ?_); refine hK _ ?_; clear K hK
      (repeat refine TS.imp ?_)
      refine Tr.cond rfl (fun hc => ?_) (fun hc => ?_)
      · have hk1 : k < wd := of_decide_eq_true hc
        clear hc
        have w2 : wrap64 (k + 1) = k + 1 := w64 (by omega) (by omega)
        (repeat refine TS.imp ?_)
        refine TR.imp ?_; intro K hK; simp only [go_sem, hP, hn]; (repeat refine vc ?_); refine hK _ ?_; clear K hK
        (repeat refine TS.imp ?_)
        refine TR.imp ?_; intro K hK; simp only [go_sem, hP, hn]; (repeat refine vc ?_); refine hK _ ?_; clear K hK
        (repeat refine TS.imp ?_)
        have hfin : ∀ (g : List Int) (v : Int), (g.length : Int) = wd → g.take k.toNat = f.take k.toNat → lo ≤ v ∧ v ≤ hi → ∀ x ∈ (g.set k.toNat v).take (k + 1).toNat, lo ≤ x ∧ x ≤ hi := fun g v hg ht hv x hx => by
          rw [take_set k0 (by omega), ht] at hx
          rcases List.mem_append.1 hx with hx | hx
          · exact hft x hx
          · obtain rfl : x = v := by simpa using hx
            exact hv
        refine Tr.cond rfl (fun hd => ?_) (fun hd => ?_)
        · have hx : 0 < xs.length := by simpa using hd
          clear hd
          have g1 : wrap64 (i * wd) = i * wd := by
            have : i * wd ≤ 1000 * 16 := Int.mul_le_mul (by omega) (by omega) (by omega) (by omega)
            have : 0 ≤ i * wd := Int.mul_nonneg i0 (by omega)
            exact w64 (by omega) (by omega)
          have g0 : 0 ≤ i * wd := Int.mul_nonneg i0 (by omega)
          have g2 : i * wd ≤ 1000 * 16 := Int.mul_le_mul (by omega) (by omega) (by omega) (by omega)
          have g3 : wrap64 (i * wd + k) = i * wd + k := w64 (by omega) (by omega)
          have g4 := Int.tmod_nonneg (xs.length : Int) (show 0 ≤ i * wd + k by omega)
          have g5 := Int.tmod_lt_of_pos (i * wd + k) (show (0 : Int) < xs.length by omega)
          have g6 : wrap64 (wrap64 (hi - lo) + 1) ≠ 0 := by rw [w64 (x := hi - lo) (by omega) (by omega), w64 (by omega) (by omega)]; omega
          (repeat refine TS.imp ?_)
          refine TR.imp ?_; intro K hK; simp only [go_sem, hP, hn]; (repeat refine vc ?_); refine hK _ ?_; clear K hK
          (repeat refine TS.imp ?_)
          refine Tr.le (Le.keep [1, 2, 3, 7, 8, 9, 10, 11]) ?_; simp only [List.map_cons, List.map_nil, lk, Nat.reduceEqDiff, reduceIte]
          (repeat refine TS.imp ?_)
          refine d5 (.p true 0 (.p true 1 (.p true 2 (.p true 3 (.p true 4 (.p true 5 (.p true 6 (.p true 7 (.p true 8 (.p true 9 (.p true 10 (.p true 11 (.p true 12 (.p true 13 (.p true 14 (.p true 15 (.p true 16 (.p true 17 (.p true 18 (.p true 19 (.p true 20 (.p true 21 (.p true 22 (.p true 23 (.p true 24 (.p true 25 (.alt 26 .nil .nil))))))))))))))))))))))))))) [19] (by rw [hP]; kernel_rfl) (by kernel_rfl) (by simp only [go_sem, hP, hn]; try simp) (by exact fun _ _ h => h) ?_; intro K hK; simp only [go_sem, hP, hn]
          simp only [g1, g3]
          have hnum := num18 (x := rd xs (Int.tmod (i * wd + k) xs.length)) hlh hl (show 0 ≤ i ∧ i ≤ 1000 by omega)
          generalize wrap64 (wrap64 (hi - lo) + 1) = m at *
          generalize Int.tmod (i * wd + k) xs.length = ix at *
          clear g1 g2 g3 g0
          have k2 : k.toNat < f.length := by omega
          (repeat (refine ⟨by first | trivial | omega, ?_⟩))
          refine hK _ ?_; clear K hK
          (repeat refine TS.imp ?_)
          refine TR.imp ?_; intro K hK; simp only [w2, go_sem, hP, hn]; (repeat refine vc ?_); refine hK _ ?_; clear K hK
          (repeat refine TS.imp ?_)
          exact ⟨p1 - 1, _, by omega, (Le.mv (by simp only [go_sem, hP, hn]; first | done | (simp; done) | (simp [intC]; done) | (repeat (first | rfl | constructor))) (by simp only [go_sem, hP, hn]; first | done | (simp; done) | (simp [intC]; done) | (repeat (first | rfl | constructor)))), k + 1, _, rfl, by omega, by omega, by simp [hf], hfin (f.set k.toNat lo) _ (by simp [hf]) (by rw [List.take_set_of_le (Nat.le_refl _)]) hnum⟩
        · (repeat refine TS.imp ?_)
          refine TR.imp ?_; intro K hK; simp only [w2, go_sem, hP, hn]; (repeat refine vc ?_); refine hK _ ?_; clear K hK
          (repeat refine TS.imp ?_)
          exact ⟨p1 - 1, _, by omega, (Le.mv (by simp only [go_sem, hP, hn]; first | done | (simp; done) | (simp [intC]; done) | (repeat (first | rfl | constructor))) (by simp only [go_sem, hP, hn]; first | done | (simp; done) | (simp [intC]; done) | (repeat (first | rfl | constructor)))), k + 1, _, rfl, by omega, by omega, by simp [hf], hfin f lo hf rfl ⟨Int.le_refl _, hlh⟩⟩
      · have hk : k = wd := by have := of_decide_eq_false hc; omega
        clear hc
        rw [List.take_of_length_le (by omega)] at hft
        have hFn : Fin18 wd lo hi (i + 1) (F ++ [f]) := ⟨by simp; omega, fun g hg => by
          rcases List.mem_append.1 hg with hg | hg
          · exact hF.wid g hg
          · obtain rfl : g = f := by simpa using hg
            exact hf, fun g hg => by
          rcases List.mem_append.1 hg with hg | hg
          · exact hF.num g hg
          · obtain rfl : g = f := by simpa using hg
            exact hft⟩
        have hF1 : F.length ≤ 1000 := by omega
        rcases Int.lt_trichotomy i p with hlt | heq | hgt
        · first
            | (exfalso; omega)
            | ((repeat refine TS.imp ?_)
               refine TR.imp ?_; intro K hK; simp only [go_sem, hP, hn]; (repeat refine vc ?_); refine hK _ ?_; clear K hK
               (repeat refine TS.imp ?_)
               refine TR.imp ?_; intro K hK; simp only [w1, go_sem, hP, hn]; (repeat refine vc ?_); refine hK _ ?_; clear K hK
               (repeat refine TS.imp ?_)
               refine ⟨q - 1, _, by omega, ?_, i + 1, F ++ [f], _, _, rfl, by omega, by omega, hFn, .inl ⟨by omega, rfl, rfl⟩⟩
               refine Le.trans (b := ⟨[(1, .d (.i .i64 many)), (2, .d (.row [.i .i64 0] (xs.map intC))), (3, .ptr 3 0), (7, .own 69), (8, .d (.i .i64 (i + 1)))], [(3, .box 28 (gcs wd lo hi out (.d (rowN ns)))), (69, .row 22 [.nil] ((F ++ [f]).map frE))]⟩) ?_ ?_
               · rw [List.map_append (l₁ := F)]
                 exact (Le.mv (by simp only [go_sem, hP, hn]; first | done | (simp; done) | (simp [intC]; done) | (repeat (first | rfl | constructor))) (by simp only [go_sem, hP, hn]; first | done | (simp; done) | (simp [intC]; done) | (repeat (first | rfl | constructor))))
               refine Le.trans (Le.ren 69 3007 (by rw [hpn] <;> rfl) rfl rfl) ?_; simp only [renT, renH, renO, renS, renL, rn, go_sem, hP, hn]
               exact Le.refl _)
        · first
            | (exfalso; omega)
            | (have hpl : p.toNat = F.length := by omega
               have hfp : fr (F ++ [f]) p = f := by
                 unfold fr
                 rw [hpl]; simp
               refine Tr.le (Le.rows 3007 (F.map frX) (by rw [frE_X]; rfl) rfl) ?_
               simp only [go_sem, hP, hn]
               refine Tr.le (Le.ren 19 5000 (by rw [hpn] <;> rfl) rfl (by simp [freeH, closedO, hasL_set, hasL_rwS, k1, S.hasL, S.has, go_sem])) ?_; simp only [renT, renH, renO, renS, renL, rn, go_sem, hP, hn]
               (repeat refine TS.imp ?_)
               refine TR.imp ?_; intro K hK; simp only [go_sem, hP, hn]; (repeat refine vc ?_); refine hK _ ?_; clear K hK
               (repeat refine TS.imp ?_)
               refine TR.imp ?_; intro K hK; simp only [w1, go_sem, hP, hn]; (repeat refine vc ?_); refine hK _ ?_; clear K hK
               (repeat refine TS.imp ?_)
               refine ⟨q - 1, _, by omega, ?_, i + 1, F ++ [f], _, _, rfl, by omega, by omega, hFn, .inr ⟨by omega, rfl, rfl⟩⟩
               refine Le.trans (b := ⟨[(1, .d (.i .i64 many)), (2, .d (.row [.i .i64 0] (xs.map intC))), (3, .ptr 3 0), (7, .own 69), (8, .d (.i .i64 (i + 1)))], [(3, .box 28 (gcs wd lo hi out (.d (rowN ns)))), (69, .rows 22 ((rwS ((F ++ [f]).map frX)).set p.toNat (.own 5000))), (5000, .row 3 [.i .i64 0] ((fr (F ++ [f]) p).map intC))]⟩) ?_ ?_
               · rw [← rw_at hpl, hfp]
                 exact (Le.mv (by simp only [go_sem, hP, hn]; first | done | (simp; done) | (simp [intC]; done) | (repeat (first | rfl | constructor))) (by simp only [go_sem, hP, hn]; first | done | (simp; done) | (simp [intC]; done) | (repeat (first | rfl | constructor))))
               refine Le.trans (Le.ren 69 3007 (by rw [hpn] <;> rfl) rfl (by simp [freeH, closedO, hasL_set, hasL_rwS, k1, S.hasL, S.has, go_sem])) ?_; simp only [renT, renH, renO, renS, renL, rn, go_sem, hP, hn]
               exact Le.refl _)
        · first
            | (exfalso; omega)
            | (have hpl : p.toNat < F.length := by omega
               have hfp : fr (F ++ [f]) p = fr F p := by
                 unfold fr
                 rw [List.getD_eq_getElem?_getD, List.getD_eq_getElem?_getD, List.getElem?_append_left hpl]
               (repeat refine TS.imp ?_)
               refine TR.imp ?_; intro K hK; simp only [go_sem, hP, hn]; (repeat refine vc ?_); refine hK _ ?_; clear K hK
               (repeat refine TS.imp ?_)
               refine TR.imp ?_; intro K hK; simp only [w1, go_sem, hP, hn]; (repeat refine vc ?_); refine hK _ ?_; clear K hK
               (repeat refine TS.imp ?_)
               refine ⟨q - 1, _, by omega, ?_, i + 1, F ++ [f], _, _, rfl, by omega, by omega, hFn, .inr ⟨by omega, rfl, rfl⟩⟩
               refine Le.trans (b := ⟨[(1, .d (.i .i64 many)), (2, .d (.row [.i .i64 0] (xs.map intC))), (3, .ptr 3 0), (7, .own 69), (8, .d (.i .i64 (i + 1)))], [(3, .box 28 (gcs wd lo hi out (.d (rowN ns)))), (69, .rows 22 ((rwS ((F ++ [f]).map frX)).set p.toNat (.own 5000))), (5000, .row 3 [.i .i64 0] ((fr (F ++ [f]) p).map intC))]⟩) ?_ ?_
               · rw [← rw_on hpl, hfp]
                 exact (Le.mv (by simp only [go_sem, hP, hn]; first | done | (simp; done) | (simp [intC]; done) | (repeat (first | rfl | constructor))) (by simp only [go_sem, hP, hn]; first | done | (simp; done) | (simp [intC]; done) | (repeat (first | rfl | constructor))))
               refine Le.trans (Le.ren 69 3007 (by rw [hpn] <;> rfl) rfl (by simp [freeH, closedO, hasL_set, hasL_rwS, k1, S.hasL, S.has, go_sem])) ?_; simp only [renT, renH, renO, renS, renL, rn, go_sem, hP, hn]
               exact Le.refl _)
    · have hi1 : i = many := by have := of_decide_eq_false hb; omega
      subst hi1
      clear hb
      first
        | (have hm0 : i = 0 := by omega
           have hF1 : F = [] := List.eq_nil_of_length_eq_zero (by omega)
           subst hF1
           refine Tr.le (Le.rows 3007 [] rfl rfl) ?_
           simp only [go_sem, hP, hn]
           refine Tr.le (Le.fresh 5000 3 [.i .i64 0] (by rw [hpn] <;> rfl) rfl (by simp [freeH, closedO, hasL_set, hasL_rwS, k1, S.hasL, S.has, go_sem])) ?_
           simp only [go_sem, hP, hn]
           refine Tr.le (Le.ren 3007 2000 (by rw [hpn] <;> rfl) rfl (by simp [freeH, closedO, hasL_set, hasL_rwS, k1, S.hasL, S.has, go_sem])) ?_; simp only [renT, renH, renO, renS, renL, rn, go_sem, hP, hn]
           refine Tr.le (s' := ⟨[(7, .own 2000)], OWN18 [] p⟩) (Le.mv (by simp only [go_sem, hP, hn]; first | done | (simp; done) | (simp [intC]; done) | (repeat (first | rfl | constructor))) (by simp only [go_sem, hP, hn]; first | done | (simp; done) | (simp [intC]; done) | (repeat (first | rfl | constructor)))) ?_
           unfold OWN18
           (repeat refine TS.imp ?_)
           refine TR.imp ?_; intro K hK; simp only [go_sem, hP, hn]; (repeat refine vc ?_); refine hK _ ?_; clear K hK
           (repeat refine TS.imp ?_)
           simp only [RetG, go_sem]; (repeat with_reducible refine vc ?_)
           exact ⟨[], hF, rfl⟩)
        | (refine Tr.le (Le.ren 3007 2000 (by rw [hpn] <;> rfl) rfl (by simp [freeH, closedO, hasL_set, hasL_rwS, k1, S.hasL, S.has, go_sem])) ?_; simp only [renT, renH, renO, renS, renL, rn, go_sem, hP, hn]
           (repeat refine TS.imp ?_)
           refine TR.imp ?_; intro K hK; simp only [go_sem, hP, hn]; (repeat refine vc ?_); refine hK _ ?_; clear K hK
           (repeat refine TS.imp ?_)
           simp only [RetG, go_sem]; (repeat with_reducible refine vc ?_)
           exact ⟨F, hF, rfl⟩)
 
  · rw [List.cons_append, List.cons_append, List.nil_append]
    (repeat refine TS.imp ?_)
    refine TR.imp ?_; intro K hK; simp only [go_sem, hP, hn]; (repeat refine vc ?_); refine hK _ ?_; clear K hK
    (repeat refine TS.imp ?_)
    refine Tr.cond rfl (fun hb => ?_) (fun hb => ?_)
    · have hi1 : i < many := of_decide_eq_true hb
      clear hb
      (repeat refine TS.imp ?_)
      refine TR.imp ?_; intro K hK; simp only [go_sem, hP, hn]; (repeat refine vc ?_); refine hK _ ?_; clear K hK
      (repeat refine TS.imp ?_)
      refine TR.imp ?_; intro K hK; simp only [go_sem, hP, hn]; (repeat refine vc ?_); refine hK _ ?_; clear K hK
      (repeat refine TS.imp ?_)
      refine Tr.loop (fun p1 s => ∃ (k : Int) (f : List Int), s = ⟨[(1, .d (.i .i64 many)), (2, .d (.row [.i .i64 0] (xs.map intC))), (3, .ptr 3 0), (7, .own 3007), (8, .d (.i .i64 i)), (9, .own 19), (10, .d (.i .i64 k))], [(3, .box 28 (gcs wd lo hi out (.d (rowN ns)))), (3007, .rows 22 ((rwS (F.map frX)).set p.toNat (.own 5000))), (5000, .row 3 [.i .i64 0] ((fr F p).map intC)), (19, .row 3 [.i .i64 0] (f.map intC))]⟩ ∧ 0 ≤ k ∧ k + p1 = wd ∧ (f.length : Int) = wd ∧ ∀ x ∈ f.take k.toNat, lo ≤ x ∧ x ≤ hi) wd.toNat ⟨_, (Le.mv (by simp only [go_sem, hP, hn]; first | done | (simp; done) | (simp [intC]; done) | (repeat (first | rfl | constructor))) (by simp only [go_sem, hP, hn]; first | done | (simp; done) | (simp [intC]; done) | (repeat (first | rfl | constructor)))), 0, List.replicate wd.toNat 0, rfl, by omega, by omega, by simp; omega, by simp⟩ ?_
      rintro p1 s ⟨k, f, rfl, k0, kp, hf, hft⟩
      (repeat refine TS.imp ?_)
      refine TR.imp ?_; intro K hK; simp only [go_sem, hP, hn]; (repeat refine vc ?_); refine hK _ ?_; clear K hK
      (repeat refine TS.imp ?_)
      refine Tr.cond rfl (fun hc => ?_) (fun hc => ?_)
      · have hk1 : k < wd := of_decide_eq_true hc
        clear hc
        have w2 : wrap64 (k + 1) = k + 1 := w64 (by omega) (by omega)
        (repeat refine TS.imp ?_)
        refine TR.imp ?_; intro K hK; simp only [go_sem, hP, hn]; (repeat refine vc ?_); refine hK _ ?_; clear K hK
        (repeat refine TS.imp ?_)
        refine TR.imp ?_; intro K hK; simp only [go_sem, hP, hn]; (repeat refine vc ?_); refine hK _ ?_; clear K hK
        (repeat refine TS.imp ?_)
        have hfin : ∀ (g : List Int) (v : Int), (g.length : Int) = wd → g.take k.toNat = f.take k.toNat → lo ≤ v ∧ v ≤ hi → ∀ x ∈ (g.set k.toNat v).take (k + 1).toNat, lo ≤ x ∧ x ≤ hi := fun g v hg ht hv x hx => by
          rw [take_set k0 (by omega), ht] at hx
          rcases List.mem_append.1 hx with hx | hx
          · exact hft x hx
          · obtain rfl : x = v := by simpa using hx
            exact hv
        refine Tr.cond rfl (fun hd => ?_) (fun hd => ?_)
        · have hx : 0 < xs.length := by simpa using hd
          clear hd
          have g1 : wrap64 (i * wd) = i * wd := by
            have : i * wd ≤ 1000 * 16 := Int.mul_le_mul (by omega) (by omega) (by omega) (by omega)
            have : 0 ≤ i * wd := Int.mul_nonneg i0 (by omega)
            exact w64 (by omega) (by omega)
          have g0 : 0 ≤ i * wd := Int.mul_nonneg i0 (by omega)
          have g2 : i * wd ≤ 1000 * 16 := Int.mul_le_mul (by omega) (by omega) (by omega) (by omega)
          have g3 : wrap64 (i * wd + k) = i * wd + k := w64 (by omega) (by omega)
          have g4 := Int.tmod_nonneg (xs.length : Int) (show 0 ≤ i * wd + k by omega)
          have g5 := Int.tmod_lt_of_pos (i * wd + k) (show (0 : Int) < xs.length by omega)
          have g6 : wrap64 (wrap64 (hi - lo) + 1) ≠ 0 := by rw [w64 (x := hi - lo) (by omega) (by omega), w64 (by omega) (by omega)]; omega
          (repeat refine TS.imp ?_)
          refine TR.imp ?_; intro K hK; simp only [go_sem, hP, hn]; (repeat refine vc ?_); refine hK _ ?_; clear K hK
          (repeat refine TS.imp ?_)
          refine Tr.le (Le.keep [1, 2, 3, 7, 8, 9, 10, 11]) ?_; simp only [List.map_cons, List.map_nil, lk, Nat.reduceEqDiff, reduceIte]
          (repeat refine TS.imp ?_)
          refine d5 (.p true 0 (.p true 1 (.p true 2 (.p true 3 (.p true 4 (.p true 5 (.p true 6 (.p true 7 (.p true 8 (.p true 9 (.p true 10 (.p true 11 (.p true 12 (.p true 13 (.p true 14 (.p true 15 (.p true 16 (.p true 17 (.p true 18 (.p true 19 (.p true 20 (.p true 21 (.p true 22 (.p true 23 (.p true 24 (.p true 25 (.alt 26 .nil .nil))))))))))))))))))))))))))) [19] (by rw [hP]; kernel_rfl) (by kernel_rfl) (by simp only [go_sem, hP, hn]; try simp) (by exact fun _ _ h => h) ?_; intro K hK; simp only [go_sem, hP, hn]
          simp only [g1, g3]
          have hnum := num18 (x := rd xs (Int.tmod (i * wd + k) xs.length)) hlh hl (show 0 ≤ i ∧ i ≤ 1000 by omega)
          generalize wrap64 (wrap64 (hi - lo) + 1) = m at *
          generalize Int.tmod (i * wd + k) xs.length = ix at *
          clear g1 g2 g3 g0
          have k2 : k.toNat < f.length := by omega
          (repeat (refine ⟨by first | trivial | omega, ?_⟩))
          refine hK _ ?_; clear K hK
          (repeat refine TS.imp ?_)
          refine TR.imp ?_; intro K hK; simp only [w2, go_sem, hP, hn]; (repeat refine vc ?_); refine hK _ ?_; clear K hK
          (repeat refine TS.imp ?_)
          exact ⟨p1 - 1, _, by omega, (Le.mv (by simp only [go_sem, hP, hn]; first | done | (simp; done) | (simp [intC]; done) | (repeat (first | rfl | constructor))) (by simp only [go_sem, hP, hn]; first | done | (simp; done) | (simp [intC]; done) | (repeat (first | rfl | constructor)))), k + 1, _, rfl, by omega, by omega, by simp [hf], hfin (f.set k.toNat lo) _ (by simp [hf]) (by rw [List.take_set_of_le (Nat.le_refl _)]) hnum⟩
        · (repeat refine TS.imp ?_)
          refine TR.imp ?_; intro K hK; simp only [w2, go_sem, hP, hn]; (repeat refine vc ?_); refine hK _ ?_; clear K hK
          (repeat refine TS.imp ?_)
          exact ⟨p1 - 1, _, by omega, (Le.mv (by simp only [go_sem, hP, hn]; first | done | (simp; done) | (simp [intC]; done) | (repeat (first | rfl | constructor))) (by simp only [go_sem, hP, hn]; first | done | (simp; done) | (simp [intC]; done) | (repeat (first | rfl | constructor)))), k + 1, _, rfl, by omega, by omega, by simp [hf], hfin f lo hf rfl ⟨Int.le_refl _, hlh⟩⟩
      · have hk : k = wd := by have := of_decide_eq_false hc; omega
        clear hc
        rw [List.take_of_length_le (by omega)] at hft
        have hFn : Fin18 wd lo hi (i + 1) (F ++ [f]) := ⟨by simp; omega, fun g hg => by
          rcases List.mem_append.1 hg with hg | hg
          · exact hF.wid g hg
          · obtain rfl : g = f := by simpa using hg
            exact hf, fun g hg => by
          rcases List.mem_append.1 hg with hg | hg
          · exact hF.num g hg
          · obtain rfl : g = f := by simpa using hg
            exact hft⟩
        have hF1 : F.length ≤ 1000 := by omega
        rcases Int.lt_trichotomy i p with hlt | heq | hgt
        · first
            | (exfalso; omega)
            | ((repeat refine TS.imp ?_)
               refine TR.imp ?_; intro K hK; simp only [go_sem, hP, hn]; (repeat refine vc ?_); refine hK _ ?_; clear K hK
               (repeat refine TS.imp ?_)
               refine TR.imp ?_; intro K hK; simp only [w1, go_sem, hP, hn]; (repeat refine vc ?_); refine hK _ ?_; clear K hK
               (repeat refine TS.imp ?_)
               refine ⟨q - 1, _, by omega, ?_, i + 1, F ++ [f], _, _, rfl, by omega, by omega, hFn, .inl ⟨by omega, rfl, rfl⟩⟩
               refine Le.trans (b := ⟨[(1, .d (.i .i64 many)), (2, .d (.row [.i .i64 0] (xs.map intC))), (3, .ptr 3 0), (7, .own 69), (8, .d (.i .i64 (i + 1)))], [(3, .box 28 (gcs wd lo hi out (.d (rowN ns)))), (69, .row 22 [.nil] ((F ++ [f]).map frE))]⟩) ?_ ?_
               · rw [List.map_append (l₁ := F)]
                 exact (Le.mv (by simp only [go_sem, hP, hn]; first | done | (simp; done) | (simp [intC]; done) | (repeat (first | rfl | constructor))) (by simp only [go_sem, hP, hn]; first | done | (simp; done) | (simp [intC]; done) | (repeat (first | rfl | constructor))))
               refine Le.trans (Le.ren 69 3007 (by rw [hpn] <;> rfl) rfl rfl) ?_; simp only [renT, renH, renO, renS, renL, rn, go_sem, hP, hn]
               exact Le.refl _)
        · first
            | (exfalso; omega)
            | (have hpl : p.toNat = F.length := by omega
               have hfp : fr (F ++ [f]) p = f := by
                 unfold fr
                 rw [hpl]; simp
               refine Tr.le (Le.rows 3007 (F.map frX) (by rw [frE_X]; rfl) rfl) ?_
               simp only [go_sem, hP, hn]
               refine Tr.le (Le.ren 19 5000 (by rw [hpn] <;> rfl) rfl (by simp [freeH, closedO, hasL_set, hasL_rwS, k1, S.hasL, S.has, go_sem])) ?_; simp only [renT, renH, renO, renS, renL, rn, go_sem, hP, hn]
               (repeat refine TS.imp ?_)
               refine TR.imp ?_; intro K hK; simp only [go_sem, hP, hn]; (repeat refine vc ?_); refine hK _ ?_; clear K hK
               (repeat refine TS.imp ?_)
               refine TR.imp ?_; intro K hK; simp only [w1, go_sem, hP, hn]; (repeat refine vc ?_); refine hK _ ?_; clear K hK
               (repeat refine TS.imp ?_)
               refine ⟨q - 1, _, by omega, ?_, i + 1, F ++ [f], _, _, rfl, by omega, by omega, hFn, .inr ⟨by omega, rfl, rfl⟩⟩
               refine Le.trans (b := ⟨[(1, .d (.i .i64 many)), (2, .d (.row [.i .i64 0] (xs.map intC))), (3, .ptr 3 0), (7, .own 69), (8, .d (.i .i64 (i + 1)))], [(3, .box 28 (gcs wd lo hi out (.d (rowN ns)))), (69, .rows 22 ((rwS ((F ++ [f]).map frX)).set p.toNat (.own 5000))), (5000, .row 3 [.i .i64 0] ((fr (F ++ [f]) p).map intC))]⟩) ?_ ?_
               · rw [← rw_at hpl, hfp]
                 exact (Le.mv (by simp only [go_sem, hP, hn]; first | done | (simp; done) | (simp [intC]; done) | (repeat (first | rfl | constructor))) (by simp only [go_sem, hP, hn]; first | done | (simp; done) | (simp [intC]; done) | (repeat (first | rfl | constructor))))
               refine Le.trans (Le.ren 69 3007 (by rw [hpn] <;> rfl) rfl (by simp [freeH, closedO, hasL_set, hasL_rwS, k1, S.hasL, S.has, go_sem])) ?_; simp only [renT, renH, renO, renS, renL, rn, go_sem, hP, hn]
               exact Le.refl _)
        · first
            | (exfalso; omega)
            | (have hpl : p.toNat < F.length := by omega
               have hfp : fr (F ++ [f]) p = fr F p := by
                 unfold fr
                 rw [List.getD_eq_getElem?_getD, List.getD_eq_getElem?_getD, List.getElem?_append_left hpl]
               (repeat refine TS.imp ?_)
               refine TR.imp ?_; intro K hK; simp only [go_sem, hP, hn]; (repeat refine vc ?_); refine hK _ ?_; clear K hK
               (repeat refine TS.imp ?_)
               refine TR.imp ?_; intro K hK; simp only [w1, go_sem, hP, hn]; (repeat refine vc ?_); refine hK _ ?_; clear K hK
               (repeat refine TS.imp ?_)
               refine ⟨q - 1, _, by omega, ?_, i + 1, F ++ [f], _, _, rfl, by omega, by omega, hFn, .inr ⟨by omega, rfl, rfl⟩⟩
               refine Le.trans (b := ⟨[(1, .d (.i .i64 many)), (2, .d (.row [.i .i64 0] (xs.map intC))), (3, .ptr 3 0), (7, .own 69), (8, .d (.i .i64 (i + 1)))], [(3, .box 28 (gcs wd lo hi out (.d (rowN ns)))), (69, .rows 22 ((rwS ((F ++ [f]).map frX)).set p.toNat (.own 5000))), (5000, .row 3 [.i .i64 0] ((fr (F ++ [f]) p).map intC))]⟩) ?_ ?_
               · rw [← rw_on hpl, hfp]
                 exact (Le.mv (by simp only [go_sem, hP, hn]; first | done | (simp; done) | (simp [intC]; done) | (repeat (first | rfl | constructor))) (by simp only [go_sem, hP, hn]; first | done | (simp; done) | (simp [intC]; done) | (repeat (first | rfl | constructor))))
               refine Le.trans (Le.ren 69 3007 (by rw [hpn] <;> rfl) rfl (by simp [freeH, closedO, hasL_set, hasL_rwS, k1, S.hasL, S.has, go_sem])) ?_; simp only [renT, renH, renO, renS, renL, rn, go_sem, hP, hn]
               exact Le.refl _)
    · have hi1 : i = many := by have := of_decide_eq_false hb; omega
      subst hi1
      clear hb
      first
        | (have hm0 : i = 0 := by omega
           have hF1 : F = [] := List.eq_nil_of_length_eq_zero (by omega)
           subst hF1
           refine Tr.le (Le.rows 3007 [] rfl rfl) ?_
           simp only [go_sem, hP, hn]
           refine Tr.le (Le.fresh 5000 3 [.i .i64 0] (by rw [hpn] <;> rfl) rfl (by simp [freeH, closedO, hasL_set, hasL_rwS, k1, S.hasL, S.has, go_sem])) ?_
           simp only [go_sem, hP, hn]
           refine Tr.le (Le.ren 3007 2000 (by rw [hpn] <;> rfl) rfl (by simp [freeH, closedO, hasL_set, hasL_rwS, k1, S.hasL, S.has, go_sem])) ?_; simp only [renT, renH, renO, renS, renL, rn, go_sem, hP, hn]
           refine Tr.le (s' := ⟨[(7, .own 2000)], OWN18 [] p⟩) (Le.mv (by simp only [go_sem, hP, hn]; first | done | (simp; done) | (simp [intC]; done) | (repeat (first | rfl | constructor))) (by simp only [go_sem, hP, hn]; first | done | (simp; done) | (simp [intC]; done) | (repeat (first | rfl | constructor)))) ?_
           unfold OWN18
           (repeat refine TS.imp ?_)
           refine TR.imp ?_; intro K hK; simp only [go_sem, hP, hn]; (repeat refine vc ?_); refine hK _ ?_; clear K hK
           (repeat refine TS.imp ?_)
           simp only [RetG, go_sem]; (repeat with_reducible refine vc ?_)
           exact ⟨[], hF, rfl⟩)
        | (refine Tr.le (Le.ren 3007 2000 (by rw [hpn] <;> rfl) rfl (by simp [freeH, closedO, hasL_set, hasL_rwS, k1, S.hasL, S.has, go_sem])) ?_; simp only [renT, renH, renO, renS, renL, rn, go_sem, hP, hn]
           (repeat refine TS.imp ?_)
           refine TR.imp ?_; intro K hK; simp only [go_sem, hP, hn]; (repeat refine vc ?_); refine hK _ ?_; clear K hK
           (repeat refine TS.imp ?_)
           simp only [RetG, go_sem]; (repeat with_reducible refine vc ?_)
           exact ⟨F, hF, rfl⟩)
end
section
attribute [local go_sem] frD
theorem drop_fr {l : List (List Int)} {j : Int} (h0 : 0 ≤ j) (h1 : j < l.length) : l.drop j.toNat = fr l j :: l.drop (j + 1).toNat := by
  have hj : j.toNat < l.length := by omega
  rw [List.drop_eq_getElem_cons hj, show (j + 1).toNat = j.toNat + 1 by omega]
  unfold fr
  simp [List.getD, hj]
theorem drop_rdl {l : List Int} {j : Int} (h0 : 0 ≤ j) (h1 : j < l.length) : l.drop j.toNat = rd l j :: l.drop (j + 1).toNat := by
  have hj : j.toNat < l.length := by omega
  rw [List.drop_eq_getElem_cons hj, show (j + 1).toNat = j.toNat + 1 by omega]
  unfold rd
  simp [List.getD, hj]
theorem Same18_c {T : World → Prop} (Tm : TP T) (a b : List (List Int)) (hl : a.length ≤ 65536) (hf : ∀ f ∈ a, f.length ≤ 65536) : Ct Go.Proofs.Tryz.prog T 10 [.d (frD a), .d (frD b)] true (fun r => r = .d (.b (decide (a = b)))) := by
  refine Ct_of Tm Go.Proofs.Tryz.func10 rfl rfl Go.Proofs.Tryz.ntmps10 (by simp) (rs := [.tmp 4]) rfl fun E hP hn hT => ?_
  (repeat refine TS.imp ?_)
  refine TR.imp ?_; intro K hK; simp only [go_sem, hP, hn]; (repeat refine vc ?_); refine hK _ ?_; clear K hK
  (repeat refine TS.imp ?_)
  refine TR.imp ?_; intro K hK; simp only [go_sem, hP, hn]; (repeat refine vc ?_); refine hK _ ?_; clear K hK
  (repeat refine TS.imp ?_)
  refine Tr.cond rfl (fun hb => ?_) (fun hb => ?_)
  · (repeat (first | (refine TR.imp ?_; intro K hK; simp only [go_sem, hP, hn]; (repeat refine vc ?_); refine hK _ ?_; clear K hK) | refine TS.imp ?_))
    simp only [RetQ, go_sem]
    have : ¬ a = b := fun e => by subst e; simp at hb
    simp [this]
  have hlen : a.length = b.length := by simp at hb; omega
  clear hb
  (repeat refine TS.imp ?_)
  refine TR.imp ?_; intro K hK; simp only [go_sem, hP, hn]; (repeat refine vc ?_); refine hK _ ?_; clear K hK
  (repeat refine TS.imp ?_)
  refine Tr.loop (fun q s => ∃ i : Int, s = ⟨[(0, .d (frD a)), (1, .d (frD b)), (5, .d (.i .i64 i))], []⟩ ∧ 0 ≤ i ∧ i + q = a.length ∧ (a = b ↔ a.drop i.toNat = b.drop i.toNat)) a.length ⟨_, (Le.mv (by simp only [go_sem, hP, hn]; first | done | (simp; done) | (simp [intC]; done) | (repeat (first | rfl | constructor))) (by simp only [go_sem, hP, hn]; first | done | (simp; done) | (simp [intC]; done) | (repeat (first | rfl | constructor)))), 0, rfl, by omega, by omega, by simp⟩ ?_
  rintro q s ⟨i, rfl, i0, iq, hd⟩
  (repeat refine TS.imp ?_)
  refine TR.imp ?_; intro K hK; simp only [go_sem, hP, hn]; (repeat refine vc ?_); refine hK _ ?_; clear K hK
  (repeat refine TS.imp ?_)
  refine Tr.cond rfl (fun hb => ?_) (fun hb => ?_)
  · have hi : i < a.length := by simpa using hb
    have hi2 : i < b.length := by omega
    clear hb
    have ra := rw_fr a i i0 hi
    have rb := rw_fr b i i0 hi2
    have hfl := hf _ (fr_mem i0 hi)
    rw [drop_fr i0 hi, drop_fr i0 hi2] at hd
    have w1 : wrap64 (i + 1) = i + 1 := w64 (by omega) (by omega)
    (repeat refine TS.imp ?_)
    refine d5 (.p true 0 (.p true 1 (.p true 2 (.p true 3 (.p true 4 (.p true 5 (.p true 6 (.p true 7 (.p true 8 (.p true 9 (.p true 10 .nil))))))))))) [] (by rw [hP]; kernel_rfl) (by kernel_rfl) (by simp only [go_sem, hP, hn]; try simp) (by exact fun _ _ h => h) ?_; intro K hK; simp only [go_sem, hP, hn]
    rw [ra, rb]
    simp only [go_sem, hP, hn]
    (repeat refine vc ?_)
    refine hK _ ?_; clear K hK
    (repeat refine TS.imp ?_)
    generalize hfa : fr a i = f at *
    generalize hfb : fr b i = g at *
    refine Tr.cond rfl (fun hc => ?_) (fun hc => ?_)
    · (repeat (first | (refine TR.imp ?_; intro K hK; simp only [go_sem, hP, hn]; (repeat refine vc ?_); refine hK _ ?_; clear K hK) | refine TS.imp ?_))
      simp only [RetQ, go_sem]
      have : ¬ a = b := fun e => by
        have := (List.cons.inj (hd.1 e)).1
        subst this; simp at hc
      simp [this]
    have hfg : f.length = g.length := by simp at hc; omega
    clear hc
    (repeat refine TS.imp ?_)
    refine TR.imp ?_; intro K hK; simp only [go_sem, hP, hn]; (repeat refine vc ?_); refine hK _ ?_; clear K hK
    (repeat refine TS.imp ?_)
    refine Tr.loop (fun p s => ∃ k : Int, s = ⟨[(0, .d (frD a)), (1, .d (frD b)), (5, .d (.i .i64 i)), (6, .d (.i .i64 k))], []⟩ ∧ 0 ≤ k ∧ k + p = f.length ∧ (f = g ↔ f.drop k.toNat = g.drop k.toNat)) f.length ⟨_, (Le.mv (by simp only [go_sem, hP, hn]; first | done | (simp; done) | (simp [intC]; done) | (repeat (first | rfl | constructor))) (by simp only [go_sem, hP, hn]; first | done | (simp; done) | (simp [intC]; done) | (repeat (first | rfl | constructor)))), 0, rfl, by omega, by omega, by simp⟩ ?_
    rintro p s ⟨k, rfl, k0, kp, hk⟩
    (repeat refine TS.imp ?_)
    refine TR.imp ?_; intro K hK; simp only [go_sem, hP, hn]
    rw [ra]
    simp only [go_sem, hP, hn]
    (repeat refine vc ?_)
    refine hK _ ?_; clear K hK
    (repeat refine TS.imp ?_)
    refine Tr.cond rfl (fun hc => ?_) (fun hc => ?_)
    · have hk1 : k < f.length := by simpa using hc
      have hk2 : k < g.length := by omega
      clear hc
      rw [drop_rdl k0 hk1, drop_rdl k0 hk2] at hk
      have w2 : wrap64 (k + 1) = k + 1 := w64 (by omega) (by omega)
      (repeat refine TS.imp ?_)
      refine d5 (.p true 0 (.p true 1 (.p true 2 (.p true 3 (.p true 4 (.p true 5 (.p true 6 (.p true 7 (.p true 8 (.p true 9 (.p true 10 (.p true 11 (.p true 12 (.p true 13 (.p true 14 .nil))))))))))))))) [] (by rw [hP]; kernel_rfl) (by kernel_rfl) (by simp only [go_sem, hP, hn]; try simp) (by exact fun _ _ h => h) ?_; intro K hK; simp only [go_sem, hP, hn]
      rw [ra, rb]
      simp only [go_sem, hP, hn]
      (repeat refine vc ?_)
      refine hK _ ?_; clear K hK
      (repeat refine TS.imp ?_)
      refine Tr.cond rfl (fun hx => ?_) (fun hx => ?_)
      · (repeat (first | (refine TR.imp ?_; intro K hK; simp only [go_sem, hP, hn]; (repeat refine vc ?_); refine hK _ ?_; clear K hK) | refine TS.imp ?_))
        simp only [RetQ, go_sem]
        have h1 : ¬ f = g := fun e => by
          have := (List.cons.inj (hk.1 e)).1
          rw [this] at hx; simp at hx
        have : ¬ a = b := fun e => h1 (List.cons.inj (hd.1 e)).1
        simp [this]
      have hx1 : rd f k = rd g k := by simpa using hx
      (repeat refine TS.imp ?_)
      refine TR.imp ?_; intro K hK; simp only [w2, go_sem, hP, hn]; (repeat refine vc ?_); refine hK _ ?_; clear K hK
      (repeat refine TS.imp ?_)
      refine ⟨p - 1, _, by omega, (Le.mv (by simp only [go_sem, hP, hn]; first | done | (simp; done) | (simp [intC]; done) | (repeat (first | rfl | constructor))) (by simp only [go_sem, hP, hn]; first | done | (simp; done) | (simp [intC]; done) | (repeat (first | rfl | constructor)))), k + 1, rfl, by omega, by omega, ?_⟩
      rw [hk, hx1]
      exact ⟨fun e => (List.cons.inj e).2, fun e => by rw [e]⟩
    have hk1 : k = f.length := by have := of_decide_eq_false hc; omega
    have hfge : f = g := by
      rw [hk, List.drop_of_length_le (by omega), List.drop_of_length_le (by omega)]
    clear hc
    (repeat refine TS.imp ?_)
    refine TR.imp ?_; intro K hK; simp only [w1, go_sem, hP, hn]; (repeat refine vc ?_); refine hK _ ?_; clear K hK
    (repeat refine TS.imp ?_)
    refine ⟨q - 1, _, by omega, (Le.mv (by simp only [go_sem, hP, hn]; first | done | (simp; done) | (simp [intC]; done) | (repeat (first | rfl | constructor))) (by simp only [go_sem, hP, hn]; first | done | (simp; done) | (simp [intC]; done) | (repeat (first | rfl | constructor)))), i + 1, rfl, by omega, by omega, ?_⟩
    rw [hd, hfge]
    exact ⟨fun e => (List.cons.inj e).2, fun e => by rw [e]⟩
  have hi : ¬ i < a.length := by simpa using hb
  have hab : a = b := by
    rw [hd, List.drop_of_length_le (by omega), List.drop_of_length_le (by omega)]
  clear hb
  (repeat (first | (refine TR.imp ?_; intro K hK; simp only [go_sem, hP, hn]; (repeat refine vc ?_); refine hK _ ?_; clear K hK) | refine TS.imp ?_))
  simp only [RetQ, go_sem]
  simp [hab]
end
section
attribute [local go_sem] frD
/-! whole.may: frames of the input -/
def inW (lo hi x : Int) : Bool := !(decide (x < lo) || decide (hi < x))
def frE18 (wd lo hi : Int) (f : List Int) : Int := if ((f.length : Int) != wd) = true then 14 else if f.all (inW lo hi) = true then 0 else 16
def mayE (wd lo hi : Int) : List (List Int) → Int
  | [] => 0
  | f :: r => if (frE18 wd lo hi f != 0) = true then frE18 wd lo hi f else mayE wd lo hi r
theorem wmay_c {T : World → Prop} (Tk : KT T) (wd lo hi out : Int) (ns : List Nd) (fs : List (List Int)) (hns : ns.length ≤ 65536) (hin : ∀ n ∈ ns, n.inn.length ≤ 4096 ∧ n.ws.length ≤ 65536 ∧ n.bs.length ≤ 65536) (hfl : fs.length ≤ 65536) (hff : ∀ f ∈ fs, f.length ≤ 65536) :
    Cg Go.Proofs.Tryz.prog T 22 [] [.agg (gcs wd lo hi out (.d (rowN ns))), .d (frD fs)] (fun r H => H = [] ∧ r = .d (.i .i64 (if ((lookG wd lo hi out ns).1 != 0) = true then (lookG wd lo hi out ns).1 else mayE wd lo hi fs))) := by
  have cC := Check_c Tk wd lo hi out ns hns hin
  generalize (lookG wd lo hi out ns).1 = e at *
  refine Cg_of [] Tk.m Go.Proofs.Tryz.func22 rfl rfl Go.Proofs.Tryz.ntmps22 (by simp) rfl (rs := [.tmp 4]) rfl fun E hP hn hT hpn => ?_
  (repeat refine TS.imp ?_)
  refine TR.imp ?_; intro K hK; simp only [go_sem, hP, hn]; (repeat refine vc ?_); refine hK _ ?_; clear K hK
  (repeat refine TS.imp ?_)
  refine TR.imp ?_; intro K hK; simp only [go_sem, hP, hn]
  (repeat refine vc ?_)
  refine CallN_cs (Hi := [] ) (by rw [hP, hT]; exact  cC) rfl rfl rfl trivial (by simp only [go_sem, hP, hn]; try trivial) (by simp only [go_sem, hP, hn]; try rfl) (by simp only [inH, go_sem, hP, hn]; try simp) (by rw [hn]; decide) ?_; simp only [go_sem, hP, hn]; (repeat refine vc ?_)
  refine hK _ ?_; clear K hK
  (repeat refine TS.imp ?_)
  refine TR.imp ?_; intro K hK; simp only [go_sem, hP, hn]; (repeat refine vc ?_); refine hK _ ?_; clear K hK
  (repeat refine TS.imp ?_)
  refine Tr.cond rfl (fun hb => ?_) (fun hb => ?_)
  · rw [if_pos hb]
    (repeat (first | (refine TR.imp ?_; intro K hK; simp only [go_sem, hP, hn]; (repeat refine vc ?_); refine hK _ ?_; clear K hK) | refine TS.imp ?_))
    simp only [RetG, go_sem]; (repeat with_reducible refine vc ?_)
  rw [if_neg (by rw [hb]; decide)]
  clear hb
  (repeat refine TS.imp ?_)
  refine TR.imp ?_; intro K hK; simp only [go_sem, hP, hn]; (repeat refine vc ?_); refine hK _ ?_; clear K hK
  refine Tr.le (Le.keep [2, 15, 16, 17]) ?_; simp only [List.map_cons, List.map_nil, lk, Nat.reduceEqDiff, reduceIte]
  (repeat refine TS.imp ?_)
  generalize hE : mayE wd lo hi fs = R0
  refine Tr.loop (fun q s => ∃ i : Int, s = ⟨[(2, .ptr 2 0), (15, .d (frD fs)), (16, .d (.i .i64 fs.length)), (17, .d (.i .i64 i))], [(2, .box 28 (gcs wd lo hi out (.d (rowN ns))))]⟩ ∧ 0 ≤ i ∧ i + q = fs.length ∧ mayE wd lo hi (fs.drop i.toNat) = R0) fs.length ⟨_, ?_, 0, rfl, by omega, by omega, hE⟩ ?_
  · exact (Le.mv (by simp only [go_sem, hP, hn]; first | done | (simp; done) | (simp [intC]; done) | (repeat (first | rfl | constructor))) (by simp only [go_sem, hP, hn]; first | done | (simp; done) | (simp [intC]; done) | (repeat (first | rfl | constructor))))
  rintro q s ⟨i, rfl, i0, iq, hii⟩
  (repeat refine TS.imp ?_)
  refine TR.imp ?_; intro K hK; simp only [go_sem, hP, hn]; (repeat refine vc ?_); refine hK _ ?_; clear K hK
  (repeat refine TS.imp ?_)
  refine Tr.cond rfl (fun hb => ?_) (fun hb => ?_)
  · have hi1 : i < fs.length := of_decide_eq_true hb
    clear hb
    have hrf := rw_fr fs i i0 hi1
    have hfl2 := hff _ (fr_mem i0 hi1)
    rw [drop_fr i0 hi1, mayE] at hii
    have w1 : wrap64 (i + 1) = i + 1 := w64 (by omega) (by omega)
    (repeat refine TS.imp ?_)
    refine TR.imp ?_; intro K hK; simp only [hrf, go_sem, hP, hn]; (repeat refine vc ?_); refine hK _ ?_; clear K hK
    (repeat refine TS.imp ?_)
    generalize fr fs i = f at *
    refine TR.imp ?_; intro K hK; simp only [go_sem, hP, hn]; (repeat refine vc ?_); refine hK _ ?_; clear K hK
    (repeat refine TS.imp ?_)
    refine Tr.cond rfl (fun hc => ?_) (fun hc => ?_)
    · have hf : frE18 wd lo hi f = 14 := if_pos hc
      rw [hf, if_pos (by decide)] at hii
      subst hii
      (repeat (first | (refine TR.imp ?_; intro K hK; simp only [go_sem, hP, hn]; (repeat refine vc ?_); refine hK _ ?_; clear K hK) | refine TS.imp ?_))
      simp only [RetG, go_sem]; (repeat with_reducible refine vc ?_)
    have hf : frE18 wd lo hi f = if f.all (inW lo hi) = true then 0 else 16 := by unfold frE18; rw [if_neg (by rw [hc]; decide)]
    clear hc
    (repeat refine TS.imp ?_)
    refine TR.imp ?_; intro K hK; simp only [go_sem, hP, hn]; (repeat refine vc ?_); refine hK _ ?_; clear K hK
    refine Tr.le (Le.keep [2, 15, 16, 17, 26, 27, 28]) ?_; simp only [List.map_cons, List.map_nil, lk, Nat.reduceEqDiff, reduceIte]
    (repeat refine TS.imp ?_)
    refine Tr.loop (fun p s => ∃ k : Int, s = ⟨[(2, .ptr 2 0), (15, .d (frD fs)), (16, .d (.i .i64 fs.length)), (17, .d (.i .i64 i)), (26, .d (.row [.i .i64 0] (f.map intC))), (27, .d (.i .i64 f.length)), (28, .d (.i .i64 k))], [(2, .box 28 (gcs wd lo hi out (.d (rowN ns))))]⟩ ∧ 0 ≤ k ∧ k + p = f.length ∧ f.all (inW lo hi) = (f.drop k.toNat).all (inW lo hi)) f.length ⟨_, ?_, 0, rfl, by omega, by omega, rfl⟩ ?_
    · exact (Le.mv (by simp only [go_sem, hP, hn]; first | done | (simp; done) | (simp [intC]; done) | (repeat (first | rfl | constructor))) (by simp only [go_sem, hP, hn]; first | done | (simp; done) | (simp [intC]; done) | (repeat (first | rfl | constructor))))
    rintro p s ⟨k, rfl, k0, kp, hk⟩
    (repeat refine TS.imp ?_)
    refine TR.imp ?_; intro K hK; simp only [go_sem, hP, hn]; (repeat refine vc ?_); refine hK _ ?_; clear K hK
    (repeat refine TS.imp ?_)
    refine Tr.cond rfl (fun hc => ?_) (fun hc => ?_)
    · have hk1 : k < f.length := of_decide_eq_true hc
      clear hc
      rw [drop_rdl k0 hk1, List.all_cons] at hk
      have w2 : wrap64 (k + 1) = k + 1 := w64 (by omega) (by omega)
      (repeat refine TS.imp ?_)
      refine TR.imp ?_; intro K hK; simp only [go_sem, hP, hn]; (repeat refine vc ?_); refine hK _ ?_; clear K hK
      (repeat refine TS.imp ?_)
      generalize rd f k = x at *
      refine TR.imp ?_; intro K hK; simp only [go_sem, hP, hn]; (repeat refine vc ?_); refine hK _ ?_; clear K hK
      (repeat refine TS.imp ?_)
      refine Tr.cond rfl (fun hx => ?_) (fun hx => ?_)
      · have hx1 : inW lo hi x = false := by unfold inW; rw [hx]; rfl
        rw [hx1, Bool.false_and] at hk
        rw [hf, hk] at hii
        simp only [Bool.false_eq_true, if_false] at hii
        rw [if_pos (by decide)] at hii
        subst hii
        (repeat (first | (refine TR.imp ?_; intro K hK; simp only [go_sem, hP, hn]; (repeat refine vc ?_); refine hK _ ?_; clear K hK) | refine TS.imp ?_))
        simp only [RetG, go_sem]; (repeat with_reducible refine vc ?_)
      have hx1 : inW lo hi x = true := by unfold inW; rw [hx]; rfl
      rw [hx1, Bool.true_and] at hk
      (repeat refine TS.imp ?_)
      refine TR.imp ?_; intro K hK; simp only [w2, go_sem, hP, hn]; (repeat refine vc ?_); refine hK _ ?_; clear K hK
      (repeat refine TS.imp ?_)
      exact ⟨p - 1, _, by omega, (Le.mv (by simp only [go_sem, hP, hn]; first | done | (simp; done) | (simp [intC]; done) | (repeat (first | rfl | constructor))) (by simp only [go_sem, hP, hn]; first | done | (simp; done) | (simp [intC]; done) | (repeat (first | rfl | constructor)))), k + 1, rfl, by omega, by omega, hk⟩
    have hk1 : k = f.length := by have := of_decide_eq_false hc; omega
    rw [hk1, Int.toNat_natCast, List.drop_length, List.all_nil] at hk
    rw [hf, hk] at hii
    simp only [if_true, bne_self_eq_false, Bool.false_eq_true, if_false] at hii
    clear hc
    (repeat refine TS.imp ?_)
    refine TR.imp ?_; intro K hK; simp only [w1, go_sem, hP, hn]; (repeat refine vc ?_); refine hK _ ?_; clear K hK
    (repeat refine TS.imp ?_)
    exact ⟨q - 1, _, by omega, (Le.mv (by simp only [go_sem, hP, hn]; first | done | (simp; done) | (simp [intC]; done) | (repeat (first | rfl | constructor))) (by simp only [go_sem, hP, hn]; first | done | (simp; done) | (simp [intC]; done) | (repeat (first | rfl | constructor)))), i + 1, rfl, by omega, by omega, hii⟩
  have hi1 : i = fs.length := by have := of_decide_eq_false hb; omega
  rw [hi1, Int.toNat_natCast, List.drop_length, mayE] at hii
  subst hii
  clear hb
  (repeat (first | (refine TR.imp ?_; intro K hK; simp only [go_sem, hP, hn]; (repeat refine vc ?_); refine hK _ ?_; clear K hK) | refine TS.imp ?_))
  simp only [RetG, go_sem]; (repeat with_reducible refine vc ?_)
end
end Go.Proofs.YtgomeljgbjgbkaaGreatDoor.Aw
namespace Go.Proofs.YtgomeljgbjgbkaaGreatDoor.Aw
open Go.RowKit
/-! whichever node, and frames: are they as they should be? -/
def wdsV (n : Nd) (fs : List (List Int)) : List Int := if rMany n.k = true then fs.map (fun f => (f.length : Int)) else [((fr fs 0).length : Int)]
def manyV (n : Nd) (fs : List (List Int)) : Int := if rWin n.k = true then n.size else if (n.k == 5) = true then fs.length else if rMany n.k = true then n.inn.length else 1
def frOk (w f : List Int) : Bool := !((w.length : Int) == 1 && (f.length : Int) != rd w 0) && f.all fits32
def rightV (n : Nd) (fs : List (List Int)) : Bool := !((fs.length : Int) == 0) && !((fs.length : Int) != manyV n fs || n.rchk (wdsV n fs) != 0) && fs.all (frOk (wdsV n fs))
def mayC (n : Nd) (m : Int) : Bool := rWin n.k && m != n.size || n.k == 5 && decide (m < 1) || rMany n.k && m != (n.inn.length : Int) || !rWin n.k && !rMany n.k && n.k != 5 && m != 1
def frOk2 (n : Nd) (w0 : Int) (i : Int) (f : List Int) : Bool := f.all fits32 && (i == 0 || rMany n.k || !((f.length : Int) != w0))
def frsOk (n : Nd) (w0 : Int) : Int → List (List Int) → Bool
  | _, [] => true
  | i, f :: fs => frOk2 n w0 i f && frsOk n w0 (i + 1) fs
def mayV (n : Nd) (fs : List (List Int)) : Bool := !(mayC n fs.length) && frsOk n ((fr fs 0).length : Int) 0 fs && (!((fs.length : Int) == 0) && n.rchk (wdsV n fs) == 0)
theorem frsOk_all (n : Nd) (w0 : Int) : ∀ (fs : List (List Int)) (i : Int), 0 < i → frsOk n w0 i fs = fs.all fun f => f.all fits32 && (rMany n.k || !((f.length : Int) != w0))
  | [], i, _ => rfl
  | f :: fs, i, hi => by
    have : (i == 0) = false := by simp; omega
    rw [frsOk, frsOk_all n w0 fs (i + 1) (by omega), List.all_cons]
    unfold frOk2
    rw [this, Bool.false_or]
theorem rMany_chk {n : Nd} {l : List Int} (h : n.rchk l = 0) (hm : rMany n.k = true) : 2 ≤ l.length ∧ l.length ≤ 4 := by
  obtain ⟨_, h7, _⟩ := rchk_unpack h
  unfold Nd.r7 at h7
  rw [hm] at h7
  simp at h7
  omega
theorem may_right (n : Nd) (fs : List (List Int)) : mayV n fs = rightV n fs := by
  unfold mayV rightV
  cases fs with
  | nil => simp
  | cons f fs =>
    have hl : (((f :: fs).length : Int) == 0) = false := by simp; omega
    have hf0 : fr (f :: fs) 0 = f := rfl
    rw [hl, Bool.not_false, Bool.true_and, Bool.true_and, hf0]
    have hC : mayC n ((f :: fs).length : Nat) = (((f :: fs).length : Int) != manyV n (f :: fs)) := by
      have h1 : decide ((((f :: fs).length : Nat) : Int) < 1) = false := by simp; omega
      unfold mayC manyV
      rw [h1]
      cases hw : rWin n.k with
      | true =>
        have hm : rMany n.k = false := by
          unfold rWin at hw; unfold rMany
          simp only [Bool.or_eq_true, beq_iff_eq] at hw
          simp only [Bool.or_eq_false_iff, beq_eq_false_iff_ne]
          omega
        rw [hm]; simp
      | false =>
        cases h5 : (n.k == 5) with
        | true =>
          have hm : rMany n.k = false := by
            have : n.k = 5 := by simpa using h5
            rw [this]; rfl
          have : (n.k != 5) = false := by simpa using h5
          rw [hm, this]; simp
        | false =>
          have : (n.k != 5) = true := by simpa using h5
          rw [this]
          cases hm : rMany n.k <;> simp
    rw [hC]
    cases hB : (((f :: fs).length : Int) != manyV n (f :: fs)) with
    | true => simp
    | false =>
      cases hK : (n.rchk (wdsV n (f :: fs)) == 0) with
      | false =>
        have : (n.rchk (wdsV n (f :: fs)) != 0) = true := by simpa using hK
        rw [this]; simp
      | true =>
        have hk0 : n.rchk (wdsV n (f :: fs)) = 0 := by simpa using hK
        have : (n.rchk (wdsV n (f :: fs)) != 0) = false := by simpa using hK
        rw [this]
        simp only [Bool.not_false, Bool.true_and, Bool.and_true, Bool.or_false]
        rw [frsOk, List.all_cons, frsOk_all n _ fs (0 + 1) (by decide)]
        unfold frOk2 frOk
        cases hm : rMany n.k with
        | true =>
          have hw := rMany_chk hk0 hm
          have : (((wdsV n (f :: fs)).length : Int) == 1) = false := by simp; omega
          rw [this]
          simp
        | false =>
          have hw : wdsV n (f :: fs) = [(f.length : Int)] := by unfold wdsV; rw [hm, hf0]; rfl
          rw [hw]
          have e : rd [(f.length : Int)] 0 = f.length := rfl
          rw [e]
          simp only [List.length_singleton, show (((1 : Nat) : Int) == 1) = true from rfl, Bool.true_and, Bool.false_or, bne_self_eq_false, Bool.not_false, Bool.and_true, BEq.rfl, Bool.true_or]
          congr 1
          congr 1
          funext g
          rw [Bool.and_comm]
end Go.Proofs.YtgomeljgbjgbkaaGreatDoor.Aw
