/- The abstract walk, and contracts of Go functions: each call returns what the Lean function named tells. Conditions: those that each theorem names, none else. -/
import Derived.Test.YtgomeljgbjgbkaaDoorZWholeChain4
set_option linter.unusedVariables false
set_option linter.unusedSimpArgs false
set_option linter.unusedSectionVars false
set_option maxRecDepth 100000
set_option maxHeartbeats 4000000
namespace Go.Proofs.YtgomeljgbjgbkaaDoor.Aw
open Go.RowKit
/-! what kernels make, in plain numbers -/
def dotK (ws : List Int) (o : Int) (f : List Int) : Nat → Int → Int
  | 0, x => x
  | k + 1, x => wrap64 (dotK ws o f k x + wrap64 (rd ws (o + k) * rd f k))
def stW (n : Nd) (w : Nat) : Nat := if n.k = 2 then 1 else w
def rowF (n : Nd) (fs : List (List Int)) (c : Int) (j : Nat) : List Int := if n.k = 2 then [rd (fr fs j) c] else fr fs j
/-- a number's sum, over the first frames -/
def accW (n : Nd) (fs : List (List Int)) (w : Nat) (c : Int) : Nat → Int
  | 0 => rd n.bs c
  | j + 1 => dotK n.ws ((c * fs.length + j) * stW n w) (rowF n fs c j) (stW n w) (accW n fs w c j)
def weighedN (n : Nd) (fs : List (List Int)) (w : Nat) : Nat → List Int
  | 0 => []
  | c + 1 => weighedN n fs w c ++ [n.pst (accW n fs w (c : Nat) fs.length)]
def weighedV (n : Nd) (fs : List (List Int)) (w : Nat) : List Int := weighedN n fs w n.bs.length
theorem weighedN_len (n : Nd) (fs : List (List Int)) (w : Nat) : ∀ c, (weighedN n fs w c).length = c
  | 0 => rfl
  | c + 1 => by simp [weighedN, weighedN_len n fs w c]
/-- a node that weighs, over frames as wide -/
structure WOk (n : Nd) (fs : List (List Int)) (w : Nat) : Prop where
  m0 : 1 ≤ fs.length ∧ fs.length ≤ 16
  w0 : 1 ≤ w ∧ w ≤ 16
  b0 : 1 ≤ n.bs.length ∧ n.bs.length ≤ 16
  len : ∀ f ∈ fs, f.length = w
  dp : n.k = 2 → n.bs.length = w
  ws : n.ws.length = n.bs.length * fs.length * stW n w
theorem stW_pos {n : Nd} {fs : List (List Int)} {w : Nat} (h : WOk n fs w) : 1 ≤ stW n w ∧ stW n w ≤ 16 := by
  have := h.w0
  unfold stW
  split <;> omega
theorem WOk.wlen {n : Nd} {fs : List (List Int)} {w : Nat} (h : WOk n fs w) : n.ws.length ≤ 4096 := by
  have h1 := h.m0
  have h2 := h.b0
  have h3 := stW_pos h
  rw [h.ws]
  calc n.bs.length * fs.length * stW n w ≤ 16 * 16 * 16 := Nat.mul_le_mul (Nat.mul_le_mul h2.2 h1.2) h3.2
    _ = 4096 := rfl
theorem WOk.flen {n : Nd} {fs : List (List Int)} {w : Nat} (h : WOk n fs w) {j : Int} (h0 : 0 ≤ j) (h1 : j < fs.length) : (fr fs j).length = w := h.len _ (fr_mem h0 h1)
theorem WOk.off {n : Nd} {fs : List (List Int)} {w : Nat} (h : WOk n fs w) {c j : Int} (c0 : 0 ≤ c) (c1 : c < n.bs.length) (j0 : 0 ≤ j) (j1 : j < fs.length) :
    0 ≤ c * fs.length ∧ 0 ≤ (c * fs.length + j) * stW n w ∧ (c * fs.length + j) * stW n w + stW n w ≤ n.ws.length ∧ (c * fs.length + (j + 1)) * stW n w = (c * fs.length + j) * stW n w + stW n w ∧ c * fs.length + j < n.bs.length * fs.length ∧ (n.bs.length : Int) * fs.length ≤ 256 := by
  have h1 := h.m0
  have h2 := h.b0
  have h3 := stW_pos h
  have a0 : 0 ≤ c * fs.length := Int.mul_nonneg c0 (by omega)
  have a1 : (c + 1) * (fs.length : Int) ≤ n.bs.length * fs.length := Int.mul_le_mul_of_nonneg_right (by omega) (by omega)
  rw [Int.add_mul] at a1
  have a2 : (c * fs.length + j + 1) * (stW n w : Int) ≤ (n.bs.length * fs.length) * stW n w := Int.mul_le_mul_of_nonneg_right (by omega) (by omega)
  have a3 : ((n.ws.length : Nat) : Int) = (n.bs.length * fs.length) * stW n w := by rw [h.ws]; simp
  have a4 : (n.bs.length : Int) * fs.length ≤ 16 * 16 := by
    have := Nat.mul_le_mul h2.2 h1.2
    exact_mod_cast this
  refine ⟨a0, Int.mul_nonneg (by omega) (by omega), ?_, ?_, by omega, by omega⟩
  · rw [a3]
    rw [Int.add_mul (c * fs.length + j) 1] at a2
    omega
  · rw [← Int.add_assoc, Int.add_mul (c * fs.length + j) 1]
    omega
theorem WOk.next {n : Nd} {fs : List (List Int)} {w : Nat} (c : Int) : (c * fs.length + fs.length) * (stW n w : Int) = ((c + 1) * fs.length + 0) * stW n w := by
  rw [Int.add_mul c 1]; simp
/-- a node's frame, over frames -/
def frameV (n : Nd) (fs : List (List Int)) (w : Nat) : List Int :=
  if rWeighs n.k = true then weighedV n fs w
  else if n.k = 3 ∨ n.k = 5 then eachL (fun xs => rd xs (mostV xs)) fs w
  else if n.k = 4 ∨ n.k = 12 then eachL meanV fs w
  else if n.k = 7 then eachL addV fs w
  else if n.k = 9 then eachL (fun xs => clampV (rd xs 0) n.low n.high) fs w
  else if n.k = 10 then eachL (fun xs => scaleV (rd xs 0) n.mult n.shift) fs w
  else if n.k = 11 then [mostV (fr fs 0)]
  else fs.flatten
/-- a right node, and its frames -/
structure KOk (n : Nd) (fs : List (List Int)) (w : Nat) : Prop where
  w0 : 1 ≤ w ∧ w ≤ 16
  m0 : 1 ≤ fs.length ∧ fs.length ≤ 4096
  len : ∀ f ∈ fs, f.length = w
  num : ∀ f ∈ fs, ∀ x ∈ f, in32 x
  win : rWin n.k = true → (fs.length : Int) = n.size
  many : rMany n.k = true → fs.length = n.inn.length
  one : rWin n.k = false → rMany n.k = false → n.k ≠ 5 → fs.length = 1
  chk : n.rchk (List.replicate n.inn.length (w : Int)) = 0
  il : n.inn.length ≤ 4
  wl : n.ws.length ≤ 4096
  bl : n.bs.length ≤ 4096
theorem KOk.unpack {n : Nd} {fs : List (List Int)} {w : Nat} (h : KOk n fs w) : 1 ≤ n.k ∧ n.k ≤ 12 ∧ 0 ≤ n.post ∧ n.post ≤ 3 ∧ (rMany n.k = false → n.inn.length = 1) ∧ 1 ≤ n.inn.length := by
  obtain ⟨h1, h7, h9, _, _, _⟩ := rchk_unpack h.chk
  unfold Nd.r7 at h7
  unfold Nd.r9 at h9
  simp only [Bool.or_eq_false_iff, Bool.and_eq_false_iff, Bool.not_eq_false', inB_iff, decide_eq_false_iff_not, List.length_replicate] at h7 h9
  refine ⟨h7.1.1.1, h7.1.1.2, by omega, by omega, fun e => ?_, ?_⟩
  · rw [e] at h7; have := h7.2; simp at this; omega
  · cases e : rMany n.k with
    | true => rw [e] at h7; simp at h7; omega
    | false => rw [e] at h7; simp at h7; omega
theorem KOk.sized {n : Nd} {fs : List (List Int)} {w : Nat} (h : KOk n fs w) : n.sized w = true := by
  obtain ⟨_, _, _, _, hs, _⟩ := rchk_unpack h.chk
  have := h.unpack.2.2.2.2.2
  have e : rd (List.replicate n.inn.length (w : Int)) 0 = w := by
    unfold rd
    obtain ⟨m, hm⟩ : ∃ m, n.inn.length = m + 1 := ⟨n.inn.length - 1, by omega⟩
    rw [hm, List.replicate_succ]; rfl
  rwa [e] at hs
theorem KOk.wok {n : Nd} {fs : List (List Int)} {w : Nat} (h : KOk n fs w) (hw : rWeighs n.k = true) : WOk n fs w := by
  have hs := h.sized
  have hm := h.m0
  have hw0 := h.w0
  unfold Nd.sized at hs
  rw [if_pos hw] at hs
  have hc : n.k = 1 ∨ n.k = 2 ∨ n.k = 6 := by unfold rWeighs at hw; simpa [or_assoc] using hw
  have h4 : n.s4 = false := by
    cases e : n.s4 with
    | false => rfl
    | true => rw [e] at hs; simp at hs
  have h13 : n.s13 = false := by
    cases e : n.s13 with
    | false => rfl
    | true => rw [e] at hs; simp at hs
  have h21 : n.s21 w (if (n.k == 2) = true then (w : Int) else n.wid) = false := by
    cases e : n.s21 w (if (n.k == 2) = true then (w : Int) else n.wid) with
    | false => rfl
    | true => rw [e] at hs; simp at hs
  unfold Nd.s21 at h21
  simp only [Bool.or_eq_false_iff, bne_eq_false_iff_eq] at h21
  obtain ⟨⟨⟨hW, hB⟩, _⟩, _⟩ := h21
  have hsz : rFour n.k = true → 1 ≤ n.size ∧ n.size ≤ 8 := by
    intro e; unfold Nd.s4 at h4; rw [e] at h4
    simp at h4
    exact inB_iff.mp h4
  have hwd : (n.k = 1 ∨ n.k = 6) → 1 ≤ n.wid ∧ n.wid ≤ 16 := by
    intro e; unfold Nd.s13 at h13
    have : (n.k == 1 || n.k == 6) = true := by simpa using e
    rw [this] at h13; simp at h13
    exact inB_iff.mp h13
  unfold Nd.rWeights at hW
  rcases hc with hk | hk | hk
  · have hwin := h.win (by rw [hk]; rfl)
    have s1 := hsz (by rw [hk]; rfl)
    have d1 := hwd (.inl hk)
    rw [hk] at hW hB
    simp at hW hB
    have m1 := mul_le n.wid 16 n.size 8 (by omega) d1.2 (by omega) s1.2
    have m2 := mul_le (n.wid * n.size) 128 w 16 m1.1 m1.2 (by omega) (by omega)
    rw [w64 (x := n.wid * n.size) (by omega) (by omega), w64 (by omega) (by omega)] at hW
    refine ⟨⟨hm.1, by omega⟩, hw0, by omega, h.len, fun e => by omega, ?_⟩
    have : stW n w = w := by unfold stW; rw [if_neg (by omega)]
    rw [this]
    have : ((n.ws.length : Nat) : Int) = ((n.bs.length * fs.length * w : Nat) : Int) := by rw [hW]; simp only [Int.natCast_mul, hB, hwin]
    exact_mod_cast this
  · have hwin := h.win (by rw [hk]; rfl)
    have s1 := hsz (by rw [hk]; rfl)
    rw [hk] at hW hB
    simp at hW hB
    have m1 := mul_le (w : Int) 16 n.size 8 (by omega) (by omega) (by omega) s1.2
    rw [w64 (by omega) (by omega)] at hW
    refine ⟨⟨hm.1, by omega⟩, hw0, by omega, h.len, fun e => by omega, ?_⟩
    have : stW n w = 1 := by unfold stW; rw [if_pos hk]
    rw [this]
    have : ((n.ws.length : Nat) : Int) = ((n.bs.length * fs.length * 1 : Nat) : Int) := by rw [hW]; simp only [Int.natCast_mul, hB, hwin]; simp
    exact_mod_cast this
  · have h1 := h.one (by rw [hk]; rfl) (by rw [hk]; rfl) (by omega)
    have d1 := hwd (.inr hk)
    rw [hk] at hW hB
    simp at hW hB
    have m1 := mul_le n.wid 16 w 16 (by omega) d1.2 (by omega) (by omega)
    rw [w64 (by omega) (by omega)] at hW
    refine ⟨⟨hm.1, by omega⟩, hw0, by omega, h.len, fun e => by omega, ?_⟩
    have : stW n w = w := by unfold stW; rw [if_neg (by omega)]
    rw [this]
    have : ((n.ws.length : Nat) : Int) = ((n.bs.length * fs.length * w : Nat) : Int) := by rw [hW, h1]; simp only [Int.natCast_mul, hB]; simp
    exact_mod_cast this
theorem KOk.wide {n : Nd} {fs : List (List Int)} {w : Nat} (h : KOk n fs w) (hm : rMany n.k = true) : fs.map (fun f => (f.length : Int)) = List.replicate n.inn.length (w : Int) := by
  rw [← h.many hm, List.eq_replicate_iff]
  exact ⟨by simp, fun b hb => by obtain ⟨f, hf, rfl⟩ := List.mem_map.1 hb; rw [h.len f hf]⟩
theorem col_len (fs : List (List Int)) (k : Int) : (col fs k).length = fs.length := by simp [col]
theorem KOk.col {n : Nd} {fs : List (List Int)} {w : Nat} (h : KOk n fs w) {k : Int} (k0 : 0 ≤ k) (k1 : k < w) : ∀ x ∈ col fs k, in32 x := by
  intro x hx
  unfold Aw.col at hx
  obtain ⟨f, hf, rfl⟩ := List.mem_map.1 hx
  exact h.num f hf _ (rd_mem k0 (by rw [h.len f hf]; exact k1))
theorem eachL_len (g : List Int → Int) (fs : List (List Int)) (w : Nat) : (eachL g fs w).length = w := by simp [eachL]
end Go.Proofs.YtgomeljgbjgbkaaDoor.Aw
namespace Go.Proofs.YtgomeljgbjgbkaaDoor.Aw
open Go.RowKit
attribute [local go_sem_proc] Nat.reduceAdd Nat.reduceMul Nat.reduceSub Nat.reduceEqDiff Nat.reduceLeDiff Nat.reduceBEq Nat.reduceBNe Int.reduceToNat reduceIte reduceCtorEq
attribute [local go_sem] initT SQ so pe he ev lk constS stp stc gdS nth pickS pickD loadS cellsAt okAt fieldAddrS fieldS partS indexAddrS indexS extractS binS binD binI isShift unS convS lenS sliceS bndI bndC mmS mm2 mmD builtS fillS okCells cellsS splS solid aliveL alive okS boxS allocS makeS bsliceS elemsOf dcells stF frzW storeS frzA frz frzT frzS frzL frzO frzH appS srcS appVC killS killT killC killH killO k1 k2 S.has S.hasL St.add St.upd dropH lh cond_or cond_and rw_intC rw_intC0 rw_set rw_app rw_apps rw_rep rw_slice wr64 cond_true cond_false true_and and_true List.map_cons List.map_nil List.length_cons List.length_nil List.drop_succ_cons List.drop_zero List.take_succ_cons List.take_zero List.nil_append List.cons_append List.getD_cons_zero List.getD_cons_succ List.headD_cons List.length_map ite_true ite_false if_true if_false Bool.false_eq_true and_self forall_const List.drop_nil List.take_nil List.append_nil Option.map_some Option.map_none List.mapM_cons List.mapM_nil Option.bind_eq_bind Option.bind_some Option.pure_def knows resL resV oneS freshS freshL cv cvL stpL stcL or_true true_or or_false false_or List.all_cons List.all_nil Bool.and_self Bool.or_self Bool.true_and Bool.and_true Bool.or_false Bool.false_or implies_true flatD allm_nil allm_cons List.getElem?_cons_zero List.getElem?_cons_succ Nd.cs Nd.ds ml mln Option.isSome_some Option.isSome_none eq_self Int.toNat_natCast AP ldOk isLd inL subL crt chg chgS chgP idxs aliveW Option.toList_some Option.toList_none Option.toList RetG Nd.win frzA offK keepH aliveK nkH closedH closedO keysK inH St.upd rowO List.contains_cons List.contains_nil Bool.or_self Option.isNone_none Option.isNone_some Bool.not_true Bool.not_false gcs rowN e0N frzC
attribute [local go_sem] sz2 ag2 ok2 kk2 iu2 zc2 zd2 by2 sz3 ag3 ok3 kk3 iu3 zc3 zd3 by3 sz4 ag4 ok4 bo4 zc4 zd4 by4 sz5 ag5 ok5 kk5 iu5 zc5 zd5 by5 sz9 ag9 ok9 st9 zc9 zd9 by9 sz12 ag12 ok12 kk12 iu12 zc12 zd12 by12 sz15 ag15 ok15 zc15 by15 sz16 ag16 ok16 zc16 by16 sz21 ag21 ok21 kk21 iu21 zc21 zd21 by21 sz22 ag22 ok22 sl22 zc22 zd22 by22 sz24 ag24 ok24 sl24 zc24 zd24 by24 sz25 ag25 ok25 zc25 zd25 pl25 by25 fl25_0 fl25_1 fl25_2 fl25_3 fl25_4 sz26 ag26 ok26 zc26 zd26 pl26 by26 fl26_0 fl26_1 fl26_2 fl26_3 fl26_4 sz30 ag30 ok30 sl30 ar30 zc30 zd30 pl30 by30 sz31 ag31 ok31 sl31 ar31 zc31 zd31 pl31 by31 sz32 ag32 ok32 sl32 zc32 zd32 by32 sz36 ag36 ok36 kk36 iu36 zc36 zd36 by36 sz37 ag37 ok37 zc37 zd37 pl37 by37 fl37_0 fl37_1 fl37_2 fl37_3 sz38 ag38 ok38 zc38 zd38 pl38 by38 fl38_0 fl38_1 fl38_2 fl38_3 sz40 ag40 ok40 sl40 zc40 zd40 by40 sz41 ag41 ok41 zc41 zd41 pl41 by41 fl41_0 fl41_1 sz42 ag42 ok42 zc42 zd42 pl42 by42 fl42_0 fl42_1 sz44 ag44 ok44 kk44 iu44 zc44 zd44 by44 sz49 ag49 ok49 zc49 zd49 pl49 by49 fl49_0 fl49_1 fl49_2 fl49_3 fl49_4 fl49_5 fl49_6 fl49_7 fl49_8 fl49_9 fl49_10 fl49_11 fl49_12 fl49_13 fl49_14 sz50 ag50 ok50 zc50 zd50 pl50 by50 fl50_0 fl50_1 fl50_2 fl50_3 fl50_4 fl50_5 fl50_6 fl50_7 fl50_8 fl50_9 fl50_10 fl50_11 fl50_12 fl50_13 fl50_14 sz55 ag55 ok55 zc55 zd55 pl55 by55 fl55_0 fl55_1 fl55_2 sz56 ag56 ok56 zc56 zd56 pl56 by56 fl56_0 fl56_1 fl56_2 sz65 ag65 ok65 sl65 zc65 zd65 by65 sz68 ag68 ok68 zc68 by68 sz81 ag81 ok81 zc81 zd81 pl81 by81 fl81_0 fl81_1 fl81_2 fl81_3 sz82 ag82 ok82 zc82 zd82 pl82 by82 fl82_0 fl82_1 fl82_2 fl82_3 sz87 ag87 ok87 zc87 by87 sz88 ag88 ok88 zc88 zd88 pl88 by88 fl88_0 fl88_1 fl88_2 sz89 ag89 ok89 zc89 zd89 pl89 by89 fl89_0 fl89_1 fl89_2 sz92 ag92 ok92 zc92 by92 sz93 ag93 ok93 zc93 zd93 pl93 by93 fl93_0 fl93_1 sz94 ag94 ok94 zc94 zd94 pl94 by94 fl94_0 fl94_1 sz98 ag98 ok98 zc98 zd98 pl98 by98 fl98_0 fl98_1 fl98_2 sz99 ag99 ok99 zc99 zd99 pl99 by99 fl99_0 fl99_1 fl99_2 sz112 ag112 ok112 sl112 ar112 zc112 zd112 pl112 by112 sz113 ag113 ok113 sl113 ar113 zc113 zd113 pl113 by113 sz124 ag124 ok124 zc124 zd124 pl124 by124 fl124_0 fl124_1 sz125 ag125 ok125 sl125 ar125 zc125 zd125 pl125 by125 sz126 ag126 ok126 zc126 by126 sz130 ag130 ok130 zc130 by130 sz132 ag132 ok132 zc132 zd132 pl132 by132 fl132_0 fl132_1 sz133 ag133 ok133 zc133 zd133 pl133 by133 fl133_0 fl133_1 sz151 ag151 ok151 kk151 iu151 zc151 zd151 by151 sz155 ag155 ok155 zc155 by155
section
attribute [local go_sem] frD
theorem rd_drop (l : List Int) (o k : Int) (h0 : 0 ≤ o) (h1 : 0 ≤ k) : rd (l.drop o.toNat) k = rd l (o + k) := by
  unfold rd
  rw [List.getD_eq_getElem?_getD, List.getD_eq_getElem?_getD, List.getElem?_drop]
  congr 2
  omega
theorem one_drop {l : List Int} {c : Int} (h0 : 0 ≤ c) (h1 : c < l.length) : ((l.take (c + 1).toNat).drop c.toNat) = [rd l c] := by
  rw [take_rd h0 h1, List.drop_append, List.drop_of_length_le (by simp; omega)]
  have : c.toNat - (l.take c.toNat).length = 0 := by simp; omega
  rw [this]; rfl
theorem rowF_len {n : Nd} {fs : List (List Int)} {w : Nat} (h : WOk n fs w) {c : Int} {j : Int} (j0 : 0 ≤ j) (j1 : j < fs.length) : (rowF n fs c j.toNat).length = stW n w := by
  have e : ((j.toNat : Nat) : Int) = j := Int.toNat_of_nonneg j0
  unfold rowF stW
  split
  · rfl
  · rw [e]; exact h.flen j0 j1
theorem weighed_c {T : World → Prop} (Tm : TP T) (n : Nd) (fs : List (List Int)) (w : Nat) (h : WOk n fs w) : Cg Go.Proofs.Tryd.prog T 118 [] [.agg n.cs, .d (frD fs)] (fun r H => H = [(2000, .row 3 [.i .i64 0] ((weighedV n fs w).map intC))] ∧ r = .own 2000) := by
  have hm0 := h.m0
  have hb0 := h.b0
  have hw0 := h.w0
  have hst := stW_pos h
  have hwl := h.wlen
  refine Cg_of [2000] Tm Go.Proofs.Tryd.func118 rfl rfl Go.Proofs.Tryd.ntmps118 (by simp) rfl (rs := [.tmp 4]) rfl fun E hP hn hT hpn => ?_
  (repeat (first | refine TS.imp ?_ | refine n9 (by decide) ?_))
  refine TR.imp ?_; intro K hK; simp only [go_sem, hP, hn]; (repeat refine vc ?_); refine hK _ ?_; clear K hK
  (repeat (first | refine TS.imp ?_ | refine n9 (by decide) ?_))
  refine TR.imp ?_; intro K hK; simp only [go_sem, hP, hn]; (repeat refine vc ?_); refine hK _ ?_; clear K hK
  (repeat (first | refine TS.imp ?_ | refine n9 (by decide) ?_))
  refine TR.imp ?_; intro K hK; simp only [go_sem, hP, hn]; (repeat refine vc ?_); refine hK _ ?_; clear K hK
  (repeat (first | refine TS.imp ?_ | refine n9 (by decide) ?_))
  refine TR.imp ?_; intro K hK; simp only [go_sem, hP, hn]; (repeat refine vc ?_); refine hK _ ?_; clear K hK
  (repeat (first | refine TS.imp ?_ | refine n9 (by decide) ?_))
  refine Tr.le (Le.keep [1, 2, 5, 6, 20, 21, 22]) ?_; simp only [List.map_cons, List.map_nil, lk, Nat.reduceEqDiff, reduceIte]
  refine Tr.loop (fun q s => ∃ (c : Int) (m L : List Int), s = ⟨[(1, .d (frD fs)), (2, .ptr 2 0), (5, .own 16), (6, .d (.row [.i .i64 0] (L.map intC))), (20, .d (.row [.i .i64 0] (n.bs.map intC))), (21, .d (.i .i64 n.bs.length)), (22, .d (.i .i64 c))], [(2, .box 50 n.cs), (16, .row 3 [.i .i64 0] (m.map intC))]⟩ ∧ 0 ≤ c ∧ c + q = n.bs.length ∧ m.length = n.bs.length ∧ m.take c.toNat = weighedN n fs w c.toNat ∧ L = n.ws.drop ((c * fs.length + 0) * stW n w).toNat) n.bs.length ⟨_, (Le.mv (by simp only [go_sem, hP, hn]; first | done | (simp; done) | (simp [intC]; done) | (repeat (first | rfl | constructor))) (by simp only [go_sem, hP, hn]; first | done | (simp; done) | (simp [intC]; done) | (repeat (first | rfl | constructor)))), 0, List.replicate n.bs.length 0, n.ws, rfl, by omega, by omega, by simp, by simp [weighedN], by simp⟩ ?_
  rintro q s ⟨c, m, L, rfl, c0, cq, hm, ht, hL⟩
  (repeat (first | refine TS.imp ?_ | refine n9 (by decide) ?_))
  refine TR.imp ?_; intro K hK; simp only [go_sem, hP, hn]; (repeat refine vc ?_); refine hK _ ?_; clear K hK
  (repeat (first | refine TS.imp ?_ | refine n9 (by decide) ?_))
  refine Tr.cond rfl (fun hb => ?_) (fun hb => ?_)
  · have hc : c < n.bs.length := by simpa using hb
    clear hb
    (repeat (first | refine TS.imp ?_ | refine n9 (by decide) ?_))
    refine TR.imp ?_; intro K hK; simp only [go_sem, hP, hn]; (repeat refine vc ?_); refine hK _ ?_; clear K hK
    (repeat (first | refine TS.imp ?_ | refine n9 (by decide) ?_))
    refine TR.imp ?_; intro K hK; simp only [go_sem, hP, hn]; (repeat refine vc ?_); refine hK _ ?_; clear K hK
    (repeat (first | refine TS.imp ?_ | refine n9 (by decide) ?_))
    refine Tr.le (Le.keep [1, 2, 5, 6, 7, 8, 20, 21, 22, 27, 28, 29]) ?_; simp only [List.map_cons, List.map_nil, lk, Nat.reduceEqDiff, reduceIte]
    refine Tr.loop (fun p s => ∃ (j : Int) (L : List Int), s = ⟨[(1, .d (frD fs)), (2, .ptr 2 0), (5, .own 16), (6, .d (.row [.i .i64 0] (L.map intC))), (7, .d (.i .i64 c)), (8, .d (.i .i64 (accW n fs w c j.toNat))), (20, .d (.row [.i .i64 0] (n.bs.map intC))), (21, .d (.i .i64 n.bs.length)), (22, .d (.i .i64 c)), (27, .d (frD fs)), (28, .d (.i .i64 fs.length)), (29, .d (.i .i64 j))], [(2, .box 50 n.cs), (16, .row 3 [.i .i64 0] (m.map intC))]⟩ ∧ 0 ≤ j ∧ j + p = fs.length ∧ L = n.ws.drop ((c * fs.length + j) * stW n w).toNat) fs.length ⟨_, (Le.mv (by simp only [go_sem, hP, hn]; first | done | (simp; done) | (simp [intC]; done) | (repeat (first | rfl | constructor))) (by simp only [go_sem, hP, hn]; first | done | (simp; done) | (simp [intC]; done) | (repeat (first | rfl | constructor)))), 0, L, rfl, by omega, by omega, hL⟩ ?_
    clear hL L
    rintro p s ⟨j, L, rfl, j0, jp, hL⟩
    (repeat (first | refine TS.imp ?_ | refine n9 (by decide) ?_))
    refine TR.imp ?_; intro K hK; simp only [go_sem, hP, hn]; (repeat refine vc ?_); refine hK _ ?_; clear K hK
    (repeat (first | refine TS.imp ?_ | refine n9 (by decide) ?_))
    refine Tr.cond rfl (fun hb => ?_) (fun hb => ?_)
    · have hj : j < fs.length := by simpa using hb
      clear hb
      have hfl := h.flen j0 hj
      obtain ⟨o0, o1, o2, o3, o4, o5⟩ := h.off c0 hc j0 hj
      have hrl := rowF_len h (c := c) j0 hj
      have hLl : (L.length : Int) = n.ws.length - (c * fs.length + j) * stW n w := by rw [hL, List.length_drop]; omega
      have hLr : ∀ k : Int, 0 ≤ k → rd L k = rd n.ws ((c * fs.length + j) * stW n w + k) := fun k hk => by rw [hL, rd_drop _ _ _ o1 hk]
      have hLn : n.ws.drop ((c * fs.length + (j + 1)) * stW n w).toNat = L.drop (stW n w) := by
        rw [hL, List.drop_drop, o3]
        congr 1
        omega
      have hacc : accW n fs w c (j + 1).toNat = dotK n.ws ((c * fs.length + j) * stW n w) (rowF n fs c j.toNat) (stW n w) (accW n fs w c j.toNat) := by
        have e : (j + 1).toNat = j.toNat + 1 := by omega
        have e2 : ((j.toNat : Nat) : Int) = j := Int.toNat_of_nonneg j0
        rw [e]; simp only [accW, e2]
      have hrow : rowF n fs c j.toNat = if n.k = 2 then [rd (fr fs j) c] else fr fs j := by
        unfold rowF; rw [Int.toNat_of_nonneg j0]
      clear hL
      (repeat (first | refine TS.imp ?_ | refine n9 (by decide) ?_))
      refine TR.imp ?_; intro K hK; simp only [go_sem, hP, hn]
      rw [rw_fr fs j j0 hj]
      simp only [go_sem, hP, hn]
      (repeat refine vc ?_)
      refine hK _ ?_; clear K hK
      (repeat (first | refine TS.imp ?_ | refine n9 (by decide) ?_))
      refine TR.imp ?_; intro K hK; simp only [go_sem, hP, hn]; (repeat refine vc ?_); refine hK _ ?_; clear K hK
      refine Tr.block ?_
      refine Tr.seq ?_
      refine Tr.meet (fun s => s = ⟨[(1, .d (frD fs)), (2, .ptr 2 0), (5, .own 16), (6, .d (.row [.i .i64 0] (L.map intC))), (7, .d (.i .i64 c)), (8, .d (.i .i64 (accW n fs w c j.toNat))), (10, .d (.row [.i .i64 0] ((rowF n fs c j.toNat).map intC))), (20, .d (.row [.i .i64 0] (n.bs.map intC))), (21, .d (.i .i64 n.bs.length)), (22, .d (.i .i64 c)), (27, .d (frD fs)), (28, .d (.i .i64 fs.length)), (29, .d (.i .i64 j))], [(2, .box 50 n.cs), (16, .row 3 [.i .i64 0] (m.map intC))]⟩) ?_ ?_
      rotate_left
      · (repeat (first | refine TS.imp ?_ | refine n9 (by decide) ?_))
        refine TR.imp ?_; intro K hK; simp only [go_sem, hP, hn]; (repeat refine vc ?_); refine hK _ ?_; clear K hK
        (repeat (first | refine TS.imp ?_ | refine n9 (by decide) ?_))
        refine Tr.cond rfl (fun hk => ?_) (fun hk => ?_)
        · have hk2 : n.k = 2 := by simpa using hk
          have hcw := h.dp hk2
          rw [hrow, if_pos hk2]
          have hw1 : wrap64 (c + 1) = c + 1 := w64 (by omega) (by omega)
          (repeat (first | refine TS.imp ?_ | refine n9 (by decide) ?_))
          refine TR.imp ?_; intro K hK; simp only [hw1, rw_slice, one_drop c0 (show c < (fr fs j).length by omega), go_sem, hP, hn]
          (repeat refine vc ?_)
          refine hK _ ?_; clear K hK
          (repeat (first | refine TS.imp ?_ | refine n9 (by decide) ?_))
          exact ⟨_, (Le.mv (by simp only [go_sem, hP, hn]; first | done | (simp; done) | (simp [intC]; done) | (repeat (first | rfl | constructor))) (by simp only [go_sem, hP, hn]; first | done | (simp; done) | (simp [intC]; done) | (repeat (first | rfl | constructor)))), rfl⟩
        · have hk2 : ¬ n.k = 2 := by simpa using hk
          rw [hrow, if_neg hk2]
          (repeat (first | refine TS.imp ?_ | refine n9 (by decide) ?_))
          exact ⟨_, (Le.mv (by simp only [go_sem, hP, hn]; first | done | (simp; done) | (simp [intC]; done) | (repeat (first | rfl | constructor))) (by simp only [go_sem, hP, hn]; first | done | (simp; done) | (simp [intC]; done) | (repeat (first | rfl | constructor)))), rfl⟩
      rintro s rfl
      generalize rowF n fs c j.toNat = f at hrl hacc
      generalize accW n fs w c j.toNat = x at hacc
      generalize hst2 : stW n w = st at *
      (repeat (first | refine TS.imp ?_ | refine n9 (by decide) ?_))
      refine TR.imp ?_; intro K hK; simp only [go_sem, hP, hn]; (repeat refine vc ?_); refine hK _ ?_; clear K hK
      (repeat (first | refine TS.imp ?_ | refine n9 (by decide) ?_))
      rw [hrl]
      generalize hoo : (c * fs.length + j) * (st : Int) = o at *
      refine Tr.le (Le.keep [1, 2, 5, 6, 7, 8, 10, 20, 21, 22, 27, 28, 29, 42, 43, 44]) ?_; simp only [List.map_cons, List.map_nil, lk, Nat.reduceEqDiff, reduceIte]
      refine Tr.loop (fun r s => ∃ (k : Int), s = ⟨[(1, .d (frD fs)), (2, .ptr 2 0), (5, .own 16), (6, .d (.row [.i .i64 0] (L.map intC))), (7, .d (.i .i64 c)), (8, .d (.i .i64 (dotK n.ws o f k.toNat x))), (10, .d (.row [.i .i64 0] (f.map intC))), (20, .d (.row [.i .i64 0] (n.bs.map intC))), (21, .d (.i .i64 n.bs.length)), (22, .d (.i .i64 c)), (27, .d (frD fs)), (28, .d (.i .i64 fs.length)), (29, .d (.i .i64 j)), (42, .d (.row [.i .i64 0] (f.map intC))), (43, .d (.i .i64 st)), (44, .d (.i .i64 k))], [(2, .box 50 n.cs), (16, .row 3 [.i .i64 0] (m.map intC))]⟩ ∧ 0 ≤ k ∧ k + r = st) st ⟨_, (Le.mv (by simp only [go_sem, hP, hn]; first | done | (simp; done) | (simp [intC]; done) | (repeat (first | rfl | constructor))) (by simp only [go_sem, hP, hn]; first | done | (simp; done) | (simp [intC]; done) | (repeat (first | rfl | constructor)))), 0, rfl, by omega, by omega⟩ ?_
      rintro r s ⟨k, rfl, k0, kr⟩
      (repeat (first | refine TS.imp ?_ | refine n9 (by decide) ?_))
      refine TR.imp ?_; intro K hK; simp only [go_sem, hP, hn]; (repeat refine vc ?_); refine hK _ ?_; clear K hK
      (repeat (first | refine TS.imp ?_ | refine n9 (by decide) ?_))
      refine Tr.cond rfl (fun hb => ?_) (fun hb => ?_)
      · have hk : k < st := by simpa using hb
        clear hb
        have hLk := hLr k k0
        (repeat (first | refine TS.imp ?_ | refine n9 (by decide) ?_))
        refine TR.imp ?_; intro K hK; simp only [go_sem, hP, hn]; (repeat refine vc ?_); refine hK _ ?_; clear K hK
        (repeat (first | refine TS.imp ?_ | refine n9 (by decide) ?_))
        refine TR.imp ?_; intro K hK; simp only [hLk, go_sem, hP, hn]; (repeat refine vc ?_); refine hK _ ?_; clear K hK
        (repeat (first | refine TS.imp ?_ | refine n9 (by decide) ?_))
        refine TR.imp ?_; intro K hK; simp only [go_sem, hP, hn]; (repeat refine vc ?_); refine hK _ ?_; clear K hK
        (repeat (first | refine TS.imp ?_ | refine n9 (by decide) ?_))
        rw [w64 (x := k + 1) (by omega) (by omega)]
        refine ⟨r - 1, _, by omega, ?_, k + 1, rfl, by omega, by omega⟩
        rw [show (k + 1).toNat = k.toNat + 1 by omega]
        simp only [dotK]
        rw [Int.toNat_of_nonneg k0]
        exact (Le.mv (by simp only [go_sem, hP, hn]; first | done | (simp; done) | (simp [intC]; done) | (repeat (first | rfl | constructor))) (by simp only [go_sem, hP, hn]; first | done | (simp; done) | (simp [intC]; done) | (repeat (first | rfl | constructor))))
      · have hk : k = st := by have := of_decide_eq_false hb; omega
        subst hk
        clear hb
        rw [Int.toNat_natCast, ← hacc]
        (repeat (first | refine TS.imp ?_ | refine n9 (by decide) ?_))
        refine TR.imp ?_; intro K hK; simp only [go_sem, hP, hn]
        rw [hrl]
        (repeat refine vc ?_)
        refine hK _ ?_; clear K hK
        (repeat (first | refine TS.imp ?_ | refine n9 (by decide) ?_))
        refine TR.imp ?_; intro K hK; simp only [go_sem, hP, hn]; (repeat refine vc ?_); refine hK _ ?_; clear K hK
        (repeat (first | refine TS.imp ?_ | refine n9 (by decide) ?_))
        rw [w64 (x := j + 1) (by omega) (by omega)]
        refine ⟨p - 1, _, by omega, ?_, j + 1, L.drop st, rfl, by omega, by omega, hLn.symm⟩
        exact (Le.mv (by simp only [go_sem, hP, hn]; first | done | (simp; done) | (simp [intC]; done) | (repeat (first | rfl | constructor))) (by simp only [go_sem, hP, hn]; first | done | (simp; done) | (simp [intC]; done) | (repeat (first | rfl | constructor))))
    · have hj : j = fs.length := by have := of_decide_eq_false hb; omega
      subst hj
      clear hb
      rw [Int.toNat_natCast]
      rw [WOk.next] at hL
      (repeat (first | refine TS.imp ?_ | refine n9 (by decide) ?_))
      refine TR.imp ?_; intro K hK; simp only [go_sem, hP, hn]
      (repeat refine vc ?_)
      refine CallN_cs (Hi := [] ) (by rw [hP, hT]; exact  post_c Tm n (accW n fs w c fs.length)) rfl rfl rfl trivial (by simp only [go_sem, hP, hn]; try trivial) (by simp only [go_sem, hP, hn]; try rfl) (by simp only [inH, go_sem, hP, hn]; try simp) (by rw [hn]; decide) ?_; simp only [go_sem, hP, hn]; (repeat refine vc ?_)
      refine hK _ ?_; clear K hK
      (repeat (first | refine TS.imp ?_ | refine n9 (by decide) ?_))
      refine TR.imp ?_; intro K hK; simp only [go_sem, hP, hn]; (repeat refine vc ?_); refine hK _ ?_; clear K hK
      (repeat (first | refine TS.imp ?_ | refine n9 (by decide) ?_))
      rw [w64 (x := c + 1) (by omega) (by omega)]
      refine ⟨q - 1, _, by omega, ?_, c + 1, m.set c.toNat (n.pst (accW n fs w c fs.length)), L, rfl, by omega, by omega, by simpa using hm, ?_, hL⟩
      · exact (Le.mv (by simp only [go_sem, hP, hn]; first | done | (simp; done) | (simp [intC]; done) | (repeat (first | rfl | constructor))) (by simp only [go_sem, hP, hn]; first | done | (simp; done) | (simp [intC]; done) | (repeat (first | rfl | constructor))))
      · rw [take_set c0 (by omega), ht, show (c + 1).toNat = c.toNat + 1 by omega]
        simp only [weighedN]
        rw [Int.toNat_of_nonneg c0]
  · have hc : c = n.bs.length := by have := of_decide_eq_false hb; omega
    subst hc
    rw [Int.toNat_natCast, List.take_of_length_le (by omega)] at ht
    subst ht
    refine Tr.le (Le.keep [5]) ?_; simp only [List.map_cons, List.map_nil, lk, Nat.reduceEqDiff, reduceIte]
    refine Tr.le (Le.ren 16 2000 (by rw [hpn] <;> rfl) rfl rfl) ?_; simp only [renT, renH, renO, renS, renL, rn, go_sem, hP, hn]
    (repeat (first | (refine TR.imp ?_; intro K hK; simp only [go_sem, hP, hn]; (repeat refine vc ?_); refine hK _ ?_; clear K hK) | refine TS.imp ?_ | refine n9 (by decide) ?_))
    simp only [RetG, go_sem]; (repeat with_reducible refine vc ?_)
    rfl
end
section
attribute [local go_sem] frD
theorem col_rd (fs : List (List Int)) (k : Int) {i : Int} (h0 : 0 ≤ i) (h1 : i < fs.length) : rd (col fs k) i = rd (fr fs i) k := by
  have hk : i.toNat < fs.length := by omega
  unfold col fr
  rw [rd, List.getD_eq_getElem?_getD, List.getElem?_map, List.getElem?_eq_getElem hk, List.getD_eq_getElem?_getD, List.getElem?_eq_getElem hk]
  rfl
theorem eachA_c {T : World → Prop} (Tm : TP T) (fs : List (List Int)) (w : Nat) (g : List Int → Int) (f : Nat) (m0 : 1 ≤ fs.length ∧ fs.length ≤ 4096) (hw : w ≤ 4096) (hlen : ∀ x ∈ fs, x.length = w)
    (hC : ∀ k : Int, 0 ≤ k → k < w → Ct Go.Proofs.Tryd.prog T f [.d (.row [.i .i64 0] ((col fs k).map intC))] true (fun r => r = .d (.i .i64 (g (col fs k))))) :
    Cg Go.Proofs.Tryd.prog T 119 [] [.d (frD fs), .fn f []] (fun r H => H = [(2000, .row 3 [.i .i64 0] ((eachL g fs w).map intC))] ∧ r = .own 2000) := by
  have hf0 : (fr fs 0).length = w := hlen _ (fr_mem (by omega) (by omega))
  refine Cg_of [2000] Tm Go.Proofs.Tryd.func119 rfl rfl Go.Proofs.Tryd.ntmps119 (by simp) rfl (rs := [.tmp 4]) rfl fun E hP hn hT hpn => ?_
  (repeat (first | refine TS.imp ?_ | refine n9 (by decide) ?_))
  refine TR.imp ?_; intro K hK; simp only [go_sem, hP, hn]; (repeat refine vc ?_); refine hK _ ?_; clear K hK
  (repeat (first | refine TS.imp ?_ | refine n9 (by decide) ?_))
  refine TR.imp ?_; intro K hK; simp only [go_sem, hP, hn]
  rw [show (fs.map frE).getD 0 [.nil] = [.row [.i .i64 0] ((fr fs 0).map intC)] from rw_fr fs 0 (by omega) (by omega)]
  simp only [go_sem, hP, hn]
  rw [hf0]
  (repeat refine vc ?_)
  refine hK _ ?_; clear K hK
  (repeat (first | refine TS.imp ?_ | refine n9 (by decide) ?_))
  refine TR.imp ?_; intro K hK; simp only [go_sem, hP, hn]; (repeat refine vc ?_); refine hK _ ?_; clear K hK
  (repeat (first | refine TS.imp ?_ | refine n9 (by decide) ?_))
  refine TR.imp ?_; intro K hK; simp only [go_sem, hP, hn]; (repeat refine vc ?_); refine hK _ ?_; clear K hK
  (repeat (first | refine TS.imp ?_ | refine n9 (by decide) ?_))
  refine Tr.le (Le.keep [0, 1, 5, 6, 19, 20]) ?_; simp only [List.map_cons, List.map_nil, lk, Nat.reduceEqDiff, reduceIte]
  refine Tr.loop (fun n s => ∃ (k : Int) (m xs : List Int), s = ⟨[(0, .d (frD fs)), (1, .fn f []), (5, .own 14), (6, .own 17), (19, .d (.i .i64 w)), (20, .d (.i .i64 k))], [(14, .row 3 [.i .i64 0] (m.map intC)), (17, .row 3 [.i .i64 0] (xs.map intC))]⟩ ∧ 0 ≤ k ∧ k + n = w ∧ m.length = w ∧ m.take k.toNat = eachL g fs k.toNat ∧ xs.length = fs.length) w ⟨_, (Le.mv (by simp only [go_sem, hP, hn]; first | done | (simp; done) | (simp [intC]; done) | (repeat (first | rfl | constructor))) (by simp only [go_sem, hP, hn]; first | done | (simp; done) | (simp [intC]; done) | (repeat (first | rfl | constructor)))), 0, List.replicate w 0, List.replicate fs.length 0, rfl, by omega, by omega, by simp, by simp [eachL], by simp⟩ ?_
  rintro n s ⟨k, m, xs, rfl, k0, k1, hm, ht, hx⟩
  (repeat (first | refine TS.imp ?_ | refine n9 (by decide) ?_))
  refine TR.imp ?_; intro K hK; simp only [go_sem, hP, hn]; (repeat refine vc ?_); refine hK _ ?_; clear K hK
  (repeat (first | refine TS.imp ?_ | refine n9 (by decide) ?_))
  refine Tr.cond rfl (fun hb => ?_) (fun hb => ?_)
  · have hk : k < w := by simpa using hb
    (repeat (first | refine TS.imp ?_ | refine n9 (by decide) ?_))
    refine TR.imp ?_; intro K hK; simp only [go_sem, hP, hn]; (repeat refine vc ?_); refine hK _ ?_; clear K hK
    (repeat (first | refine TS.imp ?_ | refine n9 (by decide) ?_))
    refine TR.imp ?_; intro K hK; simp only [go_sem, hP, hn]; (repeat refine vc ?_); refine hK _ ?_; clear K hK
    (repeat (first | refine TS.imp ?_ | refine n9 (by decide) ?_))
    refine Tr.le (Le.keep [0, 1, 5, 6, 7, 19, 20, 23, 24, 25]) ?_; simp only [List.map_cons, List.map_nil, lk, Nat.reduceEqDiff, reduceIte]
    refine Tr.loop (fun n s => ∃ (i : Int) (xs : List Int), s = ⟨[(0, .d (frD fs)), (1, .fn f []), (5, .own 14), (6, .own 17), (7, .d (.i .i64 k)), (19, .d (.i .i64 w)), (20, .d (.i .i64 k)), (23, .d (frD fs)), (24, .d (.i .i64 fs.length)), (25, .d (.i .i64 i))], [(14, .row 3 [.i .i64 0] (m.map intC)), (17, .row 3 [.i .i64 0] (xs.map intC))]⟩ ∧ 0 ≤ i ∧ i + n = fs.length ∧ xs.length = fs.length ∧ xs.take i.toNat = (col fs k).take i.toNat) fs.length ⟨_, (Le.mv (by simp only [go_sem, hP, hn]; first | done | (simp; done) | (simp [intC]; done) | (repeat (first | rfl | constructor))) (by simp only [go_sem, hP, hn]; first | done | (simp; done) | (simp [intC]; done) | (repeat (first | rfl | constructor)))), 0, xs, rfl, by omega, by omega, hx, by simp⟩ ?_
    clear hx xs
    rintro p s ⟨i, xs, rfl, i0, i1, hx, hxt⟩
    (repeat (first | refine TS.imp ?_ | refine n9 (by decide) ?_))
    refine TR.imp ?_; intro K hK; simp only [go_sem, hP, hn]; (repeat refine vc ?_); refine hK _ ?_; clear K hK
    (repeat (first | refine TS.imp ?_ | refine n9 (by decide) ?_))
    refine Tr.cond rfl (fun hc => ?_) (fun hc => ?_)
    · have hi : i < fs.length := by simpa using hc
      have hfl := hlen _ (fr_mem i0 hi)
      (repeat (first | refine TS.imp ?_ | refine n9 (by decide) ?_))
      refine TR.imp ?_; intro K hK; simp only [go_sem, hP, hn]
      rw [rw_fr fs i i0 hi]
      simp only [go_sem, hP, hn]
      (repeat refine vc ?_)
      refine hK _ ?_; clear K hK
      (repeat (first | refine TS.imp ?_ | refine n9 (by decide) ?_))
      refine TR.imp ?_; intro K hK; simp only [go_sem, hP, hn]; (repeat refine vc ?_); refine hK _ ?_; clear K hK
      (repeat (first | refine TS.imp ?_ | refine n9 (by decide) ?_))
      refine TR.imp ?_; intro K hK; simp only [go_sem, hP, hn]; (repeat refine vc ?_); refine hK _ ?_; clear K hK
      (repeat (first | refine TS.imp ?_ | refine n9 (by decide) ?_))
      rw [w64 (x := i + 1) (by omega) (by omega)]
      refine ⟨p - 1, _, by omega, ?_, i + 1, xs.set i.toNat (rd (fr fs i) k), rfl, by omega, by omega, by simpa using hx, ?_⟩
      · exact (Le.mv (by simp only [go_sem, hP, hn]; first | done | (simp; done) | (simp [intC]; done) | (repeat (first | rfl | constructor))) (by simp only [go_sem, hP, hn]; first | done | (simp; done) | (simp [intC]; done) | (repeat (first | rfl | constructor))))
      · rw [take_set i0 (by omega), hxt, take_rd i0 (by rw [col_len]; omega), col_rd fs k i0 hi]
    · have hi : i = fs.length := by have := of_decide_eq_false hc; omega
      subst hi
      rw [Int.toNat_natCast, List.take_of_length_le (by omega), List.take_of_length_le (by rw [col_len]; omega)] at hxt
      subst hxt
      (repeat (first | refine TS.imp ?_ | refine n9 (by decide) ?_))
      refine TR.imp ?_; intro K hK; simp only [go_sem, hP, hn]
      (repeat refine vc ?_)
      refine c1 (by rw [hP, hT]; exact hC k k0 hk) rfl rfl rfl trivial (by simp only [go_sem, hP, hn]; try trivial) (by simp only [go_sem, hP, hn]; try rfl) (by rw [hn]; decide) (by rfl) ?_; simp only [go_sem, hP, hn]; (repeat refine vc ?_)
      refine hK _ ?_; clear K hK
      (repeat (first | refine TS.imp ?_ | refine n9 (by decide) ?_))
      refine TR.imp ?_; intro K hK; simp only [go_sem, hP, hn]; (repeat refine vc ?_); refine hK _ ?_; clear K hK
      (repeat (first | refine TS.imp ?_ | refine n9 (by decide) ?_))
      rw [w64 (x := k + 1) (by omega) (by omega)]
      refine ⟨n - 1, _, by omega, ?_, k + 1, m.set k.toNat (g (col fs k)), col fs k, rfl, by omega, by omega, by simpa using hm, ?_, col_len fs k⟩
      · exact (Le.mv (by simp only [go_sem, hP, hn]; first | done | (simp; done) | (simp [intC]; done) | (repeat (first | rfl | constructor))) (by simp only [go_sem, hP, hn]; first | done | (simp; done) | (simp [intC]; done) | (repeat (first | rfl | constructor))))
      · rw [take_set k0 (by omega), ht, show (k + 1).toNat = k.toNat + 1 by omega, eachL_take, Int.toNat_of_nonneg k0]
  · have hk : k = w := by have := of_decide_eq_false hb; omega
    subst hk
    rw [Int.toNat_natCast, List.take_of_length_le (by omega)] at ht
    subst ht
    refine Tr.le (Le.keep [5]) ?_; simp only [List.map_cons, List.map_nil, lk, Nat.reduceEqDiff, reduceIte]
    refine Tr.le (Le.ren 14 2000 (by rw [hpn] <;> rfl) rfl rfl) ?_; simp only [renT, renH, renO, renS, renL, rn, go_sem, hP, hn]
    (repeat (first | (refine TR.imp ?_; intro K hK; simp only [go_sem, hP, hn]; (repeat refine vc ?_); refine hK _ ?_; clear K hK) | refine TS.imp ?_ | refine n9 (by decide) ?_))
    simp only [RetG, go_sem]; (repeat with_reducible refine vc ?_)
end
section
attribute [local go_sem] frD OB2
theorem eachB_c {T : World → Prop} (Tm : TP T) (fs : List (List Int)) (w : Nat) (g : List Int → Int) (n : Nd) (f : Nat) (m0 : 1 ≤ fs.length ∧ fs.length ≤ 4096) (hw : w ≤ 4096) (hlen : ∀ x ∈ fs, x.length = w)
    (hC : ∀ k : Int, 0 ≤ k → k < w → Cg Go.Proofs.Tryd.prog T f (OB2 n (col fs k)) [.own 1001, .ptr 1000 0] (fun r H => H = OB2 n (col fs k) ∧ r = .d (.i .i64 (g (col fs k))))) :
    Cg Go.Proofs.Tryd.prog T 119 [(1000, .box 50 n.cs)] [.d (frD fs), .fn f [.ptr 1000 0]] (fun r H => H = [(2000, .row 3 [.i .i64 0] ((eachL g fs w).map intC)), (1000, .box 50 n.cs)] ∧ r = .own 2000) := by
  have hf0 : (fr fs 0).length = w := hlen _ (fr_mem (by omega) (by omega))
  refine Cg_of [1000, 2000] Tm Go.Proofs.Tryd.func119 rfl rfl Go.Proofs.Tryd.ntmps119 (by simp) rfl (rs := [.tmp 4]) rfl fun E hP hn hT hpn => ?_
  (repeat (first | refine TS.imp ?_ | refine n9 (by decide) ?_))
  refine TR.imp ?_; intro K hK; simp only [go_sem, hP, hn]; (repeat refine vc ?_); refine hK _ ?_; clear K hK
  (repeat (first | refine TS.imp ?_ | refine n9 (by decide) ?_))
  refine TR.imp ?_; intro K hK; simp only [go_sem, hP, hn]
  rw [show (fs.map frE).getD 0 [.nil] = [.row [.i .i64 0] ((fr fs 0).map intC)] from rw_fr fs 0 (by omega) (by omega)]
  simp only [go_sem, hP, hn]
  rw [hf0]
  (repeat refine vc ?_)
  refine hK _ ?_; clear K hK
  (repeat (first | refine TS.imp ?_ | refine n9 (by decide) ?_))
  refine TR.imp ?_; intro K hK; simp only [go_sem, hP, hn]; (repeat refine vc ?_); refine hK _ ?_; clear K hK
  (repeat (first | refine TS.imp ?_ | refine n9 (by decide) ?_))
  refine TR.imp ?_; intro K hK; simp only [go_sem, hP, hn]; (repeat refine vc ?_); refine hK _ ?_; clear K hK
  (repeat (first | refine TS.imp ?_ | refine n9 (by decide) ?_))
  refine Tr.le (Le.keep [0, 1, 5, 6, 19, 20]) ?_; simp only [List.map_cons, List.map_nil, lk, Nat.reduceEqDiff, reduceIte]
  refine Tr.le (Le.ren 17 1001 (by rw [hpn] <;> rfl) rfl rfl) ?_; simp only [renT, renH, renO, renS, renL, rn, go_sem, hP, hn]
  refine Tr.loop (fun q s => ∃ (k : Int) (m xs : List Int), s = ⟨[(0, .d (frD fs)), (1, .fn f [.ptr 1000 0]), (5, .own 14), (6, .own 1001), (19, .d (.i .i64 w)), (20, .d (.i .i64 k))], [(14, .row 3 [.i .i64 0] (m.map intC)), (1000, .box 50 n.cs), (1001, .row 3 [.i .i64 0] (xs.map intC))]⟩ ∧ 0 ≤ k ∧ k + q = w ∧ m.length = w ∧ m.take k.toNat = eachL g fs k.toNat ∧ xs.length = fs.length) w ⟨_, (Le.mv (by simp only [go_sem, hP, hn]; first | done | (simp; done) | (simp [intC]; done) | (repeat (first | rfl | constructor))) (by simp only [go_sem, hP, hn]; first | done | (simp; done) | (simp [intC]; done) | (repeat (first | rfl | constructor)))), 0, List.replicate w 0, List.replicate fs.length 0, rfl, by omega, by omega, by simp, by simp [eachL], by simp⟩ ?_
  rintro q s ⟨k, m, xs, rfl, k0, k1, hm, ht, hx⟩
  (repeat (first | refine TS.imp ?_ | refine n9 (by decide) ?_))
  refine TR.imp ?_; intro K hK; simp only [go_sem, hP, hn]; (repeat refine vc ?_); refine hK _ ?_; clear K hK
  (repeat (first | refine TS.imp ?_ | refine n9 (by decide) ?_))
  refine Tr.cond rfl (fun hb => ?_) (fun hb => ?_)
  · have hk : k < w := by simpa using hb
    (repeat (first | refine TS.imp ?_ | refine n9 (by decide) ?_))
    refine TR.imp ?_; intro K hK; simp only [go_sem, hP, hn]; (repeat refine vc ?_); refine hK _ ?_; clear K hK
    (repeat (first | refine TS.imp ?_ | refine n9 (by decide) ?_))
    refine TR.imp ?_; intro K hK; simp only [go_sem, hP, hn]; (repeat refine vc ?_); refine hK _ ?_; clear K hK
    (repeat (first | refine TS.imp ?_ | refine n9 (by decide) ?_))
    refine Tr.le (Le.keep [0, 1, 5, 6, 7, 19, 20, 23, 24, 25]) ?_; simp only [List.map_cons, List.map_nil, lk, Nat.reduceEqDiff, reduceIte]
    refine Tr.loop (fun q s => ∃ (i : Int) (xs : List Int), s = ⟨[(0, .d (frD fs)), (1, .fn f [.ptr 1000 0]), (5, .own 14), (6, .own 1001), (7, .d (.i .i64 k)), (19, .d (.i .i64 w)), (20, .d (.i .i64 k)), (23, .d (frD fs)), (24, .d (.i .i64 fs.length)), (25, .d (.i .i64 i))], [(14, .row 3 [.i .i64 0] (m.map intC)), (1000, .box 50 n.cs), (1001, .row 3 [.i .i64 0] (xs.map intC))]⟩ ∧ 0 ≤ i ∧ i + q = fs.length ∧ xs.length = fs.length ∧ xs.take i.toNat = (col fs k).take i.toNat) fs.length ⟨_, (Le.mv (by simp only [go_sem, hP, hn]; first | done | (simp; done) | (simp [intC]; done) | (repeat (first | rfl | constructor))) (by simp only [go_sem, hP, hn]; first | done | (simp; done) | (simp [intC]; done) | (repeat (first | rfl | constructor)))), 0, xs, rfl, by omega, by omega, hx, by simp⟩ ?_
    clear hx xs
    rintro p s ⟨i, xs, rfl, i0, i1, hx, hxt⟩
    (repeat (first | refine TS.imp ?_ | refine n9 (by decide) ?_))
    refine TR.imp ?_; intro K hK; simp only [go_sem, hP, hn]; (repeat refine vc ?_); refine hK _ ?_; clear K hK
    (repeat (first | refine TS.imp ?_ | refine n9 (by decide) ?_))
    refine Tr.cond rfl (fun hc => ?_) (fun hc => ?_)
    · have hi : i < fs.length := by simpa using hc
      have hfl := hlen _ (fr_mem i0 hi)
      (repeat (first | refine TS.imp ?_ | refine n9 (by decide) ?_))
      refine TR.imp ?_; intro K hK; simp only [go_sem, hP, hn]
      rw [rw_fr fs i i0 hi]
      simp only [go_sem, hP, hn]
      (repeat refine vc ?_)
      refine hK _ ?_; clear K hK
      (repeat (first | refine TS.imp ?_ | refine n9 (by decide) ?_))
      refine TR.imp ?_; intro K hK; simp only [go_sem, hP, hn]; (repeat refine vc ?_); refine hK _ ?_; clear K hK
      (repeat (first | refine TS.imp ?_ | refine n9 (by decide) ?_))
      refine TR.imp ?_; intro K hK; simp only [go_sem, hP, hn]; (repeat refine vc ?_); refine hK _ ?_; clear K hK
      (repeat (first | refine TS.imp ?_ | refine n9 (by decide) ?_))
      rw [w64 (x := i + 1) (by omega) (by omega)]
      refine ⟨p - 1, _, by omega, ?_, i + 1, xs.set i.toNat (rd (fr fs i) k), rfl, by omega, by omega, by simpa using hx, ?_⟩
      · exact (Le.mv (by simp only [go_sem, hP, hn]; first | done | (simp; done) | (simp [intC]; done) | (repeat (first | rfl | constructor))) (by simp only [go_sem, hP, hn]; first | done | (simp; done) | (simp [intC]; done) | (repeat (first | rfl | constructor))))
      · rw [take_set i0 (by omega), hxt, take_rd i0 (by rw [col_len]; omega), col_rd fs k i0 hi]
    · have hi : i = fs.length := by have := of_decide_eq_false hc; omega
      subst hi
      rw [Int.toNat_natCast, List.take_of_length_le (by omega), List.take_of_length_le (by rw [col_len]; omega)] at hxt
      subst hxt
      (repeat (first | refine TS.imp ?_ | refine n9 (by decide) ?_))
      refine TR.imp ?_; intro K hK; simp only [go_sem, hP, hn]
      (repeat refine vc ?_)
      refine CallN_cs (Hi := OB2 n (col fs k) ) (by rw [hP, hT]; exact  hC k k0 hk) rfl rfl rfl trivial (by simp only [go_sem, hP, hn]; try trivial) (by simp only [go_sem, hP, hn]; try rfl) (by simp only [inH, go_sem, hP, hn]; try simp) (by rw [hn]; decide) ?_; simp only [go_sem, hP, hn]; (repeat refine vc ?_)
      refine hK _ ?_; clear K hK
      (repeat (first | refine TS.imp ?_ | refine n9 (by decide) ?_))
      refine TR.imp ?_; intro K hK; simp only [go_sem, hP, hn]; (repeat refine vc ?_); refine hK _ ?_; clear K hK
      (repeat (first | refine TS.imp ?_ | refine n9 (by decide) ?_))
      rw [w64 (x := k + 1) (by omega) (by omega)]
      refine ⟨q - 1, _, by omega, ?_, k + 1, m.set k.toNat (g (col fs k)), col fs k, rfl, by omega, by omega, by simpa using hm, ?_, col_len fs k⟩
      · exact (Le.mv (by simp only [go_sem, hP, hn]; first | done | (simp; done) | (simp [intC]; done) | (repeat (first | rfl | constructor))) (by simp only [go_sem, hP, hn]; first | done | (simp; done) | (simp [intC]; done) | (repeat (first | rfl | constructor))))
      · rw [take_set k0 (by omega), ht, show (k + 1).toNat = k.toNat + 1 by omega, eachL_take, Int.toNat_of_nonneg k0]
  · have hk : k = w := by have := of_decide_eq_false hb; omega
    subst hk
    rw [Int.toNat_natCast, List.take_of_length_le (by omega)] at ht
    subst ht
    refine Tr.le (Le.keep [5]) ?_; simp only [List.map_cons, List.map_nil, lk, Nat.reduceEqDiff, reduceIte]
    refine Tr.le (Le.ren 14 2000 (by rw [hpn] <;> rfl) rfl rfl) ?_; simp only [renT, renH, renO, renS, renL, rn, go_sem, hP, hn]
    (repeat (first | (refine TR.imp ?_; intro K hK; simp only [go_sem, hP, hn]; (repeat refine vc ?_); refine hK _ ?_; clear K hK) | refine TS.imp ?_ | refine n9 (by decide) ?_))
    simp only [RetG, go_sem]; (repeat with_reducible refine vc ?_)
end
section
attribute [local go_sem] frD
end
section
attribute [local go_sem] frD
end
section
attribute [local go_sem] prmT
/-- what a node weighs -/
def costV (n : Nd) (w : Int) : Int := if (rWeighs n.k && n.chk [w] == 0) = true then n.ws.length else 0
def macF (ns : List Nd) (W : List Int) (s i : Int) : Int := wrap64 (s + costV (nd ns (i - 1)) (rd W (rd (nd ns (i - 1)).inn 0)))
end
section
attribute [local go_sem] prmT
/-- what a node asks of one of its inputs -/
def roomV (n : Nd) (rate ahead : Int) : Int := if (n.k == 7 || n.k == 8) = true then (if rate = 0 then 1 else wrap64 (wrap64 (Int.tdiv (wrap64 (wrap64 (ahead + rate) - 1)) rate) + 1)) else n.span
/-- what a node asks, of input j -/
def rmJ (q : Nd) (r top : Int) (hi : List Int) (o : List Int) (j : Int) : List Int := o.set j.toNat (mx (rd o j) (roomV q r (wrap64 (top - rd hi j))))
def rmF (ns : List Nd) (R hi : List Int) (o : List Int) (i : Int) : List Int := (nd ns (i - 1)).inn.foldl (rmJ (nd ns (i - 1)) (rd R i) (mostL ((nd ns (i - 1)).inn.map (rd hi))) hi) o
end
section
theorem Made16_c {T : World → Prop} (Tm : TP T) (l0 : List Int) : Cg Go.Proofs.Tryd.prog T 12 [] [.d (.row [.i .i64 0] (l0.map intC))] PMade := by
  refine Cg_of [2000] Tm Go.Proofs.Tryd.func12 rfl rfl Go.Proofs.Tryd.ntmps12 (by simp) rfl (rs := [.cell 2 26]) rfl fun E hP hn hT hpn => ?_
  (repeat (first | refine TS.imp ?_ | refine n9 (by decide) ?_))
  refine TR.imp ?_; intro K hK; simp only [go_sem, hP, hn]; (repeat refine vc ?_); refine hK _ ?_; clear K hK
  (repeat (first | refine TS.imp ?_ | refine n9 (by decide) ?_))
  refine TR.imp ?_; intro K hK; simp only [go_sem, hP, hn]
  (repeat refine vc ?_)
  refine CallN_cx (Hi := []) (by rw [hP, hT]; exact Made15_c Tm l0 ) rfl rfl rfl trivial (by simp only [go_sem, hP, hn]; try trivial) (by simp only [go_sem, hP, hn]; try rfl) trivial (by rw [hn]; decide) (fun r Ho hr => ?_); obtain  ⟨wd, lo, hi, out, ns, rfl, rfl, hG⟩ := hr; refine ⟨fun k _ => hpn k rfl, ?_⟩; simp only [cgS, newK, touK, go_sem, hP, hn]; (repeat refine vc ?_)
  refine hK _ ?_; clear K hK
  (repeat (first | (refine TR.imp ?_; intro K hK; simp only [go_sem, hP, hn]; (repeat refine vc ?_); refine hK _ ?_; clear K hK) | refine TS.imp ?_ | refine n9 (by decide) ?_))
  simp only [RetG, go_sem]; (repeat with_reducible refine vc ?_)
  exact ⟨wd, lo, hi, out, ns, rfl, rfl, hG⟩
attribute [local simp] ring
end
section
def nP : Nd := ⟨3, [0], 0, 3, 2, 1, 0, 0, [], [], 0, 0, 0, 0, 0⟩
def nC : Nd := ⟨1, [1], 1, 2, 1, 1, 1, 0, [1, 1], [0], 0, 0, 0, 0, 0⟩
attribute [local go_sem] nP nC
end
end Go.Proofs.YtgomeljgbjgbkaaDoor.Aw
namespace Go.Proofs.YtgomeljgbjgbkaaDoor.Aw
open Go.RowKit
set_option maxRecDepth 100000
/-! a frame is ready just as soon as the last frame is there that it hangs on -/
def p3 : Nat → Int
  | 0 => 1
  | r + 1 => 3 * p3 r
theorem p3_le : ∀ r : Nat, r ≤ 12 → 1 ≤ p3 r ∧ p3 r ≤ 531441 := fun r hr => (by decide +kernel : ∀ r : Fin 13, 1 ≤ p3 r.val ∧ p3 r.val ≤ 531441) ⟨r, by omega⟩
theorem NodeG.rate_v {N : Int} {n : Nd} {W R : Int → Int} {rk : Int → Nat} {i : Int} (h : NodeG N n W R rk i) : R i = (if (n.k == 5) = true then 0 else wrap64 (R (rd n.inn 0) * n.rStp)) ∧ (R (rd n.inn 0) = 0 → rWin n.k = false ∧ n.k ≠ 5) := by
  have h0m : rd n.inn 0 ∈ n.inn := rd_mem (by omega) (by have := h.l1; omega)
  have hr0 : rd (n.inn.map R) 0 = R (rd n.inn 0) := rd_map h.l1
  have hst := h.still _ h0m
  refine ⟨?_, hst⟩
  have ha : (n.inn.map R).all (· == R (rd n.inn 0)) = true := List.all_eq_true.2 fun x hx => by
    obtain ⟨j, hj, rfl⟩ := List.mem_map.1 hx
    simpa using h.same j hj _ h0m
  have hz : (R (rd n.inn 0) == 0 && (rWin n.k || n.k == 5)) = false := by
    cases e : (R (rd n.inn 0) == 0) with
    | false => rfl
    | true =>
      have := hst (by simpa using e)
      rw [this.1, show (n.k == 5) = false by simpa using this.2]; rfl
  rw [h.rt]
  unfold Nd.rate
  rw [hr0, ha, hz]
  simp only [Bool.false_eq_true, if_false, Bool.true_eq_false]
theorem inn12 {N : Int} {n : Nd} {W R : Int → Int} {rk : Int → Nat} {i : Int} (h : NodeG N n W R rk i) : (∃ a, n.inn = [a]) ∨ ∃ a b, n.inn = [a, b] := by
  have h1 := h.l1
  have h2 := h.l2
  match hq : n.inn, h1, h2 with
  | [a], _, _ => exact .inl ⟨a, rfl⟩
  | [a, b], _, _ => exact .inr ⟨a, b, rfl⟩
section
variable {wd : Int} {ns : List Nd} {W R : Int → Int} {rk : Int → Nat} (h : GG wd ns W R rk)
include h
theorem GG.rates : ∀ (r : Nat), r ≤ 12 → ∀ i : Int, 0 ≤ i → i ≤ ns.length → rk i ≤ r → 0 ≤ R i ∧ R i ≤ p3 r
  | r, hr, i, i0, i1, hk => by
    have hp := p3_le r hr
    rcases Int.lt_or_le 0 i with i2 | i2
    · have hn := (h.node i i2 i1).1
      have hw := hn.wf
      obtain ⟨e, _⟩ := hn.rate_v
      have hj := hn.inn _ (rd_mem (l := (nd ns (i - 1)).inn) (j := 0) (by omega) (by have := hn.l1; omega))
      match r, hr, hk, hp with
      | 0, _, hk, _ => omega
      | r + 1, hr, hk, hp =>
        have ih := GG.rates r (by omega) _ hj.1 hj.2.1 (by omega)
        have hp2 := p3_le r (by omega)
        have hs := hw.st
        rw [e]
        split
        · omega
        · have m := mul_le (R (rd (nd ns (i - 1)).inn 0)) (p3 r) (nd ns (i - 1)).rStp 3 ih.1 ih.2 (by omega) hs.2
          rw [w64 (by omega) (by omega)]
          simp only [p3]
          omega
    · obtain rfl : i = 0 := by omega
      rw [h.R0]; omega
end
theorem fewest1 {a : Int} (h : 0 ≤ a) : fewestV [a] = a := by
  unfold fewestV
  simp only [List.foldl_cons, List.foldl_nil, mn, mx]
  split <;> (try split) <;> omega
theorem fewest2 {a b : Int} (h : 0 ≤ a) (h2 : 0 ≤ b) : fewestV [a, b] = mn a b := by
  unfold fewestV
  simp only [List.foldl_cons, List.foldl_nil, mn, mx]
  repeat' split
  all_goals omega
theorem most1 (a : Int) : mostL [a] = a := by
  unfold mostL
  simp [mx, rd]
theorem most2 (a b : Int) : mostL [a, b] = mx a b := by
  unfold mostL
  simp [mx, rd]
def wantV (N r hi : Int) : Int := if 0 < r ∧ hi ≤ N - 1 then (N - 1 - hi) / r + 1 else 0
theorem want_nn {N r hi : Int} : 0 ≤ wantV N r hi := by
  unfold wantV
  split
  · have := Int.ediv_nonneg (a := N - 1 - hi) (b := r) (by omega) (by omega)
    omega
  · omega
theorem want_mono {N r a b : Int} (h : a ≤ b) : wantV N r b ≤ wantV N r a := by
  unfold wantV
  split
  · rw [if_pos (by omega)]
    have := Int.ediv_le_ediv (a := N - 1 - b) (b := N - 1 - a) (c := r) (by omega) (by omega)
    omega
  · exact want_nn
theorem want_two {N r a b : Int} : mn (wantV N r a) (wantV N r b) = wantV N r (mx a b) := by
  unfold mn mx
  by_cases h : b > a
  · rw [if_pos h]
    have := want_mono (N := N) (r := r) (show a ≤ b by omega)
    split <;> omega
  · rw [if_neg h]
    have := want_mono (N := N) (r := r) (show b ≤ a by omega)
    rw [if_neg (by omega)]
theorem ready_want {n : Nd} (h : WF n) {l : List Int} {N r H : Int} (k5 : n.k ≠ 5) (hN : 0 ≤ N ∧ N ≤ 1099511627776) (hr : 1 ≤ r ∧ r ≤ 531441) (hH : 0 ≤ H) (ht : fewestV l = wantV N r H) : n.rReady l = wantV N (r * n.rStp) (H + r * (n.rSpan - 1 - n.rLeft)) := by
  have hk : (n.k == 5) = false := by simpa using k5
  have hst := h.st
  have hlf := h.lf
  have hsp := h.sp
  have hl0 : 0 ≤ r * (n.rSpan - 1 - n.rLeft) := Int.mul_nonneg (by omega) (by omega)
  have hrs : 0 < r * n.rStp := Int.mul_pos (by omega) (by omega)
  unfold Nd.rReady
  rw [ht, hk]
  by_cases hM : H ≤ N - 1
  · have q0 := Int.ediv_nonneg (a := N - 1 - H) (b := r) (by omega) (by omega)
    have q1 := Int.ediv_le_self (a := N - 1 - H) r (by omega)
    have e0 : wantV N r H = (N - 1 - H) / r + 1 := by unfold wantV; rw [if_pos ⟨by omega, hM⟩]
    rw [e0]
    cases hw : rWin n.k with
    | false =>
      obtain ⟨a1, a2, a3, _⟩ := h.one hw
      rw [a1, a2, a3, show (1 : Int) - 1 - 0 = 0 by decide, Int.mul_zero, Int.add_zero, Int.mul_one, e0]
      rfl
    | true =>
      have hd : decide (0 < (N - 1 - H) / r + 1) = true := decide_eq_true (by omega)
      rw [hd, Bool.and_self, if_pos rfl, h.ends (by omega) (by omega)]
      unfold wantV
      have hiff := Int.ediv_lt_iff_lt_mul (a := N - 1 - H) (b := n.rSpan - 1 - n.rLeft) (c := r) (by omega)
      rw [Int.mul_comm] at hiff
      by_cases hc : (N - 1 - H) / r < n.rSpan - 1 - n.rLeft
      · have := hiff.1 hc
        rw [if_pos (by omega), if_neg (by omega)]
      · have : ¬ (N - 1 - H < r * (n.rSpan - 1 - n.rLeft)) := fun e => hc (hiff.2 e)
        rw [if_neg (by omega), if_pos ⟨hrs, by omega⟩]
        have e1 : N - 1 - (H + r * (n.rSpan - 1 - n.rLeft)) = (N - 1 - H) + r * (-(n.rSpan - 1 - n.rLeft)) := by rw [Int.mul_neg]; omega
        rw [e1, ← Int.ediv_ediv_of_nonneg (by omega), Int.add_mul_ediv_left _ _ (by omega)]
        congr 2
        omega
  · have e0 : wantV N r H = 0 := by unfold wantV; rw [if_neg (by omega)]
    rw [e0]
    unfold wantV
    rw [if_neg (by simp), if_neg (by decide), if_neg (by omega)]
section
variable {wd : Int} {ns : List Nd} {W R : Int → Int} {rk : Int → Nat} (h : GG wd ns W R rk) {R2 : List Int} (hR : ∀ x : Int, 0 ≤ x → x ≤ ns.length → rd R2 x = R x) {N : Int} (hN : 0 ≤ N ∧ N ≤ 1099511627776)
include h hR
theorem GG.hi_eq : rd (hiL ns R2) 0 = 0 ∧ ∀ i : Int, 1 ≤ i → i ≤ ns.length → rd (hiL ns R2) i = hiF ns R2 (rd (hiL ns R2)) 0 i := by
  obtain ⟨a, b⟩ := h.ordL (d := (0 : Int)) (f := hiF ns R2) hiF_loc (List.replicate (ns.length + 1) 0) (by simp)
  have e : ∀ x : Int, ga (0 : Int) (List.replicate (ns.length + 1) 0) x = 0 := fun x => by
    unfold ga
    rw [List.getD_eq_getElem?_getD, List.getElem?_replicate]
    split <;> rfl
  refine ⟨?_, fun i i1 i2 => ?_⟩
  · rw [e] at a; exact a
  · have := b i i1 i2
    rw [e] at this
    exact this
omit hR in
theorem GG.cnt_eq (g : Nd → List Int → Int) : rd (cntL ns g N) 0 = N ∧ ∀ i : Int, 1 ≤ i → i ≤ ns.length → rd (cntL ns g N) i = g (nd ns (i - 1)) ((nd ns (i - 1)).inn.map (rd (cntL ns g N))) := by
  obtain ⟨a, b⟩ := h.ordL (d := (0 : Int)) (f := cntF ns g) cntF_loc (N :: List.replicate ns.length 0) (by simp)
  exact ⟨a, fun i i1 i2 => b i i1 i2⟩
include hN
/-- what is ready goes by a node's rate and its reach -/
theorem GG.ready : ∀ (r : Nat), r ≤ 12 → ∀ i : Int, 0 ≤ i → i ≤ ns.length → rk i ≤ r → (R i = 0 → rd (cntL ns Nd.rReady N) i = 0) ∧ (0 < R i → (0 ≤ rd (hiL ns R2) i ∧ rd (hiL ns R2) i ≤ r * 10000000) ∧ rd (cntL ns Nd.rReady N) i = wantV N (R i) (rd (hiL ns R2) i))
  | r, hr, i, i0, i1, hk => by
    obtain ⟨u0, u⟩ := h.hi_eq hR
    obtain ⟨c0, c⟩ := h.cnt_eq (N := N) Nd.rReady
    rcases Int.lt_or_le 0 i with i2 | i2
    · have hn := (h.node i i2 i1).1
      have hw := hn.wf
      obtain ⟨e, hst⟩ := hn.rate_v
      have hu := u i i2 i1
      have hc := c i i2 i1
      have hRi := hR i i0 i1
      have hin := hn.inn
      match r, hr, hk with
      | 0, _, hk =>
        have := hin _ (rd_mem (l := (nd ns (i - 1)).inn) (j := 0) (by omega) (by have := hn.l1; omega))
        omega
      | r + 1, hr, hk =>
        have ih : ∀ j ∈ (nd ns (i - 1)).inn, (R j = 0 → rd (cntL ns Nd.rReady N) j = 0) ∧ (0 < R j → (0 ≤ rd (hiL ns R2) j ∧ rd (hiL ns R2) j ≤ r * 10000000) ∧ rd (cntL ns Nd.rReady N) j = wantV N (R j) (rd (hiL ns R2) j)) := fun j hj => by
          have := hin j hj
          exact GG.ready r (by omega) j this.1 this.2.1 (by omega)
        have hRj : ∀ j ∈ (nd ns (i - 1)).inn, 0 ≤ R j ∧ R j ≤ 531441 := fun j hj => by
          have := hin j hj
          have h1 := h.rates r (by omega) j this.1 this.2.1 (by omega)
          have h2 := p3_le r (by omega)
          omega
        have hj0 := rd_mem (l := (nd ns (i - 1)).inn) (j := 0) (by omega) (by have := hn.l1; omega)
        have hsame := fun j hj => hn.same j hj _ hj0
        have h12 := inn12 hn
        rw [hc]
        clear hc c u u0 c0 hin
        unfold hiF at hu
        rw [hRi] at hu
        generalize nd ns (i - 1) = n at *
        generalize hr0 : R (rd n.inn 0) = ra at *
        have hra := hRj _ hj0
        rw [hr0] at hra
        have hjr := h.node
        clear hjr
        have hR0 : rd R2 (rd n.inn 0) = ra := by
          have := hn.inn _ hj0
          rw [hR _ this.1 this.2.1, hr0]
        rw [hR0] at hu
        have hone : rWin n.k = false → n.rReady (n.inn.map (rd (cntL ns Nd.rReady N))) = if (n.k == 5) = true then 0 else fewestV (n.inn.map (rd (cntL ns Nd.rReady N))) := fun e => by unfold Nd.rReady; rw [e]; rfl
        rcases Int.lt_or_le 0 ra with hp | hp
        · -- frames come
          by_cases k5 : n.k = 5
          · rw [k5] at e
            have e : R i = 0 := e
            refine ⟨fun _ => ?_, fun e2 => by omega⟩
            rw [hone (by rw [k5]; rfl), k5]; rfl
          · rw [if_neg (by simpa using k5)] at e
            have m := mul_le ra 531441 n.rStp 3 hra.1 hra.2 (by have := hw.st; omega) hw.st.2
            have mp : 0 < ra * n.rStp := Int.mul_pos hp (by have := hw.st; omega)
            rw [w64 (x := ra * n.rStp) (by omega) (by omega)] at e
            refine ⟨fun e2 => by omega, fun _ => ?_⟩
            rw [if_neg (by simp; omega)] at hu
            have hH : fewestV (n.inn.map (rd (cntL ns Nd.rReady N))) = wantV N ra (mostL (n.inn.map (rd (hiL ns R2)))) ∧ 0 ≤ mostL (n.inn.map (rd (hiL ns R2))) ∧ mostL (n.inn.map (rd (hiL ns R2))) ≤ r * 10000000 := by
              rcases h12 with ⟨a, ea⟩ | ⟨a, b, ea⟩
              · rw [ea] at ih hsame hr0 ⊢
                have sa := hsame a (by simp)
                have ra0 : R a = ra := hr0
                obtain ⟨x1, x2⟩ := (ih a (by simp)).2 (by omega)
                simp only [List.map_cons, List.map_nil]
                rw [x2, ra0, fewest1 want_nn, most1]
                exact ⟨rfl, x1⟩
              · rw [ea] at ih hsame hr0 ⊢
                have ra0 : R a = ra := hr0
                have sb : R b = ra := hsame b (by simp)
                obtain ⟨x1, x2⟩ := (ih a (by simp)).2 (by omega)
                obtain ⟨y1, y2⟩ := (ih b (by simp)).2 (by omega)
                simp only [List.map_cons, List.map_nil]
                rw [x2, y2, sb, ra0, fewest2 want_nn want_nn, most2, want_two]
                refine ⟨rfl, ?_⟩
                unfold mx
                split <;> omega
            generalize mostL (n.inn.map (rd (hiL ns R2))) = H at *
            obtain ⟨t1, t2, t3⟩ := hH
            have hl := hw.lf
            have hsp := hw.sp
            have m2 := mul_le ra 531441 (n.rSpan - 1 - n.rLeft) 9 hra.1 hra.2 (by omega) (by omega)
            rw [w64 (x := n.rSpan - 1) (by omega) (by omega), w64 (x := n.rSpan - 1 - n.rLeft) (by omega) (by omega), w64 (x := ra * _) (by omega) (by omega), w64 (by omega) (by omega)] at hu
            rw [ready_want hw k5 hN ⟨by omega, hra.2⟩ t2 t1, e, hu]
            exact ⟨⟨by omega, by simp only [Int.natCast_add]; omega⟩, rfl⟩
        · -- none come
          have hz : ra = 0 := by omega
          obtain ⟨w0, k5⟩ := hst hz
          rw [if_neg (by simpa using k5), hz, Int.zero_mul] at e
          have e : R i = 0 := e.trans (w64 (x := 0) (by decide) (by decide))
          refine ⟨fun _ => ?_, fun e2 => by omega⟩
          rw [hone w0, if_neg (by simpa using k5)]
          rcases h12 with ⟨a, ea⟩ | ⟨a, b, ea⟩
          · rw [ea] at ih hsame hr0 ⊢
            have ra0 : R a = ra := hr0
            have x := (ih a (by simp)).1 (by omega)
            simp only [List.map_cons, List.map_nil]
            rw [x]; rfl
          · rw [ea] at ih hsame hr0 ⊢
            have ra0 : R a = ra := hr0
            have sb : R b = ra := hsame b (by simp)
            have x := (ih a (by simp)).1 (by omega)
            have y := (ih b (by simp)).1 (by omega)
            simp only [List.map_cons, List.map_nil]
            rw [x, y]; rfl
    · obtain rfl : i = 0 := by omega
      rw [h.R0, c0, u0]
      refine ⟨fun e => by omega, fun _ => ⟨⟨by omega, by omega⟩, ?_⟩⟩
      unfold wantV
      split
      · rw [Int.ediv_one]; omega
      · omega
end
end Go.Proofs.YtgomeljgbjgbkaaDoor.Aw
namespace Go.Proofs.YtgomeljgbjgbkaaDoor.Aw
open Go.RowKit
attribute [local go_sem_proc] Nat.reduceAdd Nat.reduceMul Nat.reduceSub Nat.reduceEqDiff Nat.reduceLeDiff Nat.reduceBEq Nat.reduceBNe Int.reduceToNat reduceIte reduceCtorEq
attribute [local go_sem] initT SQ so pe he ev lk constS stp stc gdS nth pickS pickD loadS cellsAt okAt fieldAddrS fieldS partS indexAddrS indexS extractS binS binD binI isShift unS convS lenS sliceS bndI bndC mmS mm2 mmD builtS fillS okCells cellsS splS solid aliveL alive okS boxS allocS makeS bsliceS elemsOf dcells stF frzW storeS frzA frz frzT frzS frzL frzO frzH appS srcS appVC killS killT killC killH killO k1 k2 S.has S.hasL St.add St.upd dropH lh cond_or cond_and rw_intC rw_intC0 rw_set rw_app rw_apps rw_rep rw_slice wr64 cond_true cond_false true_and and_true List.map_cons List.map_nil List.length_cons List.length_nil List.drop_succ_cons List.drop_zero List.take_succ_cons List.take_zero List.nil_append List.cons_append List.getD_cons_zero List.getD_cons_succ List.headD_cons List.length_map ite_true ite_false if_true if_false Bool.false_eq_true and_self forall_const List.drop_nil List.take_nil List.append_nil Option.map_some Option.map_none List.mapM_cons List.mapM_nil Option.bind_eq_bind Option.bind_some Option.pure_def knows resL resV oneS freshS freshL cv cvL stpL stcL or_true true_or or_false false_or List.all_cons List.all_nil Bool.and_self Bool.or_self Bool.true_and Bool.and_true Bool.or_false Bool.false_or implies_true flatD allm_nil allm_cons List.getElem?_cons_zero List.getElem?_cons_succ Nd.cs Nd.ds ml mln Option.isSome_some Option.isSome_none eq_self Int.toNat_natCast AP ldOk isLd inL subL crt chg chgS chgP idxs aliveW Option.toList_some Option.toList_none Option.toList RetG Nd.win frzA offK keepH aliveK nkH closedH closedO keysK inH St.upd rowO List.contains_cons List.contains_nil Bool.or_self Option.isNone_none Option.isNone_some Bool.not_true Bool.not_false gcs rowN e0N frzC
attribute [local go_sem] sz2 ag2 ok2 kk2 iu2 zc2 zd2 by2 sz3 ag3 ok3 kk3 iu3 zc3 zd3 by3 sz4 ag4 ok4 bo4 zc4 zd4 by4 sz5 ag5 ok5 kk5 iu5 zc5 zd5 by5 sz9 ag9 ok9 st9 zc9 zd9 by9 sz12 ag12 ok12 kk12 iu12 zc12 zd12 by12 sz15 ag15 ok15 zc15 by15 sz16 ag16 ok16 zc16 by16 sz21 ag21 ok21 kk21 iu21 zc21 zd21 by21 sz22 ag22 ok22 sl22 zc22 zd22 by22 sz24 ag24 ok24 sl24 zc24 zd24 by24 sz25 ag25 ok25 zc25 zd25 pl25 by25 fl25_0 fl25_1 fl25_2 fl25_3 fl25_4 sz26 ag26 ok26 zc26 zd26 pl26 by26 fl26_0 fl26_1 fl26_2 fl26_3 fl26_4 sz30 ag30 ok30 sl30 ar30 zc30 zd30 pl30 by30 sz31 ag31 ok31 sl31 ar31 zc31 zd31 pl31 by31 sz32 ag32 ok32 sl32 zc32 zd32 by32 sz36 ag36 ok36 kk36 iu36 zc36 zd36 by36 sz37 ag37 ok37 zc37 zd37 pl37 by37 fl37_0 fl37_1 fl37_2 fl37_3 sz38 ag38 ok38 zc38 zd38 pl38 by38 fl38_0 fl38_1 fl38_2 fl38_3 sz40 ag40 ok40 sl40 zc40 zd40 by40 sz41 ag41 ok41 zc41 zd41 pl41 by41 fl41_0 fl41_1 sz42 ag42 ok42 zc42 zd42 pl42 by42 fl42_0 fl42_1 sz44 ag44 ok44 kk44 iu44 zc44 zd44 by44 sz49 ag49 ok49 zc49 zd49 pl49 by49 fl49_0 fl49_1 fl49_2 fl49_3 fl49_4 fl49_5 fl49_6 fl49_7 fl49_8 fl49_9 fl49_10 fl49_11 fl49_12 fl49_13 fl49_14 sz50 ag50 ok50 zc50 zd50 pl50 by50 fl50_0 fl50_1 fl50_2 fl50_3 fl50_4 fl50_5 fl50_6 fl50_7 fl50_8 fl50_9 fl50_10 fl50_11 fl50_12 fl50_13 fl50_14 sz55 ag55 ok55 zc55 zd55 pl55 by55 fl55_0 fl55_1 fl55_2 sz56 ag56 ok56 zc56 zd56 pl56 by56 fl56_0 fl56_1 fl56_2 sz65 ag65 ok65 sl65 zc65 zd65 by65 sz68 ag68 ok68 zc68 by68 sz81 ag81 ok81 zc81 zd81 pl81 by81 fl81_0 fl81_1 fl81_2 fl81_3 sz82 ag82 ok82 zc82 zd82 pl82 by82 fl82_0 fl82_1 fl82_2 fl82_3 sz87 ag87 ok87 zc87 by87 sz88 ag88 ok88 zc88 zd88 pl88 by88 fl88_0 fl88_1 fl88_2 sz89 ag89 ok89 zc89 zd89 pl89 by89 fl89_0 fl89_1 fl89_2 sz92 ag92 ok92 zc92 by92 sz93 ag93 ok93 zc93 zd93 pl93 by93 fl93_0 fl93_1 sz94 ag94 ok94 zc94 zd94 pl94 by94 fl94_0 fl94_1 sz98 ag98 ok98 zc98 zd98 pl98 by98 fl98_0 fl98_1 fl98_2 sz99 ag99 ok99 zc99 zd99 pl99 by99 fl99_0 fl99_1 fl99_2 sz112 ag112 ok112 sl112 ar112 zc112 zd112 pl112 by112 sz113 ag113 ok113 sl113 ar113 zc113 zd113 pl113 by113 sz124 ag124 ok124 zc124 zd124 pl124 by124 fl124_0 fl124_1 sz125 ag125 ok125 sl125 ar125 zc125 zd125 pl125 by125 sz126 ag126 ok126 zc126 by126 sz130 ag130 ok130 zc130 by130 sz132 ag132 ok132 zc132 zd132 pl132 by132 fl132_0 fl132_1 sz133 ag133 ok133 zc133 zd133 pl133 by133 fl133_0 fl133_1 sz151 ag151 ok151 kk151 iu151 zc151 zd151 by151 sz155 ag155 ok155 zc155 by155
section
attribute [local go_sem] PMade rtup
/-- what is known of a made graph -/
structure GF (wd lo hi out : Int) (ns : List Nd) (W R : Int → Int) (rk : Int → Nat) (W2 R2 : List Int) : Prop where
  gg : GG wd ns W R rk
  n0 : 1 ≤ ns.length ∧ ns.length ≤ 12
  look : lookG wd lo hi out ns = (0, order ns, W2, R2)
  wl : W2.length = ns.length + 1
  rl : R2.length = ns.length + 1
  eq : ∀ x : Int, 0 ≤ x → x ≤ ns.length → rd W2 x = W x ∧ rd R2 x = R x
  inn : ∀ n ∈ ns, n.inn.length ≤ 4096 ∧ n.ws.length ≤ 65536 ∧ n.bs.length ≤ 65536
theorem GM.gf {wd lo hi out : Int} {ns : List Nd} (h : GM wd lo hi out ns) : ∃ W R rk W2 R2, GF wd lo hi out ns W R rk W2 R2 := by
  obtain ⟨W, R, rk, hg⟩ := h.gg
  obtain ⟨W2, R2, h1, h2, h3, h4⟩ := hg.lookG h.may
  have := h.n0
  exact ⟨W, R, rk, W2, R2, hg, by omega, h1, h2, h3, h4, fun n hn => by have := h.inn n hn; omega⟩
section
variable {wd lo hi out : Int} {ns : List Nd} {W R : Int → Int} {rk : Int → Nat} {W2 R2 : List Int} (h : GF wd lo hi out ns W R rk W2 R2)
include h
theorem GF.ord : ∀ i ∈ order ns, 1 ≤ i ∧ i ≤ ns.length := ordR_range (o := []) (by simp)
theorem GF.ro : RO ns (order ns) := ⟨fun i hi => by
  have hr := h.ord i hi
  have hn := (h.gg.node i hr.1 hr.2).1
  exact ⟨hr, fun j hj => ⟨(hn.inn j hj).1, (hn.inn j hj).2.1⟩, hn.l1⟩, by rw [h.gg.order_len]; exact Nat.le_refl _⟩
theorem GF.co : CO ns (order ns) := ⟨fun i hi => by
  have hr := h.ord i hi
  have hn := (h.gg.node i hr.1 hr.2).1
  exact ⟨hr, fun j hj => ⟨(hn.inn j hj).1, (hn.inn j hj).2.1⟩, hn.st0⟩, by rw [h.gg.order_len]; have := h.n0; omega⟩
theorem GF.rank (i : Int) (h0 : 0 ≤ i) (h1 : i ≤ ns.length) : rk i ≤ 12 := by
  have := h.n0
  rcases Int.lt_or_le 0 i with i2 | i2
  · have := (h.gg.node i i2 h1).2; omega
  · have : i = 0 := by omega
    subst this; rw [h.gg.k0]; omega
/-- as many are ready as by the rate and the reach -/
theorem GF.wants {N : Int} (hN : 0 ≤ N ∧ N ≤ 1099511627776) (i : Int) (h0 : 0 ≤ i) (h1 : i ≤ ns.length) : (0 ≤ rd R2 i ∧ rd R2 i ≤ 531441) ∧
    (0 < rd R2 i → 0 ≤ rd (hiL ns R2) i ∧ rd (hiL ns R2) i ≤ 120000000) ∧ rd (cntL ns Nd.rReady N) i = (if 0 < rd R2 i ∧ rd (hiL ns R2) i ≤ N - 1 then (N - 1 - rd (hiL ns R2) i) / rd R2 i + 1 else 0) := by
  have hk := h.rank i h0 h1
  have hr := h.gg.rates 12 (by omega) i h0 h1 hk
  have hw := h.gg.ready (fun x a b => (h.eq x a b).2) hN 12 (by omega) i h0 h1 hk
  rw [(h.eq i h0 h1).2]
  refine ⟨⟨hr.1, by have := hr.2; simp only [p3] at this; omega⟩, fun hp => by have := (hw.2 hp).1; omega, ?_⟩
  rcases Int.lt_or_le 0 (R i) with hp | hp
  · rw [(hw.2 hp).2]; rfl
  · have : R i = 0 := by omega
    rw [hw.1 this, if_neg (by omega)]
end
end
section
attribute [local go_sem] PMade rtup
/-! a graph's order, and its nodes by their numbers -/
def idxL (n : Nat) : List Int := (List.range n).map fun k => ((k : Nat) : Int) + 1
section
variable {wd lo hi out : Int} {ns : List Nd} {W R : Int → Int} {rk : Int → Nat} {W2 R2 : List Int} (h : GF wd lo hi out ns W R rk W2 R2)
include h
end
/-! sums of costs -/
def addF (ns : List Nd) (W : List Int) (s i : Int) : Int := s + costV (nd ns (i - 1)) (rd W (rd (nd ns (i - 1)).inn 0))
/-! a Best behind Out -/
def nBe (out : Int) : Nd := ⟨11, [out], 0, 0, 0, 0, 0, 0, [], [], 0, 0, 0, 0, 0⟩
end
/-! rooms, and what is ahead -/
theorem size_span {n : Nd} {l : List Int} (hc : n.rchk l = 0) (h0 : 0 < n.size) : n.size ≤ n.rSpan := by
  obtain ⟨_, _, _, he, hs, _⟩ := rchk_unpack hc
  have h8 : n.e8 = false := by
    unfold Nd.else0 at he
    cases e6 : n.e6 with
    | true => rw [e6] at he; cases he
    | false =>
      rw [e6] at he
      cases e : n.e8 with
      | false => rfl
      | true => rw [e] at he; cases he
  have hs4 : n.s4 = false ∧ n.s8 = false := by
    unfold Nd.sized at hs
    cases e : n.s4 with
    | true => rw [e] at hs; cases hs
    | false =>
      rw [e] at hs
      cases e' : n.s8 with
      | false => exact ⟨rfl, rfl⟩
      | true => rw [e'] at hs; cases hs
  obtain ⟨h4, h88⟩ := hs4
  unfold Nd.rSpan
  cases e12 : (n.k == 12) with
  | true => rw [if_pos rfl]; omega
  | false =>
    rw [if_neg (by decide)]
    have hf : rFour n.k = true := by
      cases e : rFour n.k with
      | true => rfl
      | false =>
        unfold Nd.e8 at h8
        rw [e] at h8
        have e12' : (n.k != 12) = true := by simp at e12 ⊢; exact e12
        have es : (n.size != 0) = true := by simp; omega
        rw [e12', es] at h8
        simp at h8
    have hw : rWin n.k = true := by rw [rWin_four, hf]; rfl
    rw [hw, if_neg (by decide)]
    unfold Nd.s4 inB at h4
    unfold Nd.s8 inB at h88
    rw [hf] at h4 h88
    simp at h4 h88
    have hg : n.gap = 1 ∨ n.gap = 2 ∨ n.gap = 3 ∨ n.gap = 4 := by omega
    rw [w64 (x := n.size - 1) (by omega) (by omega)]
    rcases hg with e | e | e | e <;> rw [e] <;> rw [w64 (x := (n.size - 1) * _) (by omega) (by omega), w64 (by omega) (by omega)] <;> omega
theorem want_diff {N r a b : Int} (hr : 0 < r) (h : a ≤ b) : wantV N r a - wantV N r b ≤ (b - a + r - 1) / r := by
  have hd : 0 ≤ (b - a + r - 1) / r := Int.ediv_nonneg (by omega) (by omega)
  unfold wantV
  by_cases h1 : a ≤ N - 1
  · rw [if_pos ⟨hr, h1⟩]
    by_cases h2 : b ≤ N - 1
    · rw [if_pos ⟨hr, h2⟩]
      have := Int.le_ediv_of_mul_le hr (a := (N - 1 - a) / r - (N - 1 - b) / r) (b := b - a + r - 1) (by
        have m1 := Int.mul_ediv_add_emod (N - 1 - a) r
        have m2 := Int.mul_ediv_add_emod (N - 1 - b) r
        have q1 := Int.emod_nonneg (N - 1 - a) (show r ≠ 0 by omega)
        have q2 := Int.emod_lt_of_pos (N - 1 - b) hr
        rw [Int.sub_mul, Int.mul_comm _ r, Int.mul_comm _ r]
        omega)
      omega
    · rw [if_neg (fun h => h2 h.2)]
      have : (N - 1 - a) / r + 1 = (N - 1 - a + r) / r := by rw [Int.add_ediv_of_dvd_right (Int.dvd_refl r), Int.ediv_self (by omega)]
      rw [this]
      have := Int.ediv_le_ediv hr (show N - 1 - a + r ≤ b - a + r - 1 by omega)
      omega
  · rw [if_neg (fun h => h1 h.2), if_neg (fun h => h1 (by omega))]
    omega
theorem rd_sets {l : List Int} {i j v : Int} (hi : 0 ≤ i) (hi2 : i < l.length) (hj : 0 ≤ j) : rd (l.set i.toNat v) j = if j = i then v else rd l j := ga_set (d := (0 : Int)) hi hi2 hj
theorem le_mx (a b : Int) : a ≤ mx a b ∧ b ≤ mx a b := by unfold mx; split <;> omega
section
variable {q : Nd} {r top : Int} {hi : List Int} {N : Nat}
theorem rmJ_len (o : List Int) (j : Int) : (rmJ q r top hi o j).length = o.length := by simp [rmJ]
theorem rms_ge : ∀ (l : List Int) (o : List Int), o.length = N → (∀ j ∈ l, 0 ≤ j ∧ j < N) →
    (l.foldl (rmJ q r top hi) o).length = N ∧ (∀ x : Int, 0 ≤ x → rd o x ≤ rd (l.foldl (rmJ q r top hi) o) x) ∧ ∀ j ∈ l, roomV q r (wrap64 (top - rd hi j)) ≤ rd (l.foldl (rmJ q r top hi) o) j
  | [], o, ho, _ => ⟨ho, fun _ _ => Int.le_refl _, by simp⟩
  | j :: l, o, ho, hl => by
    have hj := hl j (by simp)
    obtain ⟨a, b, c⟩ := rms_ge l (rmJ q r top hi o j) (by rw [rmJ_len]; exact ho) fun x hx => hl x (by simp [hx])
    have hs : ∀ x : Int, 0 ≤ x → rd (rmJ q r top hi o j) x = if x = j then mx (rd o j) (roomV q r (wrap64 (top - rd hi j))) else rd o x := fun x hx => rd_sets hj.1 (by omega) hx
    refine ⟨a, fun x hx => Int.le_trans ?_ (b x hx), fun x hx => ?_⟩
    · rw [hs x hx]
      split
      · rename_i e; subst e; exact (le_mx _ _).1
      · exact Int.le_refl _
    · rcases List.mem_cons.1 hx with rfl | hx
      · refine Int.le_trans ?_ (b x hj.1)
        rw [hs x hj.1, if_pos rfl]; exact (le_mx _ _).2
      · exact c x hx
end
theorem rmF_ge {ns : List Nd} {R hi : List Int} : ∀ (os : List Int) (o : List Int), o.length = ns.length + 1 → (∀ i ∈ os, ∀ j ∈ (nd ns (i - 1)).inn, 0 ≤ j ∧ j ≤ ns.length) →
    (os.foldl (rmF ns R hi) o).length = ns.length + 1 ∧ (∀ x : Int, 0 ≤ x → rd o x ≤ rd (os.foldl (rmF ns R hi) o) x) ∧ ∀ i ∈ os, ∀ j ∈ (nd ns (i - 1)).inn, roomV (nd ns (i - 1)) (rd R i) (wrap64 (mostL ((nd ns (i - 1)).inn.map (rd hi)) - rd hi j)) ≤ rd (os.foldl (rmF ns R hi) o) j
  | [], o, ho, _ => ⟨ho, fun _ _ => Int.le_refl _, by simp⟩
  | i :: os, o, ho, hl => by
    obtain ⟨a, b, c⟩ := rms_ge (q := nd ns (i - 1)) (r := rd R i) (top := mostL ((nd ns (i - 1)).inn.map (rd hi))) (hi := hi) (N := ns.length + 1) (nd ns (i - 1)).inn o ho fun j hj => by have := hl i (by simp) j hj; omega
    obtain ⟨a', b', c'⟩ := rmF_ge os (rmF ns R hi o i) a fun x hx => hl x (by simp [hx])
    refine ⟨a', fun x hx => Int.le_trans (b x hx) (b' x hx), fun x hx j hj => ?_⟩
    rcases List.mem_cons.1 hx with rfl | hx
    · exact Int.le_trans (c j hj) (b' j (hl x (by simp) j hj).1)
    · exact c' x hx j hj
theorem fold_mx : ∀ (l : List Int) (a : Int), a ≤ l.foldl mx a ∧ (∀ x ∈ l, x ≤ l.foldl mx a) ∧ ∀ B : Int, a ≤ B → (∀ x ∈ l, x ≤ B) → l.foldl mx a ≤ B
  | [], a => ⟨Int.le_refl _, by simp, fun B h _ => h⟩
  | x :: l, a => by
    obtain ⟨h1, h2, h3⟩ := fold_mx l (mx a x)
    have hm := le_mx a x
    refine ⟨Int.le_trans hm.1 h1, fun y hy => ?_, fun B ha hB => h3 B ?_ fun y hy => hB y (by simp [hy])⟩
    · rcases List.mem_cons.1 hy with rfl | hy
      · exact Int.le_trans hm.2 h1
      · exact h2 y hy
    · have := hB x (by simp)
      unfold mx; split <;> omega
/-- the rooms of a graph -/
def rmL (ns : List Nd) (R : List Int) : List Int := (order ns).foldl (rmF ns R (hiL ns R)) (List.replicate (ns.length + 1) 1)
section
variable {wd lo hi out : Int} {ns : List Nd} {W R : Int → Int} {rk : Int → Nat} {W2 R2 : List Int} (h : GF wd lo hi out ns W R rk W2 R2)
include h
theorem GF.rooms : (rmL ns R2).length = ns.length + 1 ∧ (∀ x : Int, 0 ≤ x → x ≤ ns.length → 1 ≤ rd (rmL ns R2) x) ∧ ∀ i : Int, 1 ≤ i → i ≤ ns.length → ∀ j ∈ (nd ns (i - 1)).inn, roomV (nd ns (i - 1)) (rd R2 i) (wrap64 (mostL ((nd ns (i - 1)).inn.map (rd (hiL ns R2))) - rd (hiL ns R2) j)) ≤ rd (rmL ns R2) j := by
  obtain ⟨a, b, c⟩ := rmF_ge (ns := ns) (R := R2) (hi := hiL ns R2) (order ns) (List.replicate (ns.length + 1) 1) (by simp) fun i hi j hj => (h.ro.nd i hi).2.1 j hj
  refine ⟨a, fun x x0 x1 => ?_, fun i i1 i2 j hj => c i (h.gg.mem_order i i1 i2) j hj⟩
  have := b x x0
  have e : rd (List.replicate (ns.length + 1) (1 : Int)) x = 1 := by
    unfold rd
    rw [List.getD_eq_getElem?_getD, List.getElem?_replicate, if_pos (by omega)]; rfl
  rw [e] at this
  exact this
theorem GF.cnts {N : Int} (hN : 0 ≤ N ∧ N ≤ 1099511627776) (i : Int) (h0 : 0 ≤ i) (h1 : i ≤ ns.length) : rd (cntL ns Nd.rReady N) i = wantV N (rd R2 i) (rd (hiL ns R2) i) := (h.wants hN i h0 h1).2.2
/-- of Add, and Join, no input is ahead by as many frames as its room -/
theorem GF.ahead {N : Int} (hN : 0 ≤ N ∧ N ≤ 1099511627776) (i : Int) (i1 : 1 ≤ i) (i2 : i ≤ ns.length) (hk : (nd ns (i - 1)).k = 7 ∨ (nd ns (i - 1)).k = 8) (hr : 0 < rd R2 i) (j : Int) (hj : j ∈ (nd ns (i - 1)).inn) :
    rd (cntL ns Nd.rReady N) j - rd (cntL ns Nd.rReady N) i < rd (rmL ns R2) j := by
  have hm := (h.gg.node i i1 i2).1
  have hw := hm.wf
  have hjj := hm.inn j hj
  have hone := hw.one (by rcases hk with e | e <;> (unfold rWin; rw [e]; rfl))
  have hRi := (h.eq i (by omega) i2).2
  have hRx : ∀ x ∈ (nd ns (i - 1)).inn, rd R2 x = rd R2 i := fun x hx => by
    have hxx := hm.inn x hx
    have h0 := rd_mem (l := (nd ns (i - 1)).inn) (j := 0) (by omega) (by have := hm.l1; omega)
    have hx0 := hm.inn _ h0
    have hx0r := h.gg.rates 12 (by omega) _ hx0.1 hx0.2.1 (h.rank _ hx0.1 hx0.2.1)
    obtain ⟨e, _⟩ := hm.rate_v
    rw [(h.eq x hxx.1 hxx.2.1).2, hRi]
    rw [hm.same x hx _ h0, e, if_neg (by rcases hk with e | e <;> (rw [e]; decide)), hone.2.1, Int.mul_one]
    have : p3 12 = 531441 := by decide
    exact (w64 (by omega) (by omega)).symm
  have hB : ∀ x ∈ (nd ns (i - 1)).inn, 0 ≤ rd (hiL ns R2) x ∧ rd (hiL ns R2) x ≤ 120000000 := fun x hx => by
    have hxx := hm.inn x hx
    exact (h.wants hN x hxx.1 hxx.2.1).2.1 (by rw [hRx x hx]; exact hr)
  have hri := (h.wants hN i (by omega) i2).1
  have hl : (nd ns (i - 1)).inn.map (rd (hiL ns R2)) ≠ [] := by
    intro e
    have := hm.l1
    rw [List.map_eq_nil_iff] at e
    rw [e] at this; simp at this
  have h0m : rd ((nd ns (i - 1)).inn.map (rd (hiL ns R2))) 0 ∈ (nd ns (i - 1)).inn.map (rd (hiL ns R2)) := rd_mem (by omega) (by have := List.length_pos_iff.2 hl; omega)
  obtain ⟨t1, t2, t3⟩ := fold_mx ((nd ns (i - 1)).inn.map (rd (hiL ns R2))) (rd ((nd ns (i - 1)).inn.map (rd (hiL ns R2))) 0)
  rw [show List.foldl mx (rd ((nd ns (i - 1)).inn.map (rd (hiL ns R2))) 0) ((nd ns (i - 1)).inn.map (rd (hiL ns R2))) = mostL ((nd ns (i - 1)).inn.map (rd (hiL ns R2))) from rfl] at t1 t2 t3
  have hBm : ∀ y ∈ (nd ns (i - 1)).inn.map (rd (hiL ns R2)), 0 ≤ y ∧ y ≤ 120000000 := fun y hy => by
    obtain ⟨x, hx, rfl⟩ := List.mem_map.1 hy
    exact hB x hx
  have htop := t3 120000000 (hBm _ h0m).2 fun y hy => (hBm y hy).2
  have htop0 := Int.le_trans (hBm _ h0m).1 t1
  have htj := t2 _ (List.mem_map.2 ⟨j, hj, rfl⟩)
  have hHi : rd (hiL ns R2) i = mostL ((nd ns (i - 1)).inn.map (rd (hiL ns R2))) := by
    rw [(h.gg.hi_eq (fun x a b => (h.eq x a b).2)).2 i i1 i2]
    unfold hiF
    rw [if_neg (by simp; omega), hone.1, hone.2.2.1]
    generalize rd R2 (rd (nd ns (i - 1)).inn 0) = ra
    rw [show wrap64 (wrap64 ((1 : Int) - 1) - 0) = 0 by rw [w64 (x := (1 : Int) - 1) (by omega) (by omega)]; exact w64 (by omega) (by omega), Int.mul_zero, w64 (x := (0 : Int)) (by omega) (by omega), Int.add_zero]
    exact w64 (by omega) (by omega)
  have hroom := h.rooms.2.2 i i1 i2 j hj
  have hBj := hB j hj
  rw [h.cnts hN j hjj.1 hjj.2.1, h.cnts hN i (by omega) i2, hRx j hj, hHi]
  generalize mostL ((nd ns (i - 1)).inn.map (rd (hiL ns R2))) = top at *
  generalize rd (hiL ns R2) j = hj' at *
  generalize rd R2 i = r at *
  have hd := want_diff (N := N) hr htj
  have hv : roomV (nd ns (i - 1)) r (wrap64 (top - hj')) = (top - hj' + r - 1) / r + 1 := by
    have hq := Int.ediv_le_self r (show 0 ≤ top - hj' + r - 1 by omega)
    have hq0 := Int.ediv_nonneg (show 0 ≤ top - hj' + r - 1 by omega) (show 0 ≤ r by omega)
    unfold roomV
    rw [if_pos (by rcases hk with e | e <;> (rw [e]; rfl)), if_neg (by omega), w64 (x := top - hj') (by omega) (by omega), w64 (x := top - hj' + r) (by omega) (by omega), w64 (x := top - hj' + r - 1) (by omega) (by omega), Int.tdiv_eq_ediv_of_nonneg (by omega)]
    rw [w64 (x := (top - hj' + r - 1) / r) (by omega) (by omega), w64 (by omega) (by omega)]
  rw [hv] at hroom
  omega
/-- no window is wider than its room -/
theorem GF.fits (i : Int) (i1 : 1 ≤ i) (i2 : i ≤ ns.length) (hs : 0 < (nd ns (i - 1)).size) (j : Int) (hj : j ∈ (nd ns (i - 1)).inn) : (nd ns (i - 1)).size ≤ rd (rmL ns R2) j := by
  have hm := (h.gg.node i i1 i2).1
  have hroom := h.rooms.2.2 i i1 i2 j hj
  have hsp := size_span hm.chk hs
  have hnk : ((nd ns (i - 1)).k == 7 || (nd ns (i - 1)).k == 8) = false := by
    cases e : ((nd ns (i - 1)).k == 7 || (nd ns (i - 1)).k == 8) with
    | false => rfl
    | true =>
      exfalso
      obtain ⟨_, _, _, he, _, _⟩ := rchk_unpack hm.chk
      have hk : (nd ns (i - 1)).k = 7 ∨ (nd ns (i - 1)).k = 8 := by simpa using e
      unfold Nd.else0 at he
      cases e6 : (nd ns (i - 1)).e6 with
      | true => rw [e6] at he; cases he
      | false =>
        rw [e6] at he
        have : (nd ns (i - 1)).e8 = true := by
          unfold Nd.e8 rFour
          have es : ((nd ns (i - 1)).size != 0) = true := by simp; omega
          rw [es]
          rcases hk with e | e <;> (rw [e]; rfl)
        rw [this] at he; cases he
  unfold roomV at hroom
  rw [if_neg (by rw [hnk]; decide), span_eqW] at hroom
  omega
end
section
attribute [local go_sem] PMade rtup
end
/-- likewise, where a table of the program is read: what it returns lies in blocks of its own -/

def an : List S → List S → Prop
  | [], [] => True
  | c :: cs, c' :: cs' => (c = c' ∨ c' = .any) ∧ an cs cs'
  | _, _ => False
def wtup (q : Int × List Int × List Int × List Int) : S := .agg [.any, .d (.row [.i .i64 0] (q.2.2.1.map intC)), .d (.row [.i .i64 0] (q.2.2.2.map intC)), .d (.i .i64 q.1)]
section
attribute [local go_sem] prmT
/-- what a slot says to somebody who reads boxes, too -/
def asD : List S → Option (List D)
  | [] => some []
  | .d x :: r => match asD r with
    | some l => some (x :: l)
    | none => none
  | _ :: _ => none
def cv2 (H : Hp) : S → S
  | .ptr h o => match lh H h with
    | some (.box _ cs) => match asD (cvL H cs) with
      | some ds => .fptr (ds.drop o)
      | none => .any
    | _ => .any
  | x => cv H x
def cv2L (H : Hp) : List S → List S
  | [] => []
  | c :: cs => cv2 H c :: cv2L H cs
/-- the document's room -/
def roomR (n : Nd) (hi : List Int) (j rate : Int) : Int := if rWin n.k = true then n.rSpan else if (!rMany n.k || rate == 0) = true then 1 else wrap64 (wrap64 (Int.tdiv (wrap64 (wrap64 (wrap64 (mostL (n.inn.map (rd hi)) - rd hi (rd n.inn j)) + rate) - 1)) rate) + 1)
end
section
attribute [local go_sem] frD
/-! all frames of a node, by definition -/
def atV (fs : List (List Int)) (t : Int) (w : Nat) : List Int := if t < 0 ∨ fs.length ≤ t then List.replicate w 0 else fr fs t
def gapV (n : Nd) : Int := if (n.k == 12) = true then 1 else n.gap
def insE (s : List (List Int)) : List D := [frD s]
def insD (ins : List (List (List Int))) : D := .row [.nil] (ins.map insE)
def inF (ins : List (List (List Int))) (i : Int) : List (List Int) := ins.getD i.toNat []
theorem rw_ins (ins : List (List (List Int))) (i : Int) (h0 : 0 ≤ i) (h1 : i < ins.length) : (ins.map insE).getD i.toNat [.nil] = [frD (inF ins i)] := by
  have h : i.toNat < ins.length := by omega
  unfold inF
  simp [List.getD, h, insE]
attribute [local go_sem] insD
/-- the frames that a node's frame i is told from -/
def inpF (n : Nd) (ins : List (List (List Int))) (w : Nat) (i : Int) : List (List Int) :=
  if rWin n.k = true then (List.range n.size.toNat).map fun j => atV (inF ins 0) (wrap64 (n.rFirst i + wrap64 ((j : Nat) * gapV n))) w
  else if n.k = 5 then inF ins 0 else ins.map fun s => fr s i
end
section
attribute [local go_sem] frD insD rwS_len killC_rwS killC_set frzL_rwS frzL_set renL_rwS renL_set hasL_rwS hasL_set rwS_set List.set_set Bool.and_false Bool.not_false
/-! whole.Streams: the frames that a frame is told from -/
def rcs (wd lo hi out : Int) (ns : List Nd) (W : List Int) (h : Nat) : List S := [.d (.i .i64 wd), .d (.i .i64 lo), .d (.i .i64 hi), .d (rowN ns), .d (.i .i64 out), .d (.row [.i .i64 0] (W.map intC)), .own h]
attribute [local go_sem] rcs
/-- a run: node k's frames are F by now -/
def OBR (wd lo hi out : Int) (ns : List Nd) (W : List Int) (ds : List D) (k : Nat) (F : List (List Int)) : Hp := [(1001, .rows 32 ((rwS ds).set k (.own 1002))), (1002, .row 22 [.nil] (F.map frE))]
attribute [local go_sem] OBR
theorem wE_repF : ∀ n : Nat, wE (List.replicate n [D.nil]) ((List.replicate n ([] : List Int)).map frE)
  | 0 => trivial
  | n + 1 => ⟨by simp [frE, Aw.wd], wE_repF n⟩
theorem setE_frE (l : List (List Int)) (i : Nat) (f : List Int) : setE (l.map frE) i 0 [.row [.i .i64 0] (f.map intC)] = (l.set i f).map frE := by
  unfold setE
  apply List.ext_getElem?
  intro j
  rw [List.getElem?_modify, List.getElem?_map, List.getElem?_map, List.getElem?_set]
  by_cases h : i = j
  · subst h
    by_cases h2 : i < l.length
    · simp [h2, frE]
    · simp [h2]
  · simp [h]
theorem take_setG {α : Type} {l : List α} {i : Nat} {x : α} (h : i < l.length) : (l.set i x).take (i + 1) = l.take i ++ [x] := by
  rw [List.take_succ_eq_append_getElem (by simpa using h), List.take_set_of_le (Nat.le_refl _)]
  simp
theorem over_c {T : World → Prop} (Tk : KT T) (wd lo hi out : Int) (ns : List Nd) (W : List Int) (ds : List D) (k : Nat) (F : List (List Int)) (n : Nd) (i : Int) (u : Int → List (List Int)) (w : Nat) (hk : k < ds.length) (hil : 1 ≤ n.inn.length ∧ n.inn.length ≤ 4096)
    (hj : ∀ j ∈ n.inn, 0 ≤ j ∧ j < ds.length ∧ j.toNat ≠ k ∧ ds.getD j.toNat .nil = frD (u j) ∧ (u j).length ≤ 65536) (hw0 : rd n.inn 0 < W.length) (hw1 : rd W (rd n.inn 0) = w) (hw2 : w ≤ 65536) (hgap : rWin n.k = true → mx n.gap 1 = gapV n) (hsz : rWin n.k = true → 0 ≤ n.size ∧ n.size ≤ 4096)
    (hix : rWin n.k = false → n.k ≠ 5 → ∀ j ∈ n.inn, 0 ≤ i ∧ i < (u j).length) :
    Cg Go.Proofs.Tryd.prog T 95 (OBR wd lo hi out ns W ds k F) [.fps (rcs wd lo hi out ns W 1001), .agg n.cs, .d (.i .i64 i)] (fun r H => H = OBR wd lo hi out ns W ds k F ∧ r = .d (frD (inpF n (n.inn.map u) w i))) := by
  have h0m : rd n.inn 0 ∈ n.inn := rd_mem (by omega) (by omega)
  have hget : ∀ j ∈ n.inn, ((rwS ds).set k (.own 1002)).getD j.toNat .any = .d (frD (u j)) := fun j hm => by
    obtain ⟨a, b, c, d, _⟩ := hj j hm
    rw [set_getD (by rw [rwS_len]; exact hk), if_neg (fun e => c e.symm), rwS_getD (by omega), d]
  have hg0 := hget _ h0m
  have hj0 := hj _ h0m
  have hin0 : inF (n.inn.map u) 0 = u (rd n.inn 0) := by
    unfold inF rd
    rw [List.getD_eq_getElem?_getD, List.getD_eq_getElem?_getD, List.getElem?_map, List.getElem?_eq_getElem (by simp; omega)]; rfl
  refine Cg_of [1001, 1002] Tk.m Go.Proofs.Tryd.func95 rfl rfl Go.Proofs.Tryd.ntmps95 (by simp) rfl (rs := [.tmp 6]) rfl fun E hP hn hT hpn => ?_
  (repeat (first | refine TS.imp ?_ | refine n9 (by decide) ?_))
  refine TR.imp ?_; intro K hK; simp only [go_sem, hP, hn]; (repeat refine vc ?_); refine hK _ ?_; clear K hK
  (repeat (first | refine TS.imp ?_ | refine n9 (by decide) ?_))
  refine d5 (.p true 0 (.p true 1 (.p true 2 (.p true 3 (.p true 4 (.p true 5 (.p true 6 (.p true 7 (.p true 8 (.p true 9 (.p true 10 .nil))))))))))) [] (by rw [hP]; kernel_rfl) (by kernel_rfl) (by simp only [go_sem, hP, hn]; try simp) (by exact fun _ _ h => h) ?_; intro K hK; simp only [go_sem, hP, hn]
  rw [hg0]
  simp only [go_sem, hP, hn]
  have z1 : 0 ≤ rd n.inn 0 ∧ rd n.inn 0 < ds.length := ⟨hj0.1, hj0.2.1⟩
  have z2 : (rd n.inn 0).toNat < ds.length := by omega
  have z3 : (0 : Int) < n.inn.length := by omega
  simp only [z1, z2, z3, and_self, true_and, List.length_set, rwS_len, Nat.zero_lt_one]
  (repeat (refine ⟨by first | trivial | omega, ?_⟩))
  refine hK _ ?_; clear K hK
  refine Tr.le (Le.keep [0, 2, 4, 7]) ?_; simp only [List.map_cons, List.map_nil, lk, Nat.reduceEqDiff, reduceIte]
  (repeat (first | refine TS.imp ?_ | refine n9 (by decide) ?_))
  refine TR.imp ?_; intro K hK; simp only [go_sem, hP, hn]; (repeat refine vc ?_); refine hK _ ?_; clear K hK
  refine Tr.le (Le.keep [0, 2, 4, 7, 26]) ?_; simp only [List.map_cons, List.map_nil, lk, Nat.reduceEqDiff, reduceIte]
  refine Tr.block ?_
  refine Tr.seq ?_
  refine Tr.meet (fun s => s = ⟨[(0, .fps (rcs wd lo hi out ns W 1001)), (2, .d (.i .i64 i)), (4, .ptr 4 0), (7, .d (frD (u (rd n.inn 0)))), (26, .d (.i .i64 n.k)), (27, .d (.b (rWin n.k)))], [(4, .box 50 n.cs), (1001, .rows 32 ((rwS ds).set k (.own 1002))), (1002, .row 22 [.nil] (F.map frE))]⟩) ?_ ?_
  rotate_left
  · (repeat (first | refine TS.imp ?_ | refine n9 (by decide) ?_))
    refine TR.imp ?_; intro K hK; simp only [go_sem, hP, hn]; (repeat refine vc ?_); refine hK _ ?_; clear K hK
    (repeat (first | refine TS.imp ?_ | refine n9 (by decide) ?_))
    refine Tr.cond rfl (fun h1 => ?_) (fun h1 => ?_)
    · rw [h1, show rWin n.k = true by unfold rWin; rw [h1]; rfl]
      (repeat (first | refine TS.imp ?_ | refine n9 (by decide) ?_))
      exact ⟨_, (Le.mv (by simp only [go_sem, hP, hn]; first | done | (simp; done) | (simp [intC]; done) | (repeat (first | rfl | constructor))) (by simp only [go_sem, hP, hn]; first | done | (simp; done) | (simp [intC]; done) | (repeat (first | rfl | constructor)))), rfl⟩
    (repeat (first | refine TS.imp ?_ | refine n9 (by decide) ?_))
    refine TR.imp ?_; intro K hK; simp only [go_sem, hP, hn]; (repeat refine vc ?_); refine hK _ ?_; clear K hK
    (repeat (first | refine TS.imp ?_ | refine n9 (by decide) ?_))
    refine Tr.cond rfl (fun h2 => ?_) (fun h2 => ?_)
    · rw [h2, show rWin n.k = true by unfold rWin; rw [h1, h2]; rfl]
      (repeat (first | refine TS.imp ?_ | refine n9 (by decide) ?_))
      exact ⟨_, (Le.mv (by simp only [go_sem, hP, hn]; first | done | (simp; done) | (simp [intC]; done) | (repeat (first | rfl | constructor))) (by simp only [go_sem, hP, hn]; first | done | (simp; done) | (simp [intC]; done) | (repeat (first | rfl | constructor)))), rfl⟩
    (repeat (first | refine TS.imp ?_ | refine n9 (by decide) ?_))
    refine TR.imp ?_; intro K hK; simp only [go_sem, hP, hn]; (repeat refine vc ?_); refine hK _ ?_; clear K hK
    (repeat (first | refine TS.imp ?_ | refine n9 (by decide) ?_))
    refine Tr.cond rfl (fun h3 => ?_) (fun h3 => ?_)
    · rw [h3, show rWin n.k = true by unfold rWin; rw [h1, h2, h3]; rfl]
      (repeat (first | refine TS.imp ?_ | refine n9 (by decide) ?_))
      exact ⟨_, (Le.mv (by simp only [go_sem, hP, hn]; first | done | (simp; done) | (simp [intC]; done) | (repeat (first | rfl | constructor))) (by simp only [go_sem, hP, hn]; first | done | (simp; done) | (simp [intC]; done) | (repeat (first | rfl | constructor)))), rfl⟩
    (repeat (first | refine TS.imp ?_ | refine n9 (by decide) ?_))
    refine TR.imp ?_; intro K hK; simp only [go_sem, hP, hn]; (repeat refine vc ?_); refine hK _ ?_; clear K hK
    (repeat (first | refine TS.imp ?_ | refine n9 (by decide) ?_))
    refine Tr.cond rfl (fun h4 => ?_) (fun h4 => ?_)
    · rw [h4, show rWin n.k = true by unfold rWin; rw [h1, h2, h3, h4]; rfl]
      (repeat (first | refine TS.imp ?_ | refine n9 (by decide) ?_))
      exact ⟨_, (Le.mv (by simp only [go_sem, hP, hn]; first | done | (simp; done) | (simp [intC]; done) | (repeat (first | rfl | constructor))) (by simp only [go_sem, hP, hn]; first | done | (simp; done) | (simp [intC]; done) | (repeat (first | rfl | constructor)))), rfl⟩
    (repeat (first | refine TS.imp ?_ | refine n9 (by decide) ?_))
    refine TR.imp ?_; intro K hK; simp only [go_sem, hP, hn]; (repeat refine vc ?_); refine hK _ ?_; clear K hK
    (repeat (first | refine TS.imp ?_ | refine n9 (by decide) ?_))
    rw [show rWin n.k = (n.k == 12) by unfold rWin; rw [h1, h2, h3, h4]; rfl]
    exact ⟨_, (Le.mv (by simp only [go_sem, hP, hn]; first | done | (simp; done) | (simp [intC]; done) | (repeat (first | rfl | constructor))) (by simp only [go_sem, hP, hn]; first | done | (simp; done) | (simp [intC]; done) | (repeat (first | rfl | constructor)))), rfl⟩
  rintro s rfl
  (repeat (first | refine TS.imp ?_ | refine n9 (by decide) ?_))
  refine Tr.cond rfl (fun hwin => ?_) (fun hwin => ?_)
  · have hinp : inpF n (n.inn.map u) w i = (List.range n.size.toNat).map fun j => atV (u (rd n.inn 0)) (wrap64 (n.rFirst i + wrap64 ((j : Nat) * gapV n))) w := by
      unfold inpF
      rw [if_pos hwin, hin0]
    have hgap := hgap hwin
    have hsz := hsz hwin
    rw [hinp]
    (repeat (first | refine TS.imp ?_ | refine n9 (by decide) ?_))
    refine TR.imp ?_; intro K hK; simp only [go_sem, hP, hn]; (repeat refine vc ?_); refine hK _ ?_; clear K hK
    (repeat (first | refine TS.imp ?_ | refine n9 (by decide) ?_))
    rw [show (if 1 > n.gap then 1 else n.gap) = gapV n from hgap]
    (repeat (first | refine TS.imp ?_ | refine n9 (by decide) ?_))
    refine TR.imp ?_; intro K hK; simp only [go_sem, hP, hn]; (repeat refine vc ?_); refine hK _ ?_; clear K hK
    refine Tr.le (Le.wrow 38 ((List.replicate n.size.toNat ([] : List Int)).map frE) rfl (wE_repF _)) ?_
    simp only [go_sem, hP, hn]
    (repeat (first | refine TS.imp ?_ | refine n9 (by decide) ?_))
    refine TR.imp ?_; intro K hK; simp only [go_sem, hP, hn]; (repeat refine vc ?_); refine hK _ ?_; clear K hK
    rw [show ((List.replicate n.size.toNat ([] : List Int)).length : Int) = n.size by rw [List.length_replicate]; omega]
    (repeat (first | refine TS.imp ?_ | refine n9 (by decide) ?_))
    refine Tr.loop (fun q s => ∃ (j : Int) (G : List (List Int)), s = ⟨[(0, .fps (rcs wd lo hi out ns W 1001)), (2, .d (.i .i64 i)), (4, .ptr 4 0), (7, .d (frD (u (rd n.inn 0)))), (8, .d (.i .i64 (gapV n))), (9, .own 38), (40, .d (.i .i64 n.size)), (41, .d (.i .i64 j))], [(4, .box 50 n.cs), (1001, .rows 32 ((rwS ds).set k (.own 1002))), (1002, .row 22 [.nil] (F.map frE)), (38, .row 22 [.nil] (G.map frE))]⟩ ∧ 0 ≤ j ∧ j + q = n.size ∧ G.length = n.size.toNat ∧ G.take j.toNat = (List.range j.toNat).map fun j => atV (u (rd n.inn 0)) (wrap64 (n.rFirst i + wrap64 ((j : Nat) * gapV n))) w) n.size.toNat ⟨_, ?_, 0, List.replicate n.size.toNat [], rfl, by omega, by omega, by simp, rfl⟩ ?_
    · exact (Le.mv (by simp only [go_sem, hP, hn]; first | done | (simp; done) | (simp [intC]; done) | (repeat (first | rfl | constructor))) (by simp only [go_sem, hP, hn]; first | done | (simp; done) | (simp [intC]; done) | (repeat (first | rfl | constructor))))
    rintro q s ⟨j, G, rfl, j0, jq, hGl, hGt⟩
    (repeat (first | refine TS.imp ?_ | refine n9 (by decide) ?_))
    refine TR.imp ?_; intro K hK; simp only [go_sem, hP, hn]; (repeat refine vc ?_); refine hK _ ?_; clear K hK
    (repeat (first | refine TS.imp ?_ | refine n9 (by decide) ?_))
    refine Tr.cond rfl (fun hb => ?_) (fun hb => ?_)
    · have hj1 : j < n.size := of_decide_eq_true hb
      clear hb
      have w1 : wrap64 (j + 1) = j + 1 := w64 (by omega) (by omega)
      have hjn : j.toNat < G.length := by omega
      have hjG : j < G.length := by omega
      (repeat (first | refine TS.imp ?_ | refine n9 (by decide) ?_))
      refine TR.imp ?_; intro K hK; simp only [go_sem, hP, hn]; (repeat refine vc ?_); refine hK _ ?_; clear K hK
      (repeat (first | refine TS.imp ?_ | refine n9 (by decide) ?_))
      refine TR.imp ?_; intro K hK; simp only [go_sem, hP, hn]; (repeat refine vc ?_); refine c1 (by rw [hP, hT]; exact First_k Tk n i) rfl rfl rfl trivial (by simp only [go_sem, hP, hn]; try trivial) (by simp only [go_sem, hP, hn]; try rfl) (by rw [hn]; decide) (by rfl) ?_; simp only [go_sem, hP, hn]; (repeat refine vc ?_); refine hK _ ?_; clear K hK
      rw [first_eqW]
      have hrg : (List.range (j + 1).toNat).map (fun j => atV (u (rd n.inn 0)) (wrap64 (n.rFirst i + wrap64 ((j : Nat) * gapV n))) w) = (List.range j.toNat).map (fun j => atV (u (rd n.inn 0)) (wrap64 (n.rFirst i + wrap64 ((j : Nat) * gapV n))) w) ++ [atV (u (rd n.inn 0)) (wrap64 (n.rFirst i + wrap64 (j * gapV n))) w] := by
        rw [show (j + 1).toNat = j.toNat + 1 by omega, List.range_succ, List.map_append, List.map_cons, List.map_nil, Int.toNat_of_nonneg j0]
      generalize wrap64 (n.rFirst i + wrap64 (j * gapV n)) = v at *
      refine Tr.le (Le.keep [0, 2, 4, 7, 8, 9, 10, 11, 40, 41]) ?_; simp only [List.map_cons, List.map_nil, lk, Nat.reduceEqDiff, reduceIte]
      (repeat (first | refine TS.imp ?_ | refine n9 (by decide) ?_))
      refine TR.imp ?_; intro K hK; simp only [go_sem, hP, hn]; (repeat refine vc ?_); refine hK _ ?_; clear K hK
      (repeat (first | refine TS.imp ?_ | refine n9 (by decide) ?_))
      refine Tr.cond rfl (fun hc => ?_) (fun hc => ?_)
      · have hv : v < 0 ∨ (u (rd n.inn 0)).length ≤ v := by simpa using hc
        have hat : atV (u (rd n.inn 0)) v w = List.replicate w 0 := if_pos hv
        clear hc
        rw [hat] at hrg
        (repeat (first | refine TS.imp ?_ | refine n9 (by decide) ?_))
        refine d5 (.p true 0 (.p true 1 (.p true 2 (.p true 3 (.p true 4 (.p true 5 (.p true 6 (.p true 7 (.p true 8 (.p true 9 (.p true 10 (.p true 11 (.alt 12 (.p true 13 (.alt 14 .nil .nil)) .nil))))))))))))) [38] (by rw [hP]; kernel_rfl) (by kernel_rfl) (by simp only [go_sem, hP, hn]; try simp) (by exact fun _ _ h => h) ?_; intro K hK; simp only [go_sem, hP, hn]
        rw [hw1]
        simp only [go_sem, hP, hn]
        simp only [z1, z3, hw0, j0, hjG, and_self, true_and, List.length_map]
        (repeat refine vc ?_)
        refine hK _ ?_; clear K hK
        (repeat (first | refine TS.imp ?_ | refine n9 (by decide) ?_))
        refine TR.imp ?_; intro K hK; simp only [w1, go_sem, hP, hn]; (repeat refine vc ?_); refine hK _ ?_; clear K hK
        (repeat (first | refine TS.imp ?_ | refine n9 (by decide) ?_))
        refine ⟨q - 1, _, by omega, ?_, j + 1, G.set j.toNat (List.replicate w 0), rfl, by omega, by omega, by simp [hGl], by rw [show (j + 1).toNat = j.toNat + 1 by omega, take_setG hjn, hGt]; rw [show (j + 1).toNat = j.toNat + 1 by omega] at hrg; exact hrg.symm⟩
        rw [← setE_frE]
        exact (Le.mv (by simp only [go_sem, hP, hn]; first | done | (simp; done) | (simp [intC]; done) | (repeat (first | rfl | constructor))) (by simp only [go_sem, hP, hn]; first | done | (simp; done) | (simp [intC]; done) | (repeat (first | rfl | constructor))))
      · have hv : ¬ (v < 0 ∨ (u (rd n.inn 0)).length ≤ v) := by simpa using hc
        have hat : atV (u (rd n.inn 0)) v w = fr (u (rd n.inn 0)) v := if_neg hv
        clear hc
        rw [hat] at hrg
        have hrf := rw_fr (u (rd n.inn 0)) v (by omega) (by omega)
        have v0 : 0 ≤ v := by omega
        have v1 : v < (u (rd n.inn 0)).length := by omega
        (repeat (first | refine TS.imp ?_ | refine n9 (by decide) ?_))
        refine TR.imp ?_; intro K hK; simp only [hrf, go_sem, hP, hn]
        (repeat refine vc ?_)
        refine hK _ ?_; clear K hK
        (repeat (first | refine TS.imp ?_ | refine n9 (by decide) ?_))
        refine TR.imp ?_; intro K hK; simp only [w1, go_sem, hP, hn]; (repeat refine vc ?_); refine hK _ ?_; clear K hK
        (repeat (first | refine TS.imp ?_ | refine n9 (by decide) ?_))
        refine ⟨q - 1, _, by omega, ?_, j + 1, G.set j.toNat (fr (u (rd n.inn 0)) v), rfl, by omega, by omega, by simp [hGl], by rw [show (j + 1).toNat = j.toNat + 1 by omega, take_setG hjn, hGt]; rw [show (j + 1).toNat = j.toNat + 1 by omega] at hrg; exact hrg.symm⟩
        rw [← setE_frE]
        exact (Le.mv (by simp only [go_sem, hP, hn]; first | done | (simp; done) | (simp [intC]; done) | (repeat (first | rfl | constructor))) (by simp only [go_sem, hP, hn]; first | done | (simp; done) | (simp [intC]; done) | (repeat (first | rfl | constructor))))
    · have hj1 : j.toNat = n.size.toNat := by have := of_decide_eq_false hb; omega
      rw [hj1, List.take_of_length_le (by omega)] at hGt
      rw [← hGt]
      clear hb
      (repeat (first | refine TS.imp ?_ | refine n9 (by decide) ?_))
      refine TR.imp ?_; intro K hK; simp only [go_sem, hP, hn]; (repeat refine vc ?_); refine hK _ ?_; clear K hK
      (repeat (first | refine TS.imp ?_ | refine n9 (by decide) ?_))
      simp only [RetG, go_sem]; (repeat with_reducible refine vc ?_)
  have hinp0 : inpF n (n.inn.map u) w i = if n.k = 5 then u (rd n.inn 0) else n.inn.map fun j => fr (u j) i := by
    unfold inpF
    rw [if_neg (by rw [hwin]; decide), hin0, List.map_map]; rfl
  rw [hinp0]
  (repeat (first | refine TS.imp ?_ | refine n9 (by decide) ?_))
  refine TR.imp ?_; intro K hK; simp only [go_sem, hP, hn]; (repeat refine vc ?_); refine hK _ ?_; clear K hK
  (repeat (first | refine TS.imp ?_ | refine n9 (by decide) ?_))
  refine Tr.cond rfl (fun h5 => ?_) (fun h5 => ?_)
  · rw [if_pos (by simpa using h5)]
    (repeat (first | refine TS.imp ?_ | refine n9 (by decide) ?_))
    refine TR.imp ?_; intro K hK; simp only [go_sem, hP, hn]; (repeat refine vc ?_); refine hK _ ?_; clear K hK
    (repeat (first | refine TS.imp ?_ | refine n9 (by decide) ?_))
    simp only [RetG, go_sem]; (repeat with_reducible refine vc ?_)
  have hk5 : n.k ≠ 5 := by simpa using h5
  rw [if_neg hk5]
  have hix := hix hwin hk5
  clear h5
  (repeat (first | refine TS.imp ?_ | refine n9 (by decide) ?_))
  refine TR.imp ?_; intro K hK; simp only [go_sem, hP, hn]; (repeat refine vc ?_); refine hK _ ?_; clear K hK
  (repeat (first | refine TS.imp ?_ | refine n9 (by decide) ?_))
  refine TR.imp ?_; intro K hK; simp only [go_sem, hP, hn]; (repeat refine vc ?_); refine hK _ ?_; clear K hK
  (repeat (first | refine TS.imp ?_ | refine n9 (by decide) ?_))
  refine Tr.le (Le.nilslot 3012 12 22 [.nil] rfl (by rw [hpn] <;> rfl) rfl (by simp [freeH, closedO, hasL_set, hasL_rwS, k1, S.hasL, S.has, go_sem])) ?_
  simp only [go_sem, hP, hn]
  refine Tr.loop (fun q s => ∃ (m : Int), s = ⟨[(0, .fps (rcs wd lo hi out ns W 1001)), (2, .d (.i .i64 i)), (4, .ptr 4 0), (86, .d (.row [.i .i64 0] (n.inn.map intC))), (87, .d (.i .i64 n.inn.length)), (88, .d (.i .i64 m)), (12, .own 3012)], [(4, .box 50 n.cs), (1001, .rows 32 ((rwS ds).set k (.own 1002))), (1002, .row 22 [.nil] (F.map frE)), (3012, .row 22 [.nil] (((n.inn.take m.toNat).map fun j => fr (u j) i).map frE))]⟩ ∧ 0 ≤ m ∧ m + q = n.inn.length) n.inn.length ⟨_, ?_, 0, rfl, by omega, by omega⟩ ?_
  · exact (Le.mv (by simp only [go_sem, hP, hn]; first | done | (simp; done) | (simp [intC]; done) | (repeat (first | rfl | constructor))) (by simp only [go_sem, hP, hn]; first | done | (simp; done) | (simp [intC]; done) | (repeat (first | rfl | constructor))))
  rintro q s ⟨m, rfl, m0, mq⟩
  (repeat (first | refine TS.imp ?_ | refine n9 (by decide) ?_))
  refine TR.imp ?_; intro K hK; simp only [go_sem, hP, hn]; (repeat refine vc ?_); refine hK _ ?_; clear K hK
  (repeat (first | refine TS.imp ?_ | refine n9 (by decide) ?_))
  refine Tr.cond rfl (fun hb => ?_) (fun hb => ?_)
  · have hm1 : m < n.inn.length := of_decide_eq_true hb
    clear hb
    have hjm := rd_mem m0 hm1
    have hjr := hj _ hjm
    have hgj := hget _ hjm
    have hij := hix _ hjm
    have hrf := rw_fr (u (rd n.inn m)) i hij.1 hij.2
    have w1 : wrap64 (m + 1) = m + 1 := w64 (by omega) (by omega)
    have htl : (n.inn.take m.toNat).length ≤ 4096 := by rw [List.length_take]; omega
    have y1 : 0 ≤ rd n.inn m ∧ rd n.inn m < ds.length := ⟨hjr.1, hjr.2.1⟩
    have y2 : (rd n.inn m).toNat < ds.length := by omega
    have htk := take_rd m0 hm1
    (repeat (first | refine TS.imp ?_ | refine n9 (by decide) ?_))
    refine TR.imp ?_; intro K hK; simp only [go_sem, hP, hn]; (repeat refine vc ?_); refine hK _ ?_; clear K hK
    (repeat (first | refine TS.imp ?_ | refine n9 (by decide) ?_))
    generalize rd n.inn m = j at *
    refine TR.imp ?_; intro K hK; simp only [hgj, hrf, go_sem, hP, hn]
    (repeat refine vc ?_)
    refine hK _ ?_; clear K hK
    (repeat (first | refine TS.imp ?_ | refine n9 (by decide) ?_))
    refine TR.imp ?_; intro K hK; simp only [w1, go_sem, hP, hn]; (repeat refine vc ?_); refine hK _ ?_; clear K hK
    (repeat (first | refine TS.imp ?_ | refine n9 (by decide) ?_))
    refine ⟨q - 1, _, by omega, ?_, m + 1, rfl, by omega, by omega⟩
    rw [htk, List.map_append (f := fun j => fr (u j) i), List.map_cons, List.map_nil]
    refine Le.trans (b := ⟨[(0, .fps (rcs wd lo hi out ns W 1001)), (2, .d (.i .i64 i)), (4, .ptr 4 0), (86, .d (.row [.i .i64 0] (n.inn.map intC))), (87, .d (.i .i64 n.inn.length)), (88, .d (.i .i64 (m + 1))), (12, .own 104)], [(4, .box 50 n.cs), (1001, .rows 32 ((rwS ds).set k (.own 1002))), (1002, .row 22 [.nil] (F.map frE)), (104, .row 22 [.nil] ((((n.inn.take m.toNat).map fun j => fr (u j) i) ++ [fr (u j) i]).map frE))]⟩) ?_ ?_
    · rw [List.map_append (l₁ := (n.inn.take m.toNat).map fun j => fr (u j) i)]
      exact (Le.mv (by simp only [go_sem, hP, hn]; first | done | (simp; done) | (simp [intC]; done) | (repeat (first | rfl | constructor))) (by simp only [go_sem, hP, hn]; first | done | (simp; done) | (simp [intC]; done) | (repeat (first | rfl | constructor))))
    refine Le.trans (Le.ren 104 3012 (by rw [hpn] <;> rfl) rfl (by simp [freeH, closedO, hasL_set, hasL_rwS, k1, S.hasL, S.has, go_sem])) ?_; simp only [renT, renH, renO, renS, renL, rn, go_sem, hP, hn]
    exact Le.refl _
  have hm1 : m = n.inn.length := by have := of_decide_eq_false hb; omega
  subst hm1
  rw [Int.toNat_natCast, List.take_length]
  clear hb
  (repeat (first | refine TS.imp ?_ | refine n9 (by decide) ?_))
  refine TR.imp ?_; intro K hK; simp only [go_sem, hP, hn]; (repeat refine vc ?_); refine hK _ ?_; clear K hK
  (repeat (first | refine TS.imp ?_ | refine n9 (by decide) ?_))
  simp only [RetG, go_sem]; (repeat with_reducible refine vc ?_)
end
end Go.Proofs.YtgomeljgbjgbkaaDoor.Aw
namespace Go.Proofs.YtgomeljgbjgbkaaDoor.Aw
open Go.RowKit
/-! whichever node, and frames: are they as they should be? -/
def wdsV (n : Nd) (fs : List (List Int)) : List Int := if rMany n.k = true then fs.map (fun f => (f.length : Int)) else [((fr fs 0).length : Int)]
def manyV (n : Nd) (fs : List (List Int)) : Int := if rWin n.k = true then n.size else if (n.k == 5) = true then fs.length else if rMany n.k = true then n.inn.length else 1
def frOk (w f : List Int) : Bool := !((w.length : Int) == 1 && (f.length : Int) != rd w 0) && f.all fits32
def rightV (n : Nd) (fs : List (List Int)) : Bool := !((fs.length : Int) == 0) && !((fs.length : Int) != manyV n fs || n.rchk (wdsV n fs) != 0) && fs.all (frOk (wdsV n fs))
def mayC (n : Nd) (m : Int) : Bool := rWin n.k && m != n.size || n.k == 5 && decide (m < 1) || rMany n.k && m != (n.inn.length : Int) || !rWin n.k && !rMany n.k && n.k != 5 && m != 1
def frOk2 (n : Nd) (w0 : Int) (i : Int) (f : List Int) : Bool := f.all fits32 && (i == 0 || rMany n.k || !((f.length : Int) != w0))
def frsOk (n : Nd) (w0 : Int) : Int → List (List Int) → Bool
  | _, [] => true
  | i, f :: fs => frOk2 n w0 i f && frsOk n w0 (i + 1) fs
def mayV (n : Nd) (fs : List (List Int)) : Bool := !(mayC n fs.length) && frsOk n ((fr fs 0).length : Int) 0 fs && (!((fs.length : Int) == 0) && n.rchk (wdsV n fs) == 0)
theorem rMany_chk {n : Nd} {l : List Int} (h : n.rchk l = 0) (hm : rMany n.k = true) : 2 ≤ l.length ∧ l.length ≤ 4 := by
  obtain ⟨_, h7, _⟩ := rchk_unpack h
  unfold Nd.r7 at h7
  rw [hm] at h7
  simp at h7
  omega
end Go.Proofs.YtgomeljgbjgbkaaDoor.Aw
namespace Go.Proofs.YtgomeljgbjgbkaaDoor.Aw
open Go.RowKit
attribute [local go_sem_proc] Nat.reduceAdd Nat.reduceMul Nat.reduceSub Nat.reduceEqDiff Nat.reduceLeDiff Nat.reduceBEq Nat.reduceBNe Int.reduceToNat reduceIte reduceCtorEq
attribute [local go_sem] initT SQ so pe he ev lk constS stp stc gdS nth pickS pickD loadS cellsAt okAt fieldAddrS fieldS partS indexAddrS indexS extractS binS binD binI isShift unS convS lenS sliceS bndI bndC mmS mm2 mmD builtS fillS okCells cellsS splS solid aliveL alive okS boxS allocS makeS bsliceS elemsOf dcells stF frzW storeS frzA frz frzT frzS frzL frzO frzH appS srcS appVC killS killT killC killH killO k1 k2 S.has S.hasL St.add St.upd dropH lh cond_or cond_and rw_intC rw_intC0 rw_set rw_app rw_apps rw_rep rw_slice wr64 cond_true cond_false true_and and_true List.map_cons List.map_nil List.length_cons List.length_nil List.drop_succ_cons List.drop_zero List.take_succ_cons List.take_zero List.nil_append List.cons_append List.getD_cons_zero List.getD_cons_succ List.headD_cons List.length_map ite_true ite_false if_true if_false Bool.false_eq_true and_self forall_const List.drop_nil List.take_nil List.append_nil Option.map_some Option.map_none List.mapM_cons List.mapM_nil Option.bind_eq_bind Option.bind_some Option.pure_def knows resL resV oneS freshS freshL cv cvL stpL stcL or_true true_or or_false false_or List.all_cons List.all_nil Bool.and_self Bool.or_self Bool.true_and Bool.and_true Bool.or_false Bool.false_or implies_true flatD allm_nil allm_cons List.getElem?_cons_zero List.getElem?_cons_succ Nd.cs Nd.ds ml mln Option.isSome_some Option.isSome_none eq_self Int.toNat_natCast AP ldOk isLd inL subL crt chg chgS chgP idxs aliveW Option.toList_some Option.toList_none Option.toList RetG Nd.win frzA offK keepH aliveK nkH closedH closedO keysK inH St.upd rowO List.contains_cons List.contains_nil Bool.or_self Option.isNone_none Option.isNone_some Bool.not_true Bool.not_false gcs rowN e0N frzC
attribute [local go_sem] sz2 ag2 ok2 kk2 iu2 zc2 zd2 by2 sz3 ag3 ok3 kk3 iu3 zc3 zd3 by3 sz4 ag4 ok4 bo4 zc4 zd4 by4 sz5 ag5 ok5 kk5 iu5 zc5 zd5 by5 sz9 ag9 ok9 st9 zc9 zd9 by9 sz12 ag12 ok12 kk12 iu12 zc12 zd12 by12 sz15 ag15 ok15 zc15 by15 sz16 ag16 ok16 zc16 by16 sz21 ag21 ok21 kk21 iu21 zc21 zd21 by21 sz22 ag22 ok22 sl22 zc22 zd22 by22 sz24 ag24 ok24 sl24 zc24 zd24 by24 sz25 ag25 ok25 zc25 zd25 pl25 by25 fl25_0 fl25_1 fl25_2 fl25_3 fl25_4 sz26 ag26 ok26 zc26 zd26 pl26 by26 fl26_0 fl26_1 fl26_2 fl26_3 fl26_4 sz30 ag30 ok30 sl30 ar30 zc30 zd30 pl30 by30 sz31 ag31 ok31 sl31 ar31 zc31 zd31 pl31 by31 sz32 ag32 ok32 sl32 zc32 zd32 by32 sz36 ag36 ok36 kk36 iu36 zc36 zd36 by36 sz37 ag37 ok37 zc37 zd37 pl37 by37 fl37_0 fl37_1 fl37_2 fl37_3 sz38 ag38 ok38 zc38 zd38 pl38 by38 fl38_0 fl38_1 fl38_2 fl38_3 sz40 ag40 ok40 sl40 zc40 zd40 by40 sz41 ag41 ok41 zc41 zd41 pl41 by41 fl41_0 fl41_1 sz42 ag42 ok42 zc42 zd42 pl42 by42 fl42_0 fl42_1 sz44 ag44 ok44 kk44 iu44 zc44 zd44 by44 sz49 ag49 ok49 zc49 zd49 pl49 by49 fl49_0 fl49_1 fl49_2 fl49_3 fl49_4 fl49_5 fl49_6 fl49_7 fl49_8 fl49_9 fl49_10 fl49_11 fl49_12 fl49_13 fl49_14 sz50 ag50 ok50 zc50 zd50 pl50 by50 fl50_0 fl50_1 fl50_2 fl50_3 fl50_4 fl50_5 fl50_6 fl50_7 fl50_8 fl50_9 fl50_10 fl50_11 fl50_12 fl50_13 fl50_14 sz55 ag55 ok55 zc55 zd55 pl55 by55 fl55_0 fl55_1 fl55_2 sz56 ag56 ok56 zc56 zd56 pl56 by56 fl56_0 fl56_1 fl56_2 sz65 ag65 ok65 sl65 zc65 zd65 by65 sz68 ag68 ok68 zc68 by68 sz81 ag81 ok81 zc81 zd81 pl81 by81 fl81_0 fl81_1 fl81_2 fl81_3 sz82 ag82 ok82 zc82 zd82 pl82 by82 fl82_0 fl82_1 fl82_2 fl82_3 sz87 ag87 ok87 zc87 by87 sz88 ag88 ok88 zc88 zd88 pl88 by88 fl88_0 fl88_1 fl88_2 sz89 ag89 ok89 zc89 zd89 pl89 by89 fl89_0 fl89_1 fl89_2 sz92 ag92 ok92 zc92 by92 sz93 ag93 ok93 zc93 zd93 pl93 by93 fl93_0 fl93_1 sz94 ag94 ok94 zc94 zd94 pl94 by94 fl94_0 fl94_1 sz98 ag98 ok98 zc98 zd98 pl98 by98 fl98_0 fl98_1 fl98_2 sz99 ag99 ok99 zc99 zd99 pl99 by99 fl99_0 fl99_1 fl99_2 sz112 ag112 ok112 sl112 ar112 zc112 zd112 pl112 by112 sz113 ag113 ok113 sl113 ar113 zc113 zd113 pl113 by113 sz124 ag124 ok124 zc124 zd124 pl124 by124 fl124_0 fl124_1 sz125 ag125 ok125 sl125 ar125 zc125 zd125 pl125 by125 sz126 ag126 ok126 zc126 by126 sz130 ag130 ok130 zc130 by130 sz132 ag132 ok132 zc132 zd132 pl132 by132 fl132_0 fl132_1 sz133 ag133 ok133 zc133 zd133 pl133 by133 fl133_0 fl133_1 sz151 ag151 ok151 kk151 iu151 zc151 zd151 by151 sz155 ag155 ok155 zc155 by155
section
attribute [local go_sem] frD
theorem right_g {T : World → Prop} (Tk : KT T) (n : Nd) (fs : List (List Int)) (hm0 : fs.length ≤ 65536) (hwl : n.ws.length ≤ 65536) (hbl : n.bs.length ≤ 65536) (hil : n.inn.length ≤ 65536) (hfl : ∀ f ∈ fs, f.length ≤ 65536) : Cg Go.Proofs.Tryd.prog T 117 [] [.agg n.cs, .d (frD fs)] (fun r H => H = [] ∧ r = .d (.b (rightV n fs))) := by
  refine Cg_of [] Tk.m Go.Proofs.Tryd.func117 rfl rfl Go.Proofs.Tryd.ntmps117 (by simp) rfl (rs := [.tmp 4]) rfl fun E hP hn hT hpn => ?_
  (repeat (first | refine TS.imp ?_ | refine n9 (by decide) ?_))
  refine TR.imp ?_; intro K hK; simp only [go_sem, hP, hn]; (repeat refine vc ?_); refine hK _ ?_; clear K hK
  (repeat (first | refine TS.imp ?_ | refine n9 (by decide) ?_))
  refine TR.imp ?_; intro K hK; simp only [go_sem, hP, hn]; (repeat refine vc ?_); refine hK _ ?_; clear K hK
  (repeat (first | refine TS.imp ?_ | refine n9 (by decide) ?_))
  refine Tr.cond rfl (fun h1 => ?_) (fun h1 => ?_)
  · have : rightV n fs = false := by unfold rightV; rw [h1]; rfl
    rw [this]
    (repeat (first | (refine TR.imp ?_; intro K hK; simp only [go_sem, hP, hn]; (repeat refine vc ?_); refine hK _ ?_; clear K hK) | refine TS.imp ?_ | refine n9 (by decide) ?_))
    simp only [RetG, go_sem]; (repeat with_reducible refine vc ?_)
  have hpos : 0 < fs.length := by
    have : ¬ (fs.length : Int) = 0 := by simpa using h1
    omega
  have hR : rightV n fs = (!((fs.length : Int) != manyV n fs || n.rchk (wdsV n fs) != 0) && fs.all (frOk (wdsV n fs))) := by unfold rightV; rw [h1]; rfl
  rw [hR]
  clear h1 hR
  refine Tr.le (Le.keep [1, 2]) ?_; simp only [List.map_cons, List.map_nil, lk, Nat.reduceEqDiff, reduceIte]
  (repeat (first | refine TS.imp ?_ | refine n9 (by decide) ?_))
  refine d5 (.p true 0 (.p true 1 (.p true 2 (.p true 3 (.p true 5 (.alt 4 (.p false 6 .nil) .nil)))))) [] (by rw [hP]; kernel_rfl) (by kernel_rfl) (by simp only [go_sem, hP, hn]; try simp) (by exact fun _ _ h => h) ?_; intro K hK; simp only [go_sem, hP, hn]
  rw [show (fs.map frE).getD 0 [.nil] = [.row [.i .i64 0] ((fr fs 0).map intC)] from rw_fr fs 0 (by omega) (by omega)]
  simp only [go_sem, hP, hn]
  (repeat refine vc ?_)
  refine hK _ ?_; clear K hK
  refine Tr.seq ?_
  refine Tr.meet (fun s => s = ⟨[(1, .d (frD fs)), (2, .ptr 2 0), (5, .d (.i .i64 (manyV n fs))), (6, .d (.row [.i .i64 0] ((wdsV n fs).map intC)))], [(2, .box 50 n.cs)]⟩) ?_ ?_
  rotate_left
  · (repeat (first | refine TS.imp ?_ | refine n9 (by decide) ?_))
    refine TR.imp ?_; intro K hK; simp only [go_sem, hP, hn]; (repeat refine vc ?_); refine hK _ ?_; clear K hK
    refine Tr.le (Le.keep [1, 2, 5, 6, 22]) ?_; simp only [List.map_cons, List.map_nil, lk, Nat.reduceEqDiff, reduceIte]
    refine Tr.block ?_
    refine Tr.seq ?_
    refine Tr.meet (fun s => s = ⟨[(1, .d (frD fs)), (2, .ptr 2 0), (5, .d (.i .i64 1)), (6, .own 20), (22, .d (.i .i64 n.k)), (23, .d (.b (rWin n.k)))], [(2, .box 50 n.cs), (20, .row 3 [.i .i64 0] ([((fr fs 0).length : Int)].map intC))]⟩) ?_ ?_
    rotate_left
    · (repeat (first | refine TS.imp ?_ | refine n9 (by decide) ?_))
      refine TR.imp ?_; intro K hK; simp only [go_sem, hP, hn]; (repeat refine vc ?_); refine hK _ ?_; clear K hK
      (repeat (first | refine TS.imp ?_ | refine n9 (by decide) ?_))
      refine Tr.cond rfl (fun h1 => ?_) (fun h1 => ?_)
      · rw [h1, show rWin n.k = true by unfold rWin; rw [h1]; rfl]
        (repeat (first | refine TS.imp ?_ | refine n9 (by decide) ?_))
        exact ⟨_, (Le.mv (by simp only [go_sem, hP, hn]; first | done | (simp; done) | (simp [intC]; done) | (repeat (first | rfl | constructor))) (by simp only [go_sem, hP, hn]; first | done | (simp; done) | (simp [intC]; done) | (repeat (first | rfl | constructor)))), rfl⟩
      (repeat (first | refine TS.imp ?_ | refine n9 (by decide) ?_))
      refine TR.imp ?_; intro K hK; simp only [go_sem, hP, hn]; (repeat refine vc ?_); refine hK _ ?_; clear K hK
      (repeat (first | refine TS.imp ?_ | refine n9 (by decide) ?_))
      refine Tr.cond rfl (fun h2 => ?_) (fun h2 => ?_)
      · rw [h2, show rWin n.k = true by unfold rWin; rw [h2, Bool.or_true]; rfl]
        (repeat (first | refine TS.imp ?_ | refine n9 (by decide) ?_))
        exact ⟨_, (Le.mv (by simp only [go_sem, hP, hn]; first | done | (simp; done) | (simp [intC]; done) | (repeat (first | rfl | constructor))) (by simp only [go_sem, hP, hn]; first | done | (simp; done) | (simp [intC]; done) | (repeat (first | rfl | constructor)))), rfl⟩
      (repeat (first | refine TS.imp ?_ | refine n9 (by decide) ?_))
      refine TR.imp ?_; intro K hK; simp only [go_sem, hP, hn]; (repeat refine vc ?_); refine hK _ ?_; clear K hK
      (repeat (first | refine TS.imp ?_ | refine n9 (by decide) ?_))
      refine Tr.cond rfl (fun h3 => ?_) (fun h3 => ?_)
      · rw [h3, show rWin n.k = true by unfold rWin; rw [h3, Bool.or_true]; rfl]
        (repeat (first | refine TS.imp ?_ | refine n9 (by decide) ?_))
        exact ⟨_, (Le.mv (by simp only [go_sem, hP, hn]; first | done | (simp; done) | (simp [intC]; done) | (repeat (first | rfl | constructor))) (by simp only [go_sem, hP, hn]; first | done | (simp; done) | (simp [intC]; done) | (repeat (first | rfl | constructor)))), rfl⟩
      (repeat (first | refine TS.imp ?_ | refine n9 (by decide) ?_))
      refine TR.imp ?_; intro K hK; simp only [go_sem, hP, hn]; (repeat refine vc ?_); refine hK _ ?_; clear K hK
      (repeat (first | refine TS.imp ?_ | refine n9 (by decide) ?_))
      refine Tr.cond rfl (fun h4 => ?_) (fun h4 => ?_)
      · rw [h4, show rWin n.k = true by unfold rWin; rw [h4, Bool.or_true]; rfl]
        (repeat (first | refine TS.imp ?_ | refine n9 (by decide) ?_))
        exact ⟨_, (Le.mv (by simp only [go_sem, hP, hn]; first | done | (simp; done) | (simp [intC]; done) | (repeat (first | rfl | constructor))) (by simp only [go_sem, hP, hn]; first | done | (simp; done) | (simp [intC]; done) | (repeat (first | rfl | constructor)))), rfl⟩
      (repeat (first | refine TS.imp ?_ | refine n9 (by decide) ?_))
      refine TR.imp ?_; intro K hK; simp only [go_sem, hP, hn]; (repeat refine vc ?_); refine hK _ ?_; clear K hK
      (repeat (first | refine TS.imp ?_ | refine n9 (by decide) ?_))
      rw [show rWin n.k = (n.k == 12) by unfold rWin; rw [h1, h2, h3, h4]; rfl]
      exact ⟨_, (Le.mv (by simp only [go_sem, hP, hn]; first | done | (simp; done) | (simp [intC]; done) | (repeat (first | rfl | constructor))) (by simp only [go_sem, hP, hn]; first | done | (simp; done) | (simp [intC]; done) | (repeat (first | rfl | constructor)))), rfl⟩
    rintro s rfl
    have hnm : rMany n.k = false → wdsV n fs = [((fr fs 0).length : Int)] := fun e => by unfold wdsV; rw [e]; rfl
    (repeat (first | refine TS.imp ?_ | refine n9 (by decide) ?_))
    refine Tr.cond rfl (fun hw => ?_) (fun hw => ?_)
    · rw [hnm (by
        unfold rWin at hw
        unfold rMany
        simp only [Bool.or_eq_true, beq_iff_eq] at hw
        simp only [Bool.or_eq_false_iff, beq_eq_false_iff_ne]
        omega)]
      have : manyV n fs = n.size := by unfold manyV; rw [hw]; rfl
      rw [this]
      (repeat (first | refine TS.imp ?_ | refine n9 (by decide) ?_))
      refine TR.imp ?_; intro K hK; simp only [go_sem, hP, hn]; (repeat refine vc ?_); refine hK _ ?_; clear K hK
      (repeat (first | refine TS.imp ?_ | refine n9 (by decide) ?_))
      exact ⟨_, (Le.freeze 20).trans (Le.mv (by simp only [go_sem, hP, hn]; first | done | (simp; done) | (simp [intC]; done) | (repeat (first | rfl | constructor))) (by simp only [go_sem, hP, hn]; first | done | (simp; done) | (simp [intC]; done) | (repeat (first | rfl | constructor)))), rfl⟩
    (repeat (first | refine TS.imp ?_ | refine n9 (by decide) ?_))
    refine TR.imp ?_; intro K hK; simp only [go_sem, hP, hn]; (repeat refine vc ?_); refine hK _ ?_; clear K hK
    (repeat (first | refine TS.imp ?_ | refine n9 (by decide) ?_))
    refine Tr.cond rfl (fun h5 => ?_) (fun h5 => ?_)
    · have hk : n.k = 5 := by simpa using h5
      rw [hnm (by rw [hk]; rfl)]
      have : manyV n fs = fs.length := by unfold manyV; rw [hw, h5]; rfl
      rw [this]
      (repeat (first | refine TS.imp ?_ | refine n9 (by decide) ?_))
      refine TR.imp ?_; intro K hK; simp only [go_sem, hP, hn]; (repeat refine vc ?_); refine hK _ ?_; clear K hK
      (repeat (first | refine TS.imp ?_ | refine n9 (by decide) ?_))
      exact ⟨_, (Le.freeze 20).trans (Le.mv (by simp only [go_sem, hP, hn]; first | done | (simp; done) | (simp [intC]; done) | (repeat (first | rfl | constructor))) (by simp only [go_sem, hP, hn]; first | done | (simp; done) | (simp [intC]; done) | (repeat (first | rfl | constructor)))), rfl⟩
    refine Tr.seq ?_
    refine Tr.meet (fun s => s = ⟨[(1, .d (frD fs)), (2, .ptr 2 0), (5, .d (.i .i64 1)), (6, .own 20), (35, .d (.b (rMany n.k)))], [(2, .box 50 n.cs), (20, .row 3 [.i .i64 0] ([((fr fs 0).length : Int)].map intC))]⟩) ?_ ?_
    rotate_left
    · (repeat (first | refine TS.imp ?_ | refine n9 (by decide) ?_))
      refine TR.imp ?_; intro K hK; simp only [go_sem, hP, hn]; (repeat refine vc ?_); refine hK _ ?_; clear K hK
      (repeat (first | refine TS.imp ?_ | refine n9 (by decide) ?_))
      refine Tr.cond rfl (fun h7 => ?_) (fun h7 => ?_)
      · rw [h7, show rMany n.k = true by unfold rMany; rw [h7]; rfl]
        (repeat (first | refine TS.imp ?_ | refine n9 (by decide) ?_))
        exact ⟨_, (Le.mv (by simp only [go_sem, hP, hn]; first | done | (simp; done) | (simp [intC]; done) | (repeat (first | rfl | constructor))) (by simp only [go_sem, hP, hn]; first | done | (simp; done) | (simp [intC]; done) | (repeat (first | rfl | constructor)))), rfl⟩
      (repeat (first | refine TS.imp ?_ | refine n9 (by decide) ?_))
      refine TR.imp ?_; intro K hK; simp only [go_sem, hP, hn]; (repeat refine vc ?_); refine hK _ ?_; clear K hK
      (repeat (first | refine TS.imp ?_ | refine n9 (by decide) ?_))
      rw [show rMany n.k = (n.k == 8) by unfold rMany; rw [h7]; rfl]
      exact ⟨_, (Le.mv (by simp only [go_sem, hP, hn]; first | done | (simp; done) | (simp [intC]; done) | (repeat (first | rfl | constructor))) (by simp only [go_sem, hP, hn]; first | done | (simp; done) | (simp [intC]; done) | (repeat (first | rfl | constructor)))), rfl⟩
    rintro s rfl
    (repeat (first | refine TS.imp ?_ | refine n9 (by decide) ?_))
    refine Tr.cond rfl (fun hq => ?_) (fun hq => ?_)
    · have : manyV n fs = n.inn.length := by unfold manyV; rw [hw, h5, hq]; rfl
      rw [this]
      (repeat (first | refine TS.imp ?_ | refine n9 (by decide) ?_))
      refine TR.imp ?_; intro K hK; simp only [go_sem, hP, hn]; (repeat refine vc ?_); refine hK _ ?_; clear K hK
      (repeat (first | refine TS.imp ?_ | refine n9 (by decide) ?_))
      refine TR.imp ?_; intro K hK; simp only [go_sem, hP, hn]; (repeat refine vc ?_); refine hK _ ?_; clear K hK
      (repeat (first | refine TS.imp ?_ | refine n9 (by decide) ?_))
      refine Tr.le (Le.keep [1, 2, 5, 6, 41, 42, 43]) ?_; simp only [List.map_cons, List.map_nil, lk, Nat.reduceEqDiff, reduceIte]
      refine Tr.le (Le.nilslot 3001 6 3 [.i .i64 0] rfl (by rw [hpn] <;> rfl) rfl rfl) ?_
      refine Tr.loop (fun q s => ∃ (i : Int), s = ⟨[(1, .d (frD fs)), (2, .ptr 2 0), (5, .d (.i .i64 n.inn.length)), (6, .own 3001), (41, .d (frD fs)), (42, .d (.i .i64 fs.length)), (43, .d (.i .i64 i))], [(2, .box 50 n.cs), (3001, .row 3 [.i .i64 0] (((fs.map (fun f => (f.length : Int))).take i.toNat).map intC))]⟩ ∧ 0 ≤ i ∧ i + q = fs.length) fs.length ⟨_, (Le.mv (by simp only [go_sem, hP, hn]; first | done | (simp; done) | (simp [intC]; done) | (repeat (first | rfl | constructor))) (by simp only [go_sem, hP, hn]; first | done | (simp; done) | (simp [intC]; done) | (repeat (first | rfl | constructor)))), 0, rfl, by omega, by omega⟩ ?_
      rintro q s ⟨i, rfl, i0, iq⟩
      have htl : ((fs.map (fun f => (f.length : Int))).take i.toNat).length ≤ 65536 := by simp; omega
      (repeat (first | refine TS.imp ?_ | refine n9 (by decide) ?_))
      refine TR.imp ?_; intro K hK; simp only [go_sem, hP, hn]; (repeat refine vc ?_); refine hK _ ?_; clear K hK
      (repeat (first | refine TS.imp ?_ | refine n9 (by decide) ?_))
      refine Tr.cond rfl (fun hb => ?_) (fun hb => ?_)
      · have hi : i < fs.length := by simpa using hb
        have htk : (fs.map (fun f => (f.length : Int))).take (i + 1).toNat = (fs.map (fun f => (f.length : Int))).take i.toNat ++ [((fr fs i).length : Int)] := by
          rw [take_rd i0 (by simpa using hi)]
          have hk : i.toNat < fs.length := by omega
          simp [rd, fr, List.getD, hk]
        generalize (fs.map (fun f => (f.length : Int))).take i.toNat = L at *
        clear hb
        (repeat (first | refine TS.imp ?_ | refine n9 (by decide) ?_))
        refine TR.imp ?_; intro K hK; simp only [go_sem, hP, hn]
        rw [rw_fr fs i i0 hi]
        simp only [go_sem, hP, hn]
        (repeat refine vc ?_)
        refine hK _ ?_; clear K hK
        (repeat (first | refine TS.imp ?_ | refine n9 (by decide) ?_))
        refine TR.imp ?_; intro K hK; simp only [go_sem, hP, hn]; (repeat refine vc ?_); refine hK _ ?_; clear K hK
        (repeat (first | refine TS.imp ?_ | refine n9 (by decide) ?_))
        refine TR.imp ?_; intro K hK; simp only [go_sem, hP, hn]; (repeat refine vc ?_); refine hK _ ?_; clear K hK
        (repeat (first | refine TS.imp ?_ | refine n9 (by decide) ?_))
        rw [w64 (x := i + 1) (by omega) (by omega)]
        refine ⟨q - 1, _, by omega, ?_, i + 1, rfl, by omega, by omega⟩
        rw [htk]
        refine Le.trans (b := ⟨[(1, .d (frD fs)), (2, .ptr 2 0), (5, .d (.i .i64 n.inn.length)), (6, .own 51), (41, .d (frD fs)), (42, .d (.i .i64 fs.length)), (43, .d (.i .i64 (i + 1)))], [(2, .box 50 n.cs), (51, .row 3 [.i .i64 0] ((L ++ [((fr fs i).length : Int)]).map intC))]⟩) (Le.mv (by simp only [go_sem, hP, hn]; first | done | (simp; done) | (simp [intC]; done) | (repeat (first | rfl | constructor))) (by simp only [go_sem, hP, hn]; first | done | (simp; done) | (simp [intC]; done) | (repeat (first | rfl | constructor)))) ?_
        refine Le.trans (Le.ren 51 3001 (by rw [hpn] <;> rfl) rfl rfl) ?_; simp only [renT, renH, renO, renS, renL, rn, go_sem, hP, hn]
        exact (Le.mv (by simp only [go_sem, hP, hn]; first | done | (simp; done) | (simp [intC]; done) | (repeat (first | rfl | constructor))) (by simp only [go_sem, hP, hn]; first | done | (simp; done) | (simp [intC]; done) | (repeat (first | rfl | constructor))))
      · have hi : i = fs.length := by have := of_decide_eq_false hb; omega
        subst hi
        clear hb
        have e : wdsV n fs = (fs.map (fun f => (f.length : Int))).take (fs.length : Int).toNat := by
          unfold wdsV
          rw [hq, if_pos rfl, List.take_of_length_le (by simp)]
        rw [e]
        (repeat (first | refine TS.imp ?_ | refine n9 (by decide) ?_))
        exact ⟨_, (Le.freeze 3001).trans (Le.mv (by simp only [go_sem, hP, hn]; first | done | (simp; done) | (simp [intC]; done) | (repeat (first | rfl | constructor))) (by simp only [go_sem, hP, hn]; first | done | (simp; done) | (simp [intC]; done) | (repeat (first | rfl | constructor)))), rfl⟩
    · have : manyV n fs = 1 := by unfold manyV; rw [hw, h5, hq]; rfl
      rw [this, hnm hq]
      (repeat (first | refine TS.imp ?_ | refine n9 (by decide) ?_))
      exact ⟨_, (Le.freeze 20).trans (Le.mv (by simp only [go_sem, hP, hn]; first | done | (simp; done) | (simp [intC]; done) | (repeat (first | rfl | constructor))) (by simp only [go_sem, hP, hn]; first | done | (simp; done) | (simp [intC]; done) | (repeat (first | rfl | constructor)))), rfl⟩
  rintro s rfl
  have hrl : (wdsV n fs).length ≤ 65536 := by
    unfold wdsV
    split
    · simp; omega
    · simp
  have hrp : 0 < (wdsV n fs).length := by
    unfold wdsV
    split
    · simp; omega
    · simp
  generalize wdsV n fs = V at *
  generalize manyV n fs = M at *
  (repeat (first | refine TS.imp ?_ | refine n9 (by decide) ?_))
  refine TR.imp ?_; intro K hK; simp only [go_sem, hP, hn]; (repeat refine vc ?_); refine c2 (fun hg => by rw [hP, hT]; exact Check_k Tk n V hwl hbl hrl hil) rfl rfl rfl (fun hg => trivial) (fun hg => by clear hK; revert hg; simp only [go_sem, hP, hn]; first | trivial | omega | (simp; done) | (simp +contextual; done) | grind) (fun hg => by simp only [go_sem, hP, hn]; try rfl) (by rw [hn]; decide) (by rfl) ?_; simp only [go_sem, hP, hn]; (repeat refine vc ?_); refine hK _ ?_; clear K hK
  (repeat (first | refine TS.imp ?_ | refine n9 (by decide) ?_))
  rw [chk_eq]
  refine Tr.cond rfl (fun hc => ?_) (fun hc => ?_)
  · (repeat (first | (refine TR.imp ?_; intro K hK; simp only [go_sem, hP, hn]; (repeat refine vc ?_); refine hK _ ?_; clear K hK) | refine TS.imp ?_ | refine n9 (by decide) ?_))
    simp only [RetG, go_sem]; (repeat with_reducible refine vc ?_)
    rw [hc]; rfl
  rw [hc]
  clear hc
  rw [Bool.not_false, Bool.true_and]
  (repeat (first | refine TS.imp ?_ | refine n9 (by decide) ?_))
  refine TR.imp ?_; intro K hK; simp only [go_sem, hP, hn]; (repeat refine vc ?_); refine hK _ ?_; clear K hK
  (repeat (first | refine TS.imp ?_ | refine n9 (by decide) ?_))
  refine Tr.le (Le.keep [1, 2, 6, 63, 64, 65]) ?_; simp only [List.map_cons, List.map_nil, lk, Nat.reduceEqDiff, reduceIte]
  generalize hV : fs.all (frOk V) = v
  refine Tr.loop (fun q s => ∃ (i : Int), s = ⟨[(1, .d (frD fs)), (2, .ptr 2 0), (6, .d (.row [.i .i64 0] (V.map intC))), (63, .d (frD fs)), (64, .d (.i .i64 fs.length)), (65, .d (.i .i64 i))], [(2, .box 50 n.cs)]⟩ ∧ 0 ≤ i ∧ i + q = fs.length ∧ v = (fs.drop i.toNat).all (frOk V)) fs.length ⟨_, (Le.mv (by simp only [go_sem, hP, hn]; first | done | (simp; done) | (simp [intC]; done) | (repeat (first | rfl | constructor))) (by simp only [go_sem, hP, hn]; first | done | (simp; done) | (simp [intC]; done) | (repeat (first | rfl | constructor)))), 0, rfl, by omega, by omega, hV.symm⟩ ?_
  rintro q s ⟨i, rfl, i0, iq, hv⟩
  (repeat (first | refine TS.imp ?_ | refine n9 (by decide) ?_))
  refine TR.imp ?_; intro K hK; simp only [go_sem, hP, hn]; (repeat refine vc ?_); refine hK _ ?_; clear K hK
  (repeat (first | refine TS.imp ?_ | refine n9 (by decide) ?_))
  refine Tr.cond rfl (fun hb => ?_) (fun hb => ?_)
  · have hi : i < fs.length := by simpa using hb
    have hdr : fs.drop i.toNat = fr fs i :: fs.drop (i + 1).toNat := by
      have hk : i.toNat < fs.length := by omega
      rw [List.drop_eq_getElem_cons hk, show (i + 1).toNat = i.toNat + 1 by omega]
      simp [fr, List.getD, hk]
    rw [hdr, List.all_cons] at hv
    have hfl2 := hfl _ (fr_mem i0 hi)
    clear hb
    (repeat (first | refine TS.imp ?_ | refine n9 (by decide) ?_))
    refine TR.imp ?_; intro K hK; simp only [go_sem, hP, hn]
    rw [rw_fr fs i i0 hi]
    simp only [go_sem, hP, hn]
    (repeat refine vc ?_)
    refine hK _ ?_; clear K hK
    (repeat (first | refine TS.imp ?_ | refine n9 (by decide) ?_))
    generalize fr fs i = f at *
    refine TR.imp ?_; intro K hK; simp only [go_sem, hP, hn]
    (repeat refine vc ?_)
    refine hK _ ?_; clear K hK
    (repeat (first | refine TS.imp ?_ | refine n9 (by decide) ?_))
    refine Tr.cond rfl (fun hc => ?_) (fun hc => ?_)
    · (repeat (first | (refine TR.imp ?_; intro K hK; simp only [go_sem, hP, hn]; (repeat refine vc ?_); refine hK _ ?_; clear K hK) | refine TS.imp ?_ | refine n9 (by decide) ?_))
      simp only [RetG, go_sem]; (repeat with_reducible refine vc ?_)
      unfold frOk at hv
      rw [hc] at hv
      simpa using hv
    have hfo : frOk V f = f.all fits32 := by unfold frOk; rw [hc]; rfl
    rw [hfo] at hv
    clear hc hfo
    refine Tr.le (Le.keep [1, 2, 6, 10, 63, 64, 65]) ?_; simp only [List.map_cons, List.map_nil, lk, Nat.reduceEqDiff, reduceIte]
    (repeat (first | refine TS.imp ?_ | refine n9 (by decide) ?_))
    refine TR.imp ?_; intro K hK; simp only [go_sem, hP, hn]; (repeat refine vc ?_); refine hK _ ?_; clear K hK
    (repeat (first | refine TS.imp ?_ | refine n9 (by decide) ?_))
    refine Tr.le (Le.keep [1, 2, 6, 63, 64, 65, 80, 81, 82]) ?_; simp only [List.map_cons, List.map_nil, lk, Nat.reduceEqDiff, reduceIte]
    refine Tr.loop (fun p s => ∃ (k : Int), s = ⟨[(1, .d (frD fs)), (2, .ptr 2 0), (6, .d (.row [.i .i64 0] (V.map intC))), (63, .d (frD fs)), (64, .d (.i .i64 fs.length)), (65, .d (.i .i64 i)), (80, .d (.row [.i .i64 0] (f.map intC))), (81, .d (.i .i64 f.length)), (82, .d (.i .i64 k))], [(2, .box 50 n.cs)]⟩ ∧ 0 ≤ k ∧ k + p = f.length ∧ v = ((f.drop k.toNat).all fits32 && (fs.drop (i + 1).toNat).all (frOk V))) f.length ⟨_, (Le.mv (by simp only [go_sem, hP, hn]; first | done | (simp; done) | (simp [intC]; done) | (repeat (first | rfl | constructor))) (by simp only [go_sem, hP, hn]; first | done | (simp; done) | (simp [intC]; done) | (repeat (first | rfl | constructor)))), 0, rfl, by omega, by omega, hv⟩ ?_
    clear hv
    rintro p s ⟨k, rfl, k0, kp, hv⟩
    (repeat (first | refine TS.imp ?_ | refine n9 (by decide) ?_))
    refine TR.imp ?_; intro K hK; simp only [go_sem, hP, hn]; (repeat refine vc ?_); refine hK _ ?_; clear K hK
    (repeat (first | refine TS.imp ?_ | refine n9 (by decide) ?_))
    refine Tr.cond rfl (fun hb => ?_) (fun hb => ?_)
    · have hk : k < f.length := by simpa using hb
      rw [drop_rd k0 hk, List.all_cons] at hv
      clear hb
      (repeat (first | refine TS.imp ?_ | refine n9 (by decide) ?_))
      refine TR.imp ?_; intro K hK; simp only [go_sem, hP, hn]; (repeat refine vc ?_); refine hK _ ?_; clear K hK
      (repeat (first | refine TS.imp ?_ | refine n9 (by decide) ?_))
      refine TR.imp ?_; intro K hK; simp only [go_sem, hP, hn]; (repeat refine vc ?_); refine c1 (by rw [hP, hT]; exact Fits_c Tk.m (rd f k)) rfl rfl rfl trivial (by simp only [go_sem, hP, hn]; try trivial) (by simp only [go_sem, hP, hn]; try rfl) (by rw [hn]; decide) (by rfl) ?_; simp only [go_sem, hP, hn]; (repeat refine vc ?_); refine hK _ ?_; clear K hK
      (repeat (first | refine TS.imp ?_ | refine n9 (by decide) ?_))
      refine Tr.cond rfl (fun hc => ?_) (fun hc => ?_)
      · have hc : fits32 (rd f k) = false := by simpa using hc
        (repeat (first | (refine TR.imp ?_; intro K hK; simp only [go_sem, hP, hn]; (repeat refine vc ?_); refine hK _ ?_; clear K hK) | refine TS.imp ?_ | refine n9 (by decide) ?_))
        simp only [RetG, go_sem]; (repeat with_reducible refine vc ?_)
        rw [hv, hc]; rfl
      · have hc : fits32 (rd f k) = true := by simpa using hc
        (repeat (first | refine TS.imp ?_ | refine n9 (by decide) ?_))
        refine TR.imp ?_; intro K hK; simp only [go_sem, hP, hn]; (repeat refine vc ?_); refine hK _ ?_; clear K hK
        (repeat (first | refine TS.imp ?_ | refine n9 (by decide) ?_))
        rw [w64 (x := k + 1) (by omega) (by omega)]
        refine ⟨p - 1, _, by omega, ?_, k + 1, rfl, by omega, by omega, by rw [hv, hc]; rfl⟩
        exact (Le.mv (by simp only [go_sem, hP, hn]; first | done | (simp; done) | (simp [intC]; done) | (repeat (first | rfl | constructor))) (by simp only [go_sem, hP, hn]; first | done | (simp; done) | (simp [intC]; done) | (repeat (first | rfl | constructor))))
    · rw [drop_end (by simpa using hb)] at hv
      (repeat (first | refine TS.imp ?_ | refine n9 (by decide) ?_))
      refine TR.imp ?_; intro K hK; simp only [go_sem, hP, hn]; (repeat refine vc ?_); refine hK _ ?_; clear K hK
      (repeat (first | refine TS.imp ?_ | refine n9 (by decide) ?_))
      rw [w64 (x := i + 1) (by omega) (by omega)]
      refine ⟨q - 1, _, by omega, ?_, i + 1, rfl, by omega, by omega, by simpa using hv⟩
      exact (Le.mv (by simp only [go_sem, hP, hn]; first | done | (simp; done) | (simp [intC]; done) | (repeat (first | rfl | constructor))) (by simp only [go_sem, hP, hn]; first | done | (simp; done) | (simp [intC]; done) | (repeat (first | rfl | constructor))))
  · rw [List.drop_of_length_le (by have := of_decide_eq_false hb; omega)] at hv
    (repeat (first | (refine TR.imp ?_; intro K hK; simp only [go_sem, hP, hn]; (repeat refine vc ?_); refine hK _ ?_; clear K hK) | refine TS.imp ?_ | refine n9 (by decide) ?_))
    simp only [RetG, go_sem]; (repeat with_reducible refine vc ?_)
    simpa using hv
end
end Go.Proofs.YtgomeljgbjgbkaaDoor.Aw
namespace Go.Proofs.YtgomeljgbjgbkaaDoor.Aw
open Go.RowKit
set_option maxRecDepth 100000
/-! what frames that are as they should be have -/
structure FOk (n : Nd) (fs : List (List Int)) (w : Nat) : Prop where
  m0 : 1 ≤ fs.length ∧ fs.length ≤ 4096
  w0 : 1 ≤ w ∧ w ≤ 16
  f0 : (fr fs 0).length = w
  le : ∀ f ∈ fs, f.length ≤ 16
  num : ∀ f ∈ fs, ∀ x ∈ f, in32 x
  kok : n.k ≠ 8 → KOk n fs w
  join : n.k = 8 → fs.length ≤ 4
  post : 0 ≤ n.post ∧ n.post ≤ 3
  il : n.inn.length ≤ 4
  wl : n.ws.length ≤ 4096
  bl : n.bs.length ≤ 4096
theorem chkL7 {n : Nd} (h7 : n.k = 7) (v : Int) : ∀ (l : List Int) (s : Int), n.chkL v s l = 0 → ∀ x ∈ l, x = v
  | [], _, _, x, hx => by cases hx
  | y :: l, s, h, x, hx => by
    unfold Nd.chkL at h
    rw [h7] at h
    split at h
    · cases h
    · rename_i hc
      have hy : y = v := by simpa using hc
      rcases List.mem_cons.1 hx with rfl | hx
      · exact hy
      · exact chkL7 h7 v l _ h x hx
theorem ws_le {n : Nd} {v : Int} (hv : 1 ≤ v ∧ v ≤ 16) (he : n.else0 = true) (hs : n.sized v = true) : n.ws.length ≤ 4096 ∧ n.bs.length ≤ 4096 := by
  cases hw : rWeighs n.k with
  | false =>
    have e10 : n.e10 = false := by
      unfold Nd.else0 at he
      cases e : n.e10 with
      | false => rfl
      | true => rw [e] at he; simp at he
    unfold Nd.e10 at e10
    rw [hw] at e10
    simp at e10
    rw [e10.1, e10.2]; simp
  | true =>
    unfold Nd.sized at hs
    rw [if_pos hw] at hs
    have hc : n.k = 1 ∨ n.k = 2 ∨ n.k = 6 := by unfold rWeighs at hw; simpa [or_assoc] using hw
    have h4 : n.s4 = false := by
      cases e : n.s4 with
      | false => rfl
      | true => rw [e] at hs; simp at hs
    have h13 : n.s13 = false := by
      cases e : n.s13 with
      | false => rfl
      | true => rw [e] at hs; simp at hs
    have h21 : n.s21 v (if (n.k == 2) = true then v else n.wid) = false := by
      cases e : n.s21 v (if (n.k == 2) = true then v else n.wid) with
      | false => rfl
      | true => rw [e] at hs; simp at hs
    unfold Nd.s21 at h21
    simp only [Bool.or_eq_false_iff, bne_eq_false_iff_eq] at h21
    obtain ⟨⟨⟨hW, hB⟩, _⟩, _⟩ := h21
    have hsz : rFour n.k = true → 1 ≤ n.size ∧ n.size ≤ 8 := by
      intro e; unfold Nd.s4 at h4; rw [e] at h4
      simp at h4
      exact inB_iff.mp h4
    have hwd : (n.k = 1 ∨ n.k = 6) → 1 ≤ n.wid ∧ n.wid ≤ 16 := by
      intro e; unfold Nd.s13 at h13
      have : (n.k == 1 || n.k == 6) = true := by simpa using e
      rw [this] at h13; simp at h13
      exact inB_iff.mp h13
    unfold Nd.rWeights at hW
    rcases hc with hk | hk | hk
    · have s1 := hsz (by rw [hk]; rfl)
      have d1 := hwd (.inl hk)
      rw [hk] at hW hB
      simp at hW hB
      have m1 := mul_le n.wid 16 n.size 8 (by omega) d1.2 (by omega) s1.2
      have m2 := mul_le (n.wid * n.size) 128 v 16 m1.1 m1.2 (by omega) (by omega)
      rw [w64 (x := n.wid * n.size) (by omega) (by omega), w64 (by omega) (by omega)] at hW
      omega
    · have s1 := hsz (by rw [hk]; rfl)
      rw [hk] at hW hB
      simp at hW hB
      have m1 := mul_le v 16 n.size 8 (by omega) (by omega) (by omega) s1.2
      rw [w64 (by omega) (by omega)] at hW
      omega
    · have d1 := hwd (.inr hk)
      rw [hk] at hW hB
      simp at hW hB
      have m1 := mul_le n.wid 16 v 16 (by omega) d1.2 (by omega) (by omega)
      rw [w64 (by omega) (by omega)] at hW
      omega
theorem win_size {n : Nd} {v : Int} (hs : n.sized v = true) (hw : rWin n.k = true) : 1 ≤ n.size ∧ n.size ≤ 8 := by
  have h4 : n.s4 = false := by
    unfold Nd.sized at hs
    cases e : n.s4 with
    | false => rfl
    | true => rw [e] at hs; simp at hs
  unfold Nd.s4 at h4
  have : (rFour n.k || n.k == 12) = true := hw
  rw [this] at h4
  exact inB_iff.1 (show inB n.size 1 8 = true by simpa using h4)
theorem right_fok {n : Nd} {fs : List (List Int)} (hm : fs.length ≤ 4096) (h : rightV n fs = true) : FOk n fs (fr fs 0).length := by
  unfold rightV at h
  simp only [Bool.and_eq_true, Bool.not_eq_true', Bool.or_eq_false_iff, bne_eq_false_iff_eq, beq_eq_false_iff_ne] at h
  obtain ⟨⟨h0, h1, hk⟩, hall⟩ := h
  have hpos : 1 ≤ fs.length := by omega
  have hall := List.all_eq_true.1 hall
  have hf0m : fr fs 0 ∈ fs := fr_mem (by decide) (by omega)
  obtain ⟨c1, c7, c9, he, hs, hL⟩ := rchk_unpack hk
  have hin := chk1_all c1
  have hlen : (wdsV n fs).length = n.inn.length := by
    unfold Nd.chk1 at c1
    simp only [Bool.or_eq_false_iff, bne_eq_false_iff_eq] at c1
    omega
  have hnum : ∀ f ∈ fs, ∀ x ∈ f, in32 x := fun f hf x hx => by
    have := hall f hf
    unfold frOk at this
    simp only [Bool.and_eq_true] at this
    exact (fits32_iff x).1 (List.all_eq_true.1 this.2 x hx)
  have hpost : 0 ≤ n.post ∧ n.post ≤ 3 := by
    unfold Nd.r9 at c9
    simp only [Bool.or_eq_false_iff, decide_eq_false_iff_not] at c9
    omega
  cases hq : rMany n.k with
  | false =>
    have hwd : wdsV n fs = [((fr fs 0).length : Int)] := by unfold wdsV; rw [hq]; rfl
    rw [hwd] at hin hlen hs hL hk
    have hw0 := hin _ (List.mem_singleton.2 rfl)
    have hs : n.sized ((fr fs 0).length : Int) = true := hs
    have hfl : ∀ f ∈ fs, f.length = (fr fs 0).length := fun f hf => by
      have := hall f hf
      unfold frOk at this
      rw [hwd] at this
      simp [rd] at this
      have := this.1
      omega
    have hil : n.inn.length = 1 := by rw [← hlen]; rfl
    obtain ⟨hwl, hbl⟩ := ws_le hw0 he hs
    have k8 : n.k ≠ 8 := fun e => by rw [e] at hq; cases hq
    refine ⟨⟨hpos, hm⟩, by omega, rfl, fun f hf => by rw [hfl f hf]; omega, hnum, fun _ => ?_, fun e => absurd e k8, hpost, by omega, hwl, hbl⟩
    refine ⟨by omega, ⟨hpos, hm⟩, hfl, hnum, fun e => ?_, fun e => ?_, fun e1 e2 e3 => ?_, by rw [hil]; exact hk, by omega, hwl, hbl⟩
    · rw [h1]; unfold manyV; rw [e]; rfl
    · rw [hq] at e; cases e
    · have : (fs.length : Int) = 1 := by
        rw [h1]; unfold manyV
        rw [e1, hq, if_neg (by decide), if_neg (by simpa using e3), if_neg (by decide)]
      omega
  | true =>
    have hwd : wdsV n fs = fs.map (fun f => (f.length : Int)) := by unfold wdsV; rw [hq]; rfl
    have h24 := rMany_chk hk hq
    rw [hwd] at hin hlen hs hL hk h24
    simp only [List.length_map] at hlen h24
    have hle : ∀ f ∈ fs, 1 ≤ f.length ∧ f.length ≤ 16 := fun f hf => by
      have := hin _ (List.mem_map.2 ⟨f, hf, rfl⟩)
      omega
    have h0e : rd (fs.map (fun f => (f.length : Int))) 0 = (fr fs 0).length := by
      have hk0 : (0 : Int).toNat < fs.length := by simp; omega
      simp [rd, fr, List.getD]
      cases fs with
      | nil => simp at hpos
      | cons a b => rfl
    rw [h0e] at hs hL
    have hw0 := hle _ hf0m
    obtain ⟨hwl, hbl⟩ := ws_le (v := ((fr fs 0).length : Int)) (by omega) he hs
    refine ⟨⟨hpos, hm⟩, hw0, rfl, fun f hf => (hle f hf).2, hnum, fun k8 => ?_, fun _ => h24.2, hpost, by omega, hwl, hbl⟩
    have k7 : n.k = 7 := by
      unfold rMany at hq
      simp only [Bool.or_eq_true, beq_iff_eq] at hq
      omega
    have hsame : ∀ f ∈ fs, f.length = (fr fs 0).length := fun f hf => by
      have := chkL7 k7 _ _ _ hL _ (List.mem_map.2 ⟨f, hf, rfl⟩)
      omega
    have hrep : fs.map (fun f => (f.length : Int)) = List.replicate n.inn.length ((fr fs 0).length : Int) := by
      rw [← hlen, List.eq_replicate_iff]
      exact ⟨by simp, fun b hb => by obtain ⟨f, hf, rfl⟩ := List.mem_map.1 hb; rw [hsame f hf]⟩
    refine ⟨hw0, ⟨hpos, hm⟩, hsame, hnum, fun e => ?_, fun _ => hlen, fun _ e => ?_, by rw [← hrep]; exact hk, by omega, hwl, hbl⟩
    · rw [k7] at e; cases e
    · rw [hq] at e; cases e
end Go.Proofs.YtgomeljgbjgbkaaDoor.Aw
namespace Go.Proofs.YtgomeljgbjgbkaaDoor.Aw
open Go.RowKit
attribute [local go_sem_proc] Nat.reduceAdd Nat.reduceMul Nat.reduceSub Nat.reduceEqDiff Nat.reduceLeDiff Nat.reduceBEq Nat.reduceBNe Int.reduceToNat reduceIte reduceCtorEq
attribute [local go_sem] initT SQ so pe he ev lk constS stp stc gdS nth pickS pickD loadS cellsAt okAt fieldAddrS fieldS partS indexAddrS indexS extractS binS binD binI isShift unS convS lenS sliceS bndI bndC mmS mm2 mmD builtS fillS okCells cellsS splS solid aliveL alive okS boxS allocS makeS bsliceS elemsOf dcells stF frzW storeS frzA frz frzT frzS frzL frzO frzH appS srcS appVC killS killT killC killH killO k1 k2 S.has S.hasL St.add St.upd dropH lh cond_or cond_and rw_intC rw_intC0 rw_set rw_app rw_apps rw_rep rw_slice wr64 cond_true cond_false true_and and_true List.map_cons List.map_nil List.length_cons List.length_nil List.drop_succ_cons List.drop_zero List.take_succ_cons List.take_zero List.nil_append List.cons_append List.getD_cons_zero List.getD_cons_succ List.headD_cons List.length_map ite_true ite_false if_true if_false Bool.false_eq_true and_self forall_const List.drop_nil List.take_nil List.append_nil Option.map_some Option.map_none List.mapM_cons List.mapM_nil Option.bind_eq_bind Option.bind_some Option.pure_def knows resL resV oneS freshS freshL cv cvL stpL stcL or_true true_or or_false false_or List.all_cons List.all_nil Bool.and_self Bool.or_self Bool.true_and Bool.and_true Bool.or_false Bool.false_or implies_true flatD allm_nil allm_cons List.getElem?_cons_zero List.getElem?_cons_succ Nd.cs Nd.ds ml mln Option.isSome_some Option.isSome_none eq_self Int.toNat_natCast AP ldOk isLd inL subL crt chg chgS chgP idxs aliveW Option.toList_some Option.toList_none Option.toList RetG Nd.win frzA offK keepH aliveK nkH closedH closedO keysK inH St.upd rowO List.contains_cons List.contains_nil Bool.or_self Option.isNone_none Option.isNone_some Bool.not_true Bool.not_false gcs rowN e0N frzC
attribute [local go_sem] sz2 ag2 ok2 kk2 iu2 zc2 zd2 by2 sz3 ag3 ok3 kk3 iu3 zc3 zd3 by3 sz4 ag4 ok4 bo4 zc4 zd4 by4 sz5 ag5 ok5 kk5 iu5 zc5 zd5 by5 sz9 ag9 ok9 st9 zc9 zd9 by9 sz12 ag12 ok12 kk12 iu12 zc12 zd12 by12 sz15 ag15 ok15 zc15 by15 sz16 ag16 ok16 zc16 by16 sz21 ag21 ok21 kk21 iu21 zc21 zd21 by21 sz22 ag22 ok22 sl22 zc22 zd22 by22 sz24 ag24 ok24 sl24 zc24 zd24 by24 sz25 ag25 ok25 zc25 zd25 pl25 by25 fl25_0 fl25_1 fl25_2 fl25_3 fl25_4 sz26 ag26 ok26 zc26 zd26 pl26 by26 fl26_0 fl26_1 fl26_2 fl26_3 fl26_4 sz30 ag30 ok30 sl30 ar30 zc30 zd30 pl30 by30 sz31 ag31 ok31 sl31 ar31 zc31 zd31 pl31 by31 sz32 ag32 ok32 sl32 zc32 zd32 by32 sz36 ag36 ok36 kk36 iu36 zc36 zd36 by36 sz37 ag37 ok37 zc37 zd37 pl37 by37 fl37_0 fl37_1 fl37_2 fl37_3 sz38 ag38 ok38 zc38 zd38 pl38 by38 fl38_0 fl38_1 fl38_2 fl38_3 sz40 ag40 ok40 sl40 zc40 zd40 by40 sz41 ag41 ok41 zc41 zd41 pl41 by41 fl41_0 fl41_1 sz42 ag42 ok42 zc42 zd42 pl42 by42 fl42_0 fl42_1 sz44 ag44 ok44 kk44 iu44 zc44 zd44 by44 sz49 ag49 ok49 zc49 zd49 pl49 by49 fl49_0 fl49_1 fl49_2 fl49_3 fl49_4 fl49_5 fl49_6 fl49_7 fl49_8 fl49_9 fl49_10 fl49_11 fl49_12 fl49_13 fl49_14 sz50 ag50 ok50 zc50 zd50 pl50 by50 fl50_0 fl50_1 fl50_2 fl50_3 fl50_4 fl50_5 fl50_6 fl50_7 fl50_8 fl50_9 fl50_10 fl50_11 fl50_12 fl50_13 fl50_14 sz55 ag55 ok55 zc55 zd55 pl55 by55 fl55_0 fl55_1 fl55_2 sz56 ag56 ok56 zc56 zd56 pl56 by56 fl56_0 fl56_1 fl56_2 sz65 ag65 ok65 sl65 zc65 zd65 by65 sz68 ag68 ok68 zc68 by68 sz81 ag81 ok81 zc81 zd81 pl81 by81 fl81_0 fl81_1 fl81_2 fl81_3 sz82 ag82 ok82 zc82 zd82 pl82 by82 fl82_0 fl82_1 fl82_2 fl82_3 sz87 ag87 ok87 zc87 by87 sz88 ag88 ok88 zc88 zd88 pl88 by88 fl88_0 fl88_1 fl88_2 sz89 ag89 ok89 zc89 zd89 pl89 by89 fl89_0 fl89_1 fl89_2 sz92 ag92 ok92 zc92 by92 sz93 ag93 ok93 zc93 zd93 pl93 by93 fl93_0 fl93_1 sz94 ag94 ok94 zc94 zd94 pl94 by94 fl94_0 fl94_1 sz98 ag98 ok98 zc98 zd98 pl98 by98 fl98_0 fl98_1 fl98_2 sz99 ag99 ok99 zc99 zd99 pl99 by99 fl99_0 fl99_1 fl99_2 sz112 ag112 ok112 sl112 ar112 zc112 zd112 pl112 by112 sz113 ag113 ok113 sl113 ar113 zc113 zd113 pl113 by113 sz124 ag124 ok124 zc124 zd124 pl124 by124 fl124_0 fl124_1 sz125 ag125 ok125 sl125 ar125 zc125 zd125 pl125 by125 sz126 ag126 ok126 zc126 by126 sz130 ag130 ok130 zc130 by130 sz132 ag132 ok132 zc132 zd132 pl132 by132 fl132_0 fl132_1 sz133 ag133 ok133 zc133 zd133 pl133 by133 fl133_0 fl133_1 sz151 ag151 ok151 kk151 iu151 zc151 zd151 by151 sz155 ag155 ok155 zc155 by155
section
attribute [local go_sem] frD
theorem Frame_w {T : World → Prop} (Tk : KT T) (n : Nd) (fs : List (List Int)) (w : Nat) (h : FOk n fs w) (hR : rightV n fs = true) : Cg Go.Proofs.Tryd.prog T 94 [] [.agg n.cs, .d (frD fs)] (fun r H => H = [(2000, .row 3 [.i .i64 0] ((frameV n fs w).map intC))] ∧ r = .own 2000) := by
  have hm0 := h.m0
  have hw0 := h.w0
  have hf0 := h.f0
  have hRc := right_g Tk n fs (by omega) (Nat.le_trans h.wl (by decide)) (Nat.le_trans h.bl (by decide)) (Nat.le_trans h.il (by decide)) (fun f hf => Nat.le_trans (h.le f hf) (by decide))
  rw [hR] at hRc
  have hA : 1 ≤ fs.length ∧ fs.length ≤ 4096 := by omega
  refine Cg_of [2000] Tk.m Go.Proofs.Tryd.func94 rfl rfl Go.Proofs.Tryd.ntmps94 (by simp) rfl (rs := [.tmp 4]) rfl fun E hP hn hT hpn => ?_
  (repeat (first | refine TS.imp ?_ | refine n9 (by decide) ?_))
  refine TR.imp ?_; intro K hK; simp only [go_sem, hP, hn]; (repeat refine vc ?_); refine hK _ ?_; clear K hK
  (repeat (first | refine TS.imp ?_ | refine n9 (by decide) ?_))
  refine TR.imp ?_; intro K hK; simp only [go_sem, hP, hn]; (repeat refine vc ?_); refine c1 (by rw [hP, hT]; exact hRc.ct (bool_ct _)) rfl rfl rfl trivial (by simp only [go_sem, hP, hn]; try trivial) (by simp only [go_sem, hP, hn]; try rfl) (by rw [hn]; decide) (by rfl) ?_; simp only [go_sem, hP, hn]; (repeat refine vc ?_); refine hK _ ?_; clear K hK
  (repeat (first | refine TS.imp ?_ | refine n9 (by decide) ?_))
  refine Tr.cond rfl (fun h0 => ?_) (fun h0 => ?_)
  · cases h0
  clear h0
  refine Tr.le (Le.keep [1, 2]) ?_; simp only [List.map_cons, List.map_nil, lk, Nat.reduceEqDiff, reduceIte]
  refine Tr.le (Le.ren 2 1000 (by rw [hpn] <;> rfl) rfl rfl) ?_; simp only [renT, renH, renO, renS, renL, rn, go_sem, hP, hn]
  refine Tr.skip ?_
  refine n1 ?_
  refine Tr.seq ?_
  refine Tr.meet (fun s => (rWeighs n.k = false ∧ ¬ (n.k = 3 ∨ n.k = 5) ∧ ¬ (n.k = 4 ∨ n.k = 12) ∧ ¬ n.k = 7 ∧ ¬ n.k = 9 ∧ ¬ n.k = 10 ∧ ¬ n.k = 11) ∧ s = ⟨[(1, .d (frD fs))], []⟩) ?_ ?_
  rotate_left
  · (repeat (first | refine TS.imp ?_ | refine n9 (by decide) ?_))
    refine TR.imp ?_; intro K hK; simp only [go_sem, hP, hn]; (repeat refine vc ?_); refine hK _ ?_; clear K hK
    refine Tr.le (Le.keep [1, 2, 13]) ?_; simp only [List.map_cons, List.map_nil, lk, Nat.reduceEqDiff, reduceIte]
    refine Tr.block ?_
    refine Tr.seq ?_
    refine Tr.meet (fun s => s = ⟨[(1, .d (frD fs)), (2, .ptr 1000 0), (13, .d (.i .i64 n.k)), (14, .d (.b (rWeighs n.k)))], [(1000, .box 50 n.cs)]⟩) ?_ ?_
    rotate_left
    · (repeat (first | refine TS.imp ?_ | refine n9 (by decide) ?_))
      refine TR.imp ?_; intro K hK; simp only [go_sem, hP, hn]; (repeat refine vc ?_); refine hK _ ?_; clear K hK
      (repeat (first | refine TS.imp ?_ | refine n9 (by decide) ?_))
      refine Tr.cond rfl (fun h1 => ?_) (fun h1 => ?_)
      · rw [h1, show rWeighs n.k = true by unfold rWeighs; rw [h1]; rfl]
        (repeat (first | refine TS.imp ?_ | refine n9 (by decide) ?_))
        exact ⟨_, (Le.mv (by simp only [go_sem, hP, hn]; first | done | (simp; done) | (simp [intC]; done) | (repeat (first | rfl | constructor))) (by simp only [go_sem, hP, hn]; first | done | (simp; done) | (simp [intC]; done) | (repeat (first | rfl | constructor)))), rfl⟩
      (repeat (first | refine TS.imp ?_ | refine n9 (by decide) ?_))
      refine TR.imp ?_; intro K hK; simp only [go_sem, hP, hn]; (repeat refine vc ?_); refine hK _ ?_; clear K hK
      (repeat (first | refine TS.imp ?_ | refine n9 (by decide) ?_))
      refine Tr.cond rfl (fun h2 => ?_) (fun h2 => ?_)
      · rw [h2, show rWeighs n.k = true by unfold rWeighs; rw [h2, Bool.or_true]; rfl]
        (repeat (first | refine TS.imp ?_ | refine n9 (by decide) ?_))
        exact ⟨_, (Le.mv (by simp only [go_sem, hP, hn]; first | done | (simp; done) | (simp [intC]; done) | (repeat (first | rfl | constructor))) (by simp only [go_sem, hP, hn]; first | done | (simp; done) | (simp [intC]; done) | (repeat (first | rfl | constructor)))), rfl⟩
      (repeat (first | refine TS.imp ?_ | refine n9 (by decide) ?_))
      refine TR.imp ?_; intro K hK; simp only [go_sem, hP, hn]; (repeat refine vc ?_); refine hK _ ?_; clear K hK
      (repeat (first | refine TS.imp ?_ | refine n9 (by decide) ?_))
      rw [show rWeighs n.k = (n.k == 6) by unfold rWeighs; rw [h1, h2]; rfl]
      exact ⟨_, (Le.mv (by simp only [go_sem, hP, hn]; first | done | (simp; done) | (simp [intC]; done) | (repeat (first | rfl | constructor))) (by simp only [go_sem, hP, hn]; first | done | (simp; done) | (simp [intC]; done) | (repeat (first | rfl | constructor)))), rfl⟩
    rintro s rfl
    (repeat (first | refine TS.imp ?_ | refine n9 (by decide) ?_))
    refine Tr.cond rfl (fun hw => ?_) (fun hw => ?_)
    · (repeat (first | refine TS.imp ?_ | refine n9 (by decide) ?_))
      refine TR.imp ?_; intro K hK; simp only [go_sem, hP, hn]
      (repeat refine vc ?_)
      refine CallN_cx (Hi := []) (by rw [hP, hT]; exact weighed_c Tk.m n fs w ((h.kok (by unfold rWeighs at hw; simp only [Bool.or_eq_true, beq_iff_eq] at hw; omega)).wok hw) ) rfl rfl rfl trivial (by simp only [go_sem, hP, hn]; try trivial) (by simp only [go_sem, hP, hn]; try rfl) trivial (by rw [hn]; decide) (fun r Ho hr => ?_); obtain  ⟨rfl, rfl⟩ := hr; refine ⟨fun k _ => hpn k rfl, ?_⟩; simp only [cgS, newK, touK, go_sem, hP, hn]; (repeat refine vc ?_)
      refine hK _ ?_; clear K hK
      (repeat (first | (refine TR.imp ?_; intro K hK; simp only [go_sem, hP, hn]; (repeat refine vc ?_); refine hK _ ?_; clear K hK) | refine TS.imp ?_ | refine n9 (by decide) ?_))
      simp only [RetG, go_sem]; (repeat with_reducible refine vc ?_)
      unfold frameV
      rw [if_pos hw]
    refine Tr.seq ?_
    refine Tr.meet (fun s => s = ⟨[(1, .d (frD fs)), (2, .ptr 1000 0), (13, .d (.i .i64 n.k)), (21, .d (.b (n.k == 3 || n.k == 5)))], [(1000, .box 50 n.cs)]⟩) ?_ ?_
    rotate_left
    · (repeat (first | refine TS.imp ?_ | refine n9 (by decide) ?_))
      refine TR.imp ?_; intro K hK; simp only [go_sem, hP, hn]; (repeat refine vc ?_); refine hK _ ?_; clear K hK
      (repeat (first | refine TS.imp ?_ | refine n9 (by decide) ?_))
      refine Tr.cond rfl (fun h1 => ?_) (fun h1 => ?_)
      · rw [h1, Bool.true_or]
        (repeat (first | refine TS.imp ?_ | refine n9 (by decide) ?_))
        exact ⟨_, (Le.mv (by simp only [go_sem, hP, hn]; first | done | (simp; done) | (simp [intC]; done) | (repeat (first | rfl | constructor))) (by simp only [go_sem, hP, hn]; first | done | (simp; done) | (simp [intC]; done) | (repeat (first | rfl | constructor)))), rfl⟩
      (repeat (first | refine TS.imp ?_ | refine n9 (by decide) ?_))
      refine TR.imp ?_; intro K hK; simp only [go_sem, hP, hn]; (repeat refine vc ?_); refine hK _ ?_; clear K hK
      (repeat (first | refine TS.imp ?_ | refine n9 (by decide) ?_))
      rw [h1, Bool.false_or]
      exact ⟨_, (Le.mv (by simp only [go_sem, hP, hn]; first | done | (simp; done) | (simp [intC]; done) | (repeat (first | rfl | constructor))) (by simp only [go_sem, hP, hn]; first | done | (simp; done) | (simp [intC]; done) | (repeat (first | rfl | constructor)))), rfl⟩
    rintro s rfl
    (repeat (first | refine TS.imp ?_ | refine n9 (by decide) ?_))
    refine Tr.cond rfl (fun h3 => ?_) (fun h3 => ?_)
    · have hkk := h.kok (by simp only [Bool.or_eq_true, beq_iff_eq] at h3; omega)
      (repeat (first | refine TS.imp ?_ | refine n9 (by decide) ?_))
      refine TR.imp ?_; intro K hK; simp only [go_sem, hP, hn]
      (repeat refine vc ?_)
      refine CallN_cx (Hi := []) (by rw [hP, hT]; exact eachA_c Tk.m fs w (fun xs => rd xs (mostV xs)) 120 hA (by omega) hkk.len (fun k k0 k1 => F1_c Tk.m (col fs k) (by rw [col_len]; omega) (by rw [col_len]; omega)) ) rfl rfl rfl trivial (by simp only [go_sem, hP, hn]; try trivial) (by simp only [go_sem, hP, hn]; try rfl) trivial (by rw [hn]; decide) (fun r Ho hr => ?_); obtain  ⟨rfl, rfl⟩ := hr; refine ⟨fun k _ => hpn k rfl, ?_⟩; simp only [cgS, newK, touK, go_sem, hP, hn]; (repeat refine vc ?_)
      refine hK _ ?_; clear K hK
      (repeat (first | (refine TR.imp ?_; intro K hK; simp only [go_sem, hP, hn]; (repeat refine vc ?_); refine hK _ ?_; clear K hK) | refine TS.imp ?_ | refine n9 (by decide) ?_))
      simp only [RetG, go_sem]; (repeat with_reducible refine vc ?_)
      unfold frameV
      rw [if_neg (by rw [hw]; decide), if_pos (by simpa using h3)]
    refine Tr.seq ?_
    refine Tr.meet (fun s => s = ⟨[(1, .d (frD fs)), (2, .ptr 1000 0), (13, .d (.i .i64 n.k)), (26, .d (.b (n.k == 4 || n.k == 12)))], [(1000, .box 50 n.cs)]⟩) ?_ ?_
    rotate_left
    · (repeat (first | refine TS.imp ?_ | refine n9 (by decide) ?_))
      refine TR.imp ?_; intro K hK; simp only [go_sem, hP, hn]; (repeat refine vc ?_); refine hK _ ?_; clear K hK
      (repeat (first | refine TS.imp ?_ | refine n9 (by decide) ?_))
      refine Tr.cond rfl (fun h1 => ?_) (fun h1 => ?_)
      · rw [h1, Bool.true_or]
        (repeat (first | refine TS.imp ?_ | refine n9 (by decide) ?_))
        exact ⟨_, (Le.mv (by simp only [go_sem, hP, hn]; first | done | (simp; done) | (simp [intC]; done) | (repeat (first | rfl | constructor))) (by simp only [go_sem, hP, hn]; first | done | (simp; done) | (simp [intC]; done) | (repeat (first | rfl | constructor)))), rfl⟩
      (repeat (first | refine TS.imp ?_ | refine n9 (by decide) ?_))
      refine TR.imp ?_; intro K hK; simp only [go_sem, hP, hn]; (repeat refine vc ?_); refine hK _ ?_; clear K hK
      (repeat (first | refine TS.imp ?_ | refine n9 (by decide) ?_))
      rw [h1, Bool.false_or]
      exact ⟨_, (Le.mv (by simp only [go_sem, hP, hn]; first | done | (simp; done) | (simp [intC]; done) | (repeat (first | rfl | constructor))) (by simp only [go_sem, hP, hn]; first | done | (simp; done) | (simp [intC]; done) | (repeat (first | rfl | constructor)))), rfl⟩
    rintro s rfl
    (repeat (first | refine TS.imp ?_ | refine n9 (by decide) ?_))
    have h3' : ¬ (n.k = 3 ∨ n.k = 5) := by simpa using h3
    clear h3
    have hw' : ¬ rWeighs n.k = true := by rw [hw]; decide
    refine Tr.cond rfl (fun h4 => ?_) (fun h4 => ?_)
    · have hkk := h.kok (by simp only [Bool.or_eq_true, beq_iff_eq] at h4; omega)
      (repeat (first | refine TS.imp ?_ | refine n9 (by decide) ?_))
      refine TR.imp ?_; intro K hK; simp only [go_sem, hP, hn]
      (repeat refine vc ?_)
      refine CallN_cx (Hi := []) (by rw [hP, hT]; exact eachA_c Tk.m fs w meanV 122 hA (by omega) hkk.len (fun k k0 k1 => F2_c Tk.m (col fs k) (by rw [col_len]; omega) (by rw [col_len]; omega) (hkk.col k0 k1)) ) rfl rfl rfl trivial (by simp only [go_sem, hP, hn]; try trivial) (by simp only [go_sem, hP, hn]; try rfl) trivial (by rw [hn]; decide) (fun r Ho hr => ?_); obtain  ⟨rfl, rfl⟩ := hr; refine ⟨fun k _ => hpn k rfl, ?_⟩; simp only [cgS, newK, touK, go_sem, hP, hn]; (repeat refine vc ?_)
      refine hK _ ?_; clear K hK
      (repeat (first | (refine TR.imp ?_; intro K hK; simp only [go_sem, hP, hn]; (repeat refine vc ?_); refine hK _ ?_; clear K hK) | refine TS.imp ?_ | refine n9 (by decide) ?_))
      simp only [RetG, go_sem]; (repeat with_reducible refine vc ?_)
      unfold frameV
      rw [if_neg hw', if_neg h3', if_pos (by simpa using h4)]
    have h4' : ¬ (n.k = 4 ∨ n.k = 12) := by simpa using h4
    clear h4
    (repeat (first | refine TS.imp ?_ | refine n9 (by decide) ?_))
    refine TR.imp ?_; intro K hK; simp only [go_sem, hP, hn]; (repeat refine vc ?_); refine hK _ ?_; clear K hK
    (repeat (first | refine TS.imp ?_ | refine n9 (by decide) ?_))
    refine Tr.cond rfl (fun h7 => ?_) (fun h7 => ?_)
    · have hkk := h.kok (by simp only [Bool.or_eq_true, beq_iff_eq] at h7; omega)
      (repeat (first | refine TS.imp ?_ | refine n9 (by decide) ?_))
      refine TR.imp ?_; intro K hK; simp only [go_sem, hP, hn]
      (repeat refine vc ?_)
      refine CallN_cx (Hi := []) (by rw [hP, hT]; exact eachA_c Tk.m fs w addV 124 hA (by omega) hkk.len (fun k k0 k1 => F3_c Tk.m (col fs k) (by rw [col_len]; omega) (hkk.col k0 k1)) ) rfl rfl rfl trivial (by simp only [go_sem, hP, hn]; try trivial) (by simp only [go_sem, hP, hn]; try rfl) trivial (by rw [hn]; decide) (fun r Ho hr => ?_); obtain  ⟨rfl, rfl⟩ := hr; refine ⟨fun k _ => hpn k rfl, ?_⟩; simp only [cgS, newK, touK, go_sem, hP, hn]; (repeat refine vc ?_)
      refine hK _ ?_; clear K hK
      (repeat (first | (refine TR.imp ?_; intro K hK; simp only [go_sem, hP, hn]; (repeat refine vc ?_); refine hK _ ?_; clear K hK) | refine TS.imp ?_ | refine n9 (by decide) ?_))
      simp only [RetG, go_sem]; (repeat with_reducible refine vc ?_)
      unfold frameV
      rw [if_neg hw', if_neg h3', if_neg h4', if_pos (by simpa using h7)]
    have h7' : ¬ n.k = 7 := by simpa using h7
    clear h7
    (repeat (first | refine TS.imp ?_ | refine n9 (by decide) ?_))
    refine TR.imp ?_; intro K hK; simp only [go_sem, hP, hn]; (repeat refine vc ?_); refine hK _ ?_; clear K hK
    (repeat (first | refine TS.imp ?_ | refine n9 (by decide) ?_))
    refine Tr.cond rfl (fun h9 => ?_) (fun h9 => ?_)
    · have hkk := h.kok (by simp only [Bool.or_eq_true, beq_iff_eq] at h9; omega)
      (repeat (first | refine TS.imp ?_ | refine n9 (by decide) ?_))
      refine TR.imp ?_; intro K hK; simp only [go_sem, hP, hn]
      (repeat refine vc ?_)
      refine CallN_cx (Hi := [(1000, .box 50 n.cs)] ) (by rw [hP, hT]; exact  eachB_c Tk.m fs w (fun xs => clampV (rd xs 0) n.low n.high) n 126 hA (by omega) hkk.len (fun k k0 k1 => F4_c Tk.m n (col fs k) (by rw [col_len]; omega)) ) rfl rfl rfl trivial (by simp only [go_sem, hP, hn]; try trivial) (by simp only [go_sem, hP, hn]; try rfl) (by simp only [inH, go_sem, hP, hn]; try simp) (by rw [hn]; decide) (fun r Ho hr => ?_); obtain  ⟨rfl, rfl⟩ := hr; refine ⟨fun k _ => hpn k rfl, ?_⟩; simp only [cgS, newK, touK, go_sem, hP, hn]; (repeat refine vc ?_)
      refine hK _ ?_; clear K hK
      (repeat (first | (refine TR.imp ?_; intro K hK; simp only [go_sem, hP, hn]; (repeat refine vc ?_); refine hK _ ?_; clear K hK) | refine TS.imp ?_ | refine n9 (by decide) ?_))
      simp only [RetG, go_sem]; (repeat with_reducible refine vc ?_)
      unfold frameV
      rw [if_neg hw', if_neg h3', if_neg h4', if_neg h7', if_pos (by simpa using h9)]
    have h9' : ¬ n.k = 9 := by simpa using h9
    clear h9
    (repeat (first | refine TS.imp ?_ | refine n9 (by decide) ?_))
    refine TR.imp ?_; intro K hK; simp only [go_sem, hP, hn]; (repeat refine vc ?_); refine hK _ ?_; clear K hK
    (repeat (first | refine TS.imp ?_ | refine n9 (by decide) ?_))
    refine Tr.cond rfl (fun hx => ?_) (fun hx => ?_)
    · have hkk := h.kok (by simp only [Bool.or_eq_true, beq_iff_eq] at hx; omega)
      (repeat (first | refine TS.imp ?_ | refine n9 (by decide) ?_))
      refine TR.imp ?_; intro K hK; simp only [go_sem, hP, hn]
      (repeat refine vc ?_)
      refine CallN_cx (Hi := [(1000, .box 50 n.cs)] ) (by rw [hP, hT]; exact  eachB_c Tk.m fs w (fun xs => scaleV (rd xs 0) n.mult n.shift) n 128 hA (by omega) hkk.len (fun k k0 k1 => F5_c Tk.m n (col fs k) (by rw [col_len]; omega) (hkk.col k0 k1 _ (rd_mem (by decide) (by rw [col_len]; omega)))) ) rfl rfl rfl trivial (by simp only [go_sem, hP, hn]; try trivial) (by simp only [go_sem, hP, hn]; try rfl) (by simp only [inH, go_sem, hP, hn]; try simp) (by rw [hn]; decide) (fun r Ho hr => ?_); obtain  ⟨rfl, rfl⟩ := hr; refine ⟨fun k _ => hpn k rfl, ?_⟩; simp only [cgS, newK, touK, go_sem, hP, hn]; (repeat refine vc ?_)
      refine hK _ ?_; clear K hK
      (repeat (first | (refine TR.imp ?_; intro K hK; simp only [go_sem, hP, hn]; (repeat refine vc ?_); refine hK _ ?_; clear K hK) | refine TS.imp ?_ | refine n9 (by decide) ?_))
      simp only [RetG, go_sem]; (repeat with_reducible refine vc ?_)
      unfold frameV
      rw [if_neg hw', if_neg h3', if_neg h4', if_neg h7', if_neg h9', if_pos (by simpa using hx)]
    have hx' : ¬ n.k = 10 := by simpa using hx
    clear hx
    (repeat (first | refine TS.imp ?_ | refine n9 (by decide) ?_))
    refine TR.imp ?_; intro K hK; simp only [go_sem, hP, hn]; (repeat refine vc ?_); refine hK _ ?_; clear K hK
    (repeat (first | refine TS.imp ?_ | refine n9 (by decide) ?_))
    refine Tr.cond rfl (fun hb => ?_) (fun hb => ?_)
    · (repeat (first | refine TS.imp ?_ | refine n9 (by decide) ?_))
      refine TR.imp ?_; intro K hK; simp only [go_sem, hP, hn]
      rw [show (fs.map frE).getD 0 [.nil] = [.row [.i .i64 0] ((fr fs 0).map intC)] from rw_fr fs 0 (by omega) (by omega)]
      simp only [go_sem, hP, hn]
      (repeat refine vc ?_)
      refine c1 (by rw [hP, hT]; exact most_c Tk.m (fr fs 0) (by omega) (by omega)) rfl rfl rfl trivial (by simp only [go_sem, hP, hn]; try trivial) (by simp only [go_sem, hP, hn]; try rfl) (by rw [hn]; decide) (by rfl) ?_; simp only [go_sem, hP, hn]; (repeat refine vc ?_)
      (repeat refine vc ?_)
      refine hK _ ?_; clear K hK
      refine Tr.le (Le.keep [4]) ?_; simp only [List.map_cons, List.map_nil, lk, Nat.reduceEqDiff, reduceIte]
      refine Tr.le (Le.ren 51 2000 (by rw [hpn] <;> rfl) rfl rfl) ?_; simp only [renT, renH, renO, renS, renL, rn, go_sem, hP, hn]
      (repeat (first | (refine TR.imp ?_; intro K hK; simp only [go_sem, hP, hn]; (repeat refine vc ?_); refine hK _ ?_; clear K hK) | refine TS.imp ?_ | refine n9 (by decide) ?_))
      simp only [RetG, go_sem]; (repeat with_reducible refine vc ?_)
      unfold frameV
      rw [if_neg hw', if_neg h3', if_neg h4', if_neg h7', if_neg h9', if_neg hx', if_pos (by simpa using hb)]
      rfl
    have hb' : ¬ n.k = 11 := by simpa using hb
    (repeat (first | refine TS.imp ?_ | refine n9 (by decide) ?_))
    exact ⟨_, (Le.mv (by simp only [go_sem, hP, hn]; first | done | (simp; done) | (simp [intC]; done) | (repeat (first | rfl | constructor))) (by simp only [go_sem, hP, hn]; first | done | (simp; done) | (simp [intC]; done) | (repeat (first | rfl | constructor)))), ⟨by simpa using hw, h3', h4', h7', h9', hx', hb'⟩, rfl⟩
  rintro s ⟨⟨hw, h3', h4', h7', h9', hx', hb'⟩, rfl⟩
  have hFv : frameV n fs w = fs.flatten := by
    unfold frameV
    rw [if_neg (by rw [hw]; decide), if_neg h3', if_neg h4', if_neg h7', if_neg h9', if_neg hx', if_neg hb']
  rw [hFv]
  (repeat (first | refine TS.imp ?_ | refine n9 (by decide) ?_))
  refine TR.imp ?_; intro K hK; simp only [go_sem, hP, hn]; (repeat refine vc ?_); refine hK _ ?_; clear K hK
  refine Tr.le (Le.nilslot 3001 5 3 [.i .i64 0] rfl (by rw [hpn] <;> rfl) rfl rfl) ?_
  (repeat (first | refine TS.imp ?_ | refine n9 (by decide) ?_))
  refine TR.imp ?_; intro K hK; simp only [go_sem, hP, hn]; (repeat refine vc ?_); refine hK _ ?_; clear K hK
  (repeat (first | refine TS.imp ?_ | refine n9 (by decide) ?_))
  refine Tr.le (Le.keep [5, 52, 53, 54]) ?_; simp only [List.map_cons, List.map_nil, lk, Nat.reduceEqDiff, reduceIte]
  refine Tr.loop (fun q s => ∃ (i : Int) (L : List Int), s = ⟨[(5, .own 3001), (52, .d (frD fs)), (53, .d (.i .i64 fs.length)), (54, .d (.i .i64 i))], [(3001, .row 3 [.i .i64 0] (L.map intC))]⟩ ∧ 0 ≤ i ∧ i + q = fs.length ∧ L = (fs.take i.toNat).flatten ∧ L.length ≤ i.toNat * 16) fs.length ⟨_, (Le.mv (by simp only [go_sem, hP, hn]; first | done | (simp; done) | (simp [intC]; done) | (repeat (first | rfl | constructor))) (by simp only [go_sem, hP, hn]; first | done | (simp; done) | (simp [intC]; done) | (repeat (first | rfl | constructor)))), 0, [], rfl, by omega, by omega, rfl, by simp⟩ ?_
  rintro q s ⟨i, L, rfl, i0, iq, hL, hLl⟩
  (repeat (first | refine TS.imp ?_ | refine n9 (by decide) ?_))
  refine TR.imp ?_; intro K hK; simp only [go_sem, hP, hn]; (repeat refine vc ?_); refine hK _ ?_; clear K hK
  (repeat (first | refine TS.imp ?_ | refine n9 (by decide) ?_))
  refine Tr.cond rfl (fun hb => ?_) (fun hb => ?_)
  · have hi : i < fs.length := by simpa using hb
    have hfl := h.le _ (fr_mem i0 hi)
    clear hb
    (repeat (first | refine TS.imp ?_ | refine n9 (by decide) ?_))
    refine TR.imp ?_; intro K hK; simp only [go_sem, hP, hn]
    rw [rw_fr fs i i0 hi]
    simp only [go_sem, hP, hn]
    (repeat refine vc ?_)
    refine hK _ ?_; clear K hK
    (repeat (first | refine TS.imp ?_ | refine n9 (by decide) ?_))
    refine TR.imp ?_; intro K hK; simp only [go_sem, hP, hn]; (repeat refine vc ?_); refine hK _ ?_; clear K hK
    (repeat (first | refine TS.imp ?_ | refine n9 (by decide) ?_))
    refine TR.imp ?_; intro K hK; simp only [go_sem, hP, hn]; (repeat refine vc ?_); refine hK _ ?_; clear K hK
    (repeat (first | refine TS.imp ?_ | refine n9 (by decide) ?_))
    rw [w64 (x := i + 1) (by omega) (by omega)]
    refine ⟨q - 1, _, by omega, ?_, i + 1, L ++ fr fs i, rfl, by omega, by omega, ?_, by rw [List.length_append]; omega⟩
    · refine Le.trans (b := ⟨[(5, .own 60), (52, .d (frD fs)), (53, .d (.i .i64 fs.length)), (54, .d (.i .i64 (i + 1)))], [(60, .row 3 [.i .i64 0] ((L ++ fr fs i).map intC))]⟩) (Le.mv (by simp only [go_sem, hP, hn]; first | done | (simp; done) | (simp [intC]; done) | (repeat (first | rfl | constructor))) (by simp only [go_sem, hP, hn]; first | done | (simp; done) | (simp [intC]; done) | (repeat (first | rfl | constructor)))) ?_
      refine Le.trans (Le.ren 60 3001 (by rw [hpn] <;> rfl) rfl rfl) ?_; simp only [renT, renH, renO, renS, renL, rn, go_sem, hP, hn]
      exact (Le.mv (by simp only [go_sem, hP, hn]; first | done | (simp; done) | (simp [intC]; done) | (repeat (first | rfl | constructor))) (by simp only [go_sem, hP, hn]; first | done | (simp; done) | (simp [intC]; done) | (repeat (first | rfl | constructor))))
    · have hk : i.toNat < fs.length := by omega
      rw [hL, show (i + 1).toNat = i.toNat + 1 by omega, List.take_succ_eq_append_getElem hk, List.flatten_append]
      unfold fr
      rw [List.getD_eq_getElem?_getD, List.getElem?_eq_getElem hk]
      simp
  · have hi : i = fs.length := by have := of_decide_eq_false hb; omega
    subst hi
    rw [Int.toNat_natCast, List.take_of_length_le (Nat.le_refl _)] at hL
    subst hL
    refine Tr.le (Le.keep [5]) ?_; simp only [List.map_cons, List.map_nil, lk, Nat.reduceEqDiff, reduceIte]
    refine Tr.le (Le.ren 3001 2000 (by rw [hpn] <;> rfl) rfl rfl) ?_; simp only [renT, renH, renO, renS, renL, rn, go_sem, hP, hn]
    (repeat (first | (refine TR.imp ?_; intro K hK; simp only [go_sem, hP, hn]; (repeat refine vc ?_); refine hK _ ?_; clear K hK) | refine TS.imp ?_ | refine n9 (by decide) ?_))
    simp only [RetG, go_sem]; (repeat with_reducible refine vc ?_)
end
section
attribute [local go_sem] frD insD rwS_len killC_rwS killC_set frzL_rwS frzL_set renL_rwS renL_set hasL_rwS hasL_set rwS_set List.set_set Bool.and_false Bool.not_false rcs OBR
/-- a run between nodes -/
def OBS (wd lo hi out : Int) (ns : List Nd) (W : List Int) (ds : List D) : Hp := [(1001, .rows 32 (rwS ds))]
attribute [local go_sem] OBS
theorem node_c {T : World → Prop} (Tk : KT T) (wd lo hi out : Int) (ns : List Nd) (W : List Int) (ds : List D) (k : Int) (n : Nd) (u : Int → List (List Int)) (w C : Nat) (outF : Int → List Int) (hns : ns.length ≤ 4000) (hk : 1 ≤ k ∧ k ≤ ns.length ∧ k < ds.length) (hnd : nd ns (k - 1) = n) (hnil : ds[k.toNat]? = some .nil) (hdl : ds.length ≤ 4001) (hil : 1 ≤ n.inn.length ∧ n.inn.length ≤ 4096)
    (hj : ∀ j ∈ n.inn, 0 ≤ j ∧ j < ds.length ∧ j.toNat ≠ k.toNat ∧ ds.getD j.toNat .nil = frD (u j) ∧ (u j).length ≤ 65536) (hw0 : rd n.inn 0 < W.length) (hw1 : rd W (rd n.inn 0) = w) (hw2 : w ≤ 65536) (hgap : rWin n.k = true → mx n.gap 1 = gapV n) (hsz : rWin n.k = true → 0 ≤ n.size ∧ n.size ≤ 4096)
    (hC : n.count ((n.inn.map u).map fun s => (s.length : Int)) = C) (hC1 : C ≤ 65536) (hst : n.has 17 = true → 1 ≤ n.stp) (hix : rWin n.k = false → n.k ≠ 5 → ∀ j ∈ n.inn, C ≤ (u j).length)
    (hF : ∀ i : Int, 0 ≤ i → i < C → Cg Go.Proofs.Tryd.prog T 94 [] [.agg n.cs, .d (frD (inpF n (n.inn.map u) w i))] (fun r H => H = [] ∧ r = .d (.row [.i .i64 0] ((outF i).map intC)))) :
    Cg Go.Proofs.Tryd.prog T 55 (OBS wd lo hi out ns W ds) [.fps (rcs wd lo hi out ns W 1001), .d (.i .i64 k)] (fun r H => H = OBS wd lo hi out ns W (ds.set k.toNat (frD ((List.range C).map fun i => outF (i : Nat)))) ∧ r = .tup []) := by
  have hget : ∀ j ∈ n.inn, (rwS ds).getD j.toNat .any = .d (frD (u j)) := fun j hm => by
    obtain ⟨a, b, c, d, _⟩ := hj j hm
    rw [rwS_getD (by omega), d]
  have hndr := rw_nd ns (k - 1) (by omega) (by omega)
  rw [hnd] at hndr
  have w2 : wrap64 (k - 1) = k - 1 := w64 (by omega) (by omega)
  have q1 : 0 ≤ k - 1 := by omega
  have q2 : k - 1 < ns.length := by omega
  refine Cg_of [1001] Tk.m Go.Proofs.Tryd.func55 rfl rfl Go.Proofs.Tryd.ntmps55 (by simp) rfl (rs := []) rfl fun E hP hn hT hpn => ?_
  (repeat (first | refine TS.imp ?_ | refine n9 (by decide) ?_))
  refine TR.imp ?_; intro K hK; simp only [w2, hndr, go_sem, hP, hn]
  simp only [q1, q2, and_self, true_and, List.length_map]
  (repeat (refine ⟨by first | trivial | omega, ?_⟩))
  refine hK _ ?_; clear K hK
  refine Tr.le (Le.keep [0, 1, 4]) ?_; simp only [List.map_cons, List.map_nil, lk, Nat.reduceEqDiff, reduceIte]
  (repeat (first | refine TS.imp ?_ | refine n9 (by decide) ?_))
  refine TR.imp ?_; intro K hK; simp only [go_sem, hP, hn]; (repeat refine vc ?_); refine hK _ ?_; clear K hK
  (repeat (first | refine TS.imp ?_ | refine n9 (by decide) ?_))
  refine TR.imp ?_; intro K hK; simp only [go_sem, hP, hn]; (repeat refine vc ?_); refine hK _ ?_; clear K hK
  (repeat (first | refine TS.imp ?_ | refine n9 (by decide) ?_))
  refine Tr.loop (fun q s => ∃ (m : Int) (cs : List Int), s = ⟨[(0, .fps (rcs wd lo hi out ns W 1001)), (1, .d (.i .i64 k)), (4, .ptr 4 0), (5, .own 21), (23, .d (.row [.i .i64 0] (n.inn.map intC))), (24, .d (.i .i64 n.inn.length)), (25, .d (.i .i64 m))], [(4, .box 50 n.cs), (1001, .rows 32 (rwS ds)), (21, .row 3 [.i .i64 0] (cs.map intC))]⟩ ∧ 0 ≤ m ∧ m + q = n.inn.length ∧ cs.length = n.inn.length ∧ cs.take m.toNat = (n.inn.take m.toNat).map fun j => ((u j).length : Int)) n.inn.length ⟨_, ?_, 0, List.replicate n.inn.length 0, rfl, by omega, by omega, by simp, rfl⟩ ?_
  · exact (Le.mv (by simp only [go_sem, hP, hn]; first | done | (simp; done) | (simp [intC]; done) | (repeat (first | rfl | constructor))) (by simp only [go_sem, hP, hn]; first | done | (simp; done) | (simp [intC]; done) | (repeat (first | rfl | constructor))))
  rintro q s ⟨m, cs, rfl, m0, mq, hcl, hct⟩
  (repeat (first | refine TS.imp ?_ | refine n9 (by decide) ?_))
  refine TR.imp ?_; intro K hK; simp only [go_sem, hP, hn]; (repeat refine vc ?_); refine hK _ ?_; clear K hK
  (repeat (first | refine TS.imp ?_ | refine n9 (by decide) ?_))
  refine Tr.cond rfl (fun hb => ?_) (fun hb => ?_)
  · have hm1 : m < n.inn.length := of_decide_eq_true hb
    clear hb
    have hjm := rd_mem m0 hm1
    have hjr := hj _ hjm
    have hgj := hget _ hjm
    have w1 : wrap64 (m + 1) = m + 1 := w64 (by omega) (by omega)
    have y1 : 0 ≤ rd n.inn m ∧ rd n.inn m < ds.length := ⟨hjr.1, hjr.2.1⟩
    have y2 : (rd n.inn m).toNat < ds.length := by omega
    have y3 : m < cs.length := by omega
    have y4 : m.toNat < cs.length := by omega
    have htk := take_rd m0 hm1
    (repeat (first | refine TS.imp ?_ | refine n9 (by decide) ?_))
    refine TR.imp ?_; intro K hK; simp only [go_sem, hP, hn]; (repeat refine vc ?_); refine hK _ ?_; clear K hK
    (repeat (first | refine TS.imp ?_ | refine n9 (by decide) ?_))
    generalize rd n.inn m = j at *
    refine TR.imp ?_; intro K hK; simp only [hgj, go_sem, hP, hn]
    (repeat refine vc ?_)
    refine hK _ ?_; clear K hK
    (repeat (first | refine TS.imp ?_ | refine n9 (by decide) ?_))
    refine TR.imp ?_; intro K hK; simp only [w1, go_sem, hP, hn]; (repeat refine vc ?_); refine hK _ ?_; clear K hK
    (repeat (first | refine TS.imp ?_ | refine n9 (by decide) ?_))
    refine ⟨q - 1, _, by omega, ?_, m + 1, cs.set m.toNat ((u j).length : Int), rfl, by omega, by omega, by simp [hcl], ?_⟩
    · exact (Le.mv (by simp only [go_sem, hP, hn]; first | done | (simp; done) | (simp [intC]; done) | (repeat (first | rfl | constructor))) (by simp only [go_sem, hP, hn]; first | done | (simp; done) | (simp [intC]; done) | (repeat (first | rfl | constructor))))
    · rw [htk, show (m + 1).toNat = m.toNat + 1 by omega, take_setG y4, hct, List.map_append]; rfl
  have hm1 : m = n.inn.length := by have := of_decide_eq_false hb; omega
  subst hm1
  rw [Int.toNat_natCast, List.take_of_length_le (by omega), List.take_length] at hct
  have hct : cs = (n.inn.map u).map fun s => (s.length : Int) := by rw [hct, List.map_map]; rfl
  subst hct
  clear hb
  have hcl0 : ((n.inn.map u).map fun s => (s.length : Int)).length ≤ 65536 := by simp; omega
  (repeat (first | refine TS.imp ?_ | refine n9 (by decide) ?_))
  refine TR.imp ?_; intro K hK; simp only [go_sem, hP, hn]; (repeat refine vc ?_); refine c1 (by rw [hP, hT]; exact kCount_k Tk n ((n.inn.map u).map fun s => (s.length : Int)) hcl0 hst) rfl rfl rfl trivial (by simp only [go_sem, hP, hn]; try trivial) (by simp only [go_sem, hP, hn]; try rfl) (by rw [hn]; decide) (by rfl) ?_; simp only [go_sem, hP, hn]; (repeat refine vc ?_); refine hK _ ?_; clear K hK
  rw [hC]
  refine Tr.le (Le.keep [0, 1, 4, 44, 45]) ?_; simp only [List.map_cons, List.map_nil, lk, Nat.reduceEqDiff, reduceIte]
  refine Tr.le (Le.nilrows 1002 1001 k.toNat 22 [.nil] rfl (by unfold rwS; rw [List.getElem?_map, hnil]; rfl) (by rw [hpn] <;> rfl) rfl (by simp [freeH, closedO, hasL_set, hasL_rwS, k1, S.hasL, S.has, go_sem])) ?_
  simp only [go_sem, hP, hn]
  (repeat (first | refine TS.imp ?_ | refine n9 (by decide) ?_))
  refine Tr.loop (fun q s => ∃ i : Int, s = ⟨[(0, .fps (rcs wd lo hi out ns W 1001)), (1, .d (.i .i64 k)), (4, .ptr 4 0), (44, .d (.i .i64 C)), (45, .d (.i .i64 i))], [(4, .box 50 n.cs), (1001, .rows 32 ((rwS ds).set k.toNat (.own 1002))), (1002, .row 22 [.nil] (((List.range i.toNat).map fun t => outF (t : Nat)).map frE))]⟩ ∧ 0 ≤ i ∧ i + q = C) C ⟨_, ?_, 0, rfl, by omega, by omega⟩ ?_
  · exact (Le.mv (by simp only [go_sem, hP, hn]; first | done | (simp; done) | (simp [intC]; done) | (repeat (first | rfl | constructor))) (by simp only [go_sem, hP, hn]; first | done | (simp; done) | (simp [intC]; done) | (repeat (first | rfl | constructor))))
  rintro q s ⟨i, rfl, i0, iq⟩
  (repeat (first | refine TS.imp ?_ | refine n9 (by decide) ?_))
  refine TR.imp ?_; intro K hK; simp only [go_sem, hP, hn]; (repeat refine vc ?_); refine hK _ ?_; clear K hK
  (repeat (first | refine TS.imp ?_ | refine n9 (by decide) ?_))
  refine Tr.cond rfl (fun hb => ?_) (fun hb => ?_)
  · have hi1 : i < C := of_decide_eq_true hb
    clear hb
    have w1 : wrap64 (i + 1) = i + 1 := w64 (by omega) (by omega)
    have cF := hF i i0 hi1
    have cO := over_c Tk wd lo hi out ns W ds k.toNat ((List.range i.toNat).map fun t => outF (t : Nat)) n i u w (by omega) hil hj hw0 hw1 hw2 hgap hsz (fun a b j hjm => by have := hix a b j hjm; omega)
    (repeat (first | refine TS.imp ?_ | refine n9 (by decide) ?_))
    refine TR.imp ?_; intro K hK; simp only [go_sem, hP, hn]; (repeat refine vc ?_); refine hK _ ?_; clear K hK
    (repeat (first | refine TS.imp ?_ | refine n9 (by decide) ?_))
    have hk1 : k.toNat < ds.length := by omega
    have hk2 : 0 ≤ k ∧ k < ds.length := ⟨by omega, hk.2.2⟩
    have hgk : ((rwS ds).set k.toNat (.own 1002)).getD k.toNat .any = .own 1002 := by rw [set_getD (by rw [rwS_len]; exact hk1), if_pos rfl]
    have hFl : ((List.range i.toNat).map fun t => outF (t : Nat)).length ≤ 65536 := by simp; omega
    generalize hFF : ((List.range i.toNat).map fun t => outF (t : Nat)) = F at *
    refine Tr.mono (Q := thenS (fun s' => Le E s' ⟨[(0, .fps (rcs wd lo hi out ns W 1001)), (1, .d (.i .i64 k)), (4, .ptr 4 0), (44, .d (.i .i64 C)), (45, .d (.i .i64 i))], [(4, .box 50 n.cs), (1001, .rows 32 ((rwS ds).set k.toNat (.own 1002))), (1002, .row 22 [.nil] ((F ++ [outF i]).map frE))]⟩) fun _ _ => False) ?_ ?_
    · refine d5 (.p true 0 (.p true 1 (.p true 2 (.p true 3 (.p true 4 (.p true 5 (.p true 6 (.p true 7 (.p true 8 (.p true 9 (.p true 10 (.p true 12 (.p true 13 (.p true 14 (.p true 15 (.alt 11 (.alt 16 (.alt 17 (.alt 18 (.alt 19 (.p true 20 (.alt 21 .nil .nil)) .nil) .nil) .nil) .nil) (.alt 16 (.alt 11 (.alt 17 (.alt 18 (.alt 19 (.p true 20 (.alt 21 .nil .nil)) .nil) .nil) .nil) (.alt 17 (.alt 11 (.alt 18 (.alt 19 (.p true 20 (.alt 21 .nil .nil)) .nil) .nil) (.alt 18 (.alt 11 (.alt 19 (.p true 20 (.alt 21 .nil .nil)) .nil) .nil) .nil)) .nil)) .nil))))))))))))))))) [1001, 1002] (by rw [hP]; kernel_rfl) (by kernel_rfl) (by simp only [go_sem, hP, hn]; try simp) (by exact fun _ _ h => h) ?_; intro K hK; simp only [go_sem, hP, hn]
      repeat' (first
        | refine And.intro ?_ ?_
        | trivial
        | omega
        | (refine CallP_co (Hi := OBR wd lo hi out ns W ds k.toNat F) (by rw [hP, hT]; exact cO) rfl rfl rfl trivial (by simp only [go_sem, hP, hn]; try trivial) (by simp only [go_sem, hP, hn]; try rfl) (by simp [inH, lh, OBR]) (by rfl) (by rw [hn]; decide) ?_; simp only [go_sem, hP, hn])
        | (refine CallP_cs (by rw [hP, hT]; exact cF) rfl rfl rfl trivial (by simp only [go_sem, hP, hn]; try trivial) (by simp only [go_sem, hP, hn]; try rfl) (by rw [hn]; decide) ?_; simp only [go_sem, hP, hn])
        | (rw [hgk]; simp only [go_sem, hP, hn])
        | (simp only [List.length_set, rwS_len]; first | exact hk1 | exact hk2.2 | exact hk2.1))
      all_goals
        refine hK _ ?_
        show Le E _ _
        refine Le.trans (b := ⟨[(0, .fps (rcs wd lo hi out ns W 1001)), (1, .d (.i .i64 k)), (4, .ptr 4 0), (44, .d (.i .i64 C)), (45, .d (.i .i64 i))], [(4, .box 50 n.cs), (1001, .rows 32 ((rwS ds).set k.toNat (.own 67))), (67, .row 22 [.nil] ((F ++ [outF i]).map frE))]⟩) ?_ ?_
        · rw [List.map_append (l₁ := F)]
          exact (Le.mv (by simp only [go_sem, hP, hn]; first | done | (simp; done) | (simp [intC]; done) | (repeat (first | rfl | constructor))) (by simp only [go_sem, hP, hn]; first | done | (simp; done) | (simp [intC]; done) | (repeat (first | rfl | constructor))))
        refine Le.trans (Le.ren 67 1002 (by rw [hpn] <;> rfl) rfl (by simp [freeH, closedO, hasL_set, hasL_rwS, k1, S.hasL, S.has, go_sem])) ?_; simp only [renT, renH, renO, renS, renL, rn, go_sem, hP, hn]
        exact Le.refl _
    · intro e s' hl
      cases e <;> simp only [thenS] at hl
      simp only [inBlk, thenS]
      refine Tr.le hl ?_
      (repeat (first | refine TS.imp ?_ | refine n9 (by decide) ?_))
      refine TR.imp ?_; intro K hK; simp only [w1, go_sem, hP, hn]; (repeat refine vc ?_); refine hK _ ?_; clear K hK
      (repeat (first | refine TS.imp ?_ | refine n9 (by decide) ?_))
      refine ⟨q - 1, _, by omega, ?_, i + 1, rfl, by omega, by omega⟩
      rw [show (i + 1).toNat = i.toNat + 1 by omega, List.range_succ, List.map_append (f := fun (t : Nat) => outF (t : Int)), hFF, List.map_cons, List.map_nil, Int.toNat_of_nonneg i0]
      exact (Le.mv (by simp only [go_sem, hP, hn]; first | done | (simp; done) | (simp [intC]; done) | (repeat (first | rfl | constructor))) (by simp only [go_sem, hP, hn]; first | done | (simp; done) | (simp [intC]; done) | (repeat (first | rfl | constructor))))
  have hi1 : i = C := by have := of_decide_eq_false hb; omega
  subst hi1
  rw [Int.toNat_natCast]
  clear hb
  refine Tr.le (Le.freeze 1002) ?_
  simp only [go_sem, hP, hn]
  (repeat (first | refine TS.imp ?_ | refine n9 (by decide) ?_))
  simp only [RetG, go_sem]; (repeat with_reducible refine vc ?_)
end
section
attribute [local go_sem] frD
theorem drop_fr {l : List (List Int)} {j : Int} (h0 : 0 ≤ j) (h1 : j < l.length) : l.drop j.toNat = fr l j :: l.drop (j + 1).toNat := by
  have hj : j.toNat < l.length := by omega
  rw [List.drop_eq_getElem_cons hj, show (j + 1).toNat = j.toNat + 1 by omega]
  unfold fr
  simp [List.getD, hj]
theorem drop_rdl {l : List Int} {j : Int} (h0 : 0 ≤ j) (h1 : j < l.length) : l.drop j.toNat = rd l j :: l.drop (j + 1).toNat := by
  have hj : j.toNat < l.length := by omega
  rw [List.drop_eq_getElem_cons hj, show (j + 1).toNat = j.toNat + 1 by omega]
  unfold rd
  simp [List.getD, hj]
theorem Same18_c {T : World → Prop} (Tm : TP T) (a b : List (List Int)) (hl : a.length ≤ 65536) (hf : ∀ f ∈ a, f.length ≤ 65536) : Ct Go.Proofs.Tryd.prog T 28 [.d (frD a), .d (frD b)] true (fun r => r = .d (.b (decide (a = b)))) := by
  refine Ct_of Tm Go.Proofs.Tryd.func28 rfl rfl Go.Proofs.Tryd.ntmps28 (by simp) (rs := [.tmp 4]) rfl fun E hP hn hT => ?_
  (repeat (first | refine TS.imp ?_ | refine n9 (by decide) ?_))
  refine TR.imp ?_; intro K hK; simp only [go_sem, hP, hn]; (repeat refine vc ?_); refine hK _ ?_; clear K hK
  (repeat (first | refine TS.imp ?_ | refine n9 (by decide) ?_))
  refine TR.imp ?_; intro K hK; simp only [go_sem, hP, hn]; (repeat refine vc ?_); refine hK _ ?_; clear K hK
  (repeat (first | refine TS.imp ?_ | refine n9 (by decide) ?_))
  refine Tr.cond rfl (fun hb => ?_) (fun hb => ?_)
  · (repeat (first | (refine TR.imp ?_; intro K hK; simp only [go_sem, hP, hn]; (repeat refine vc ?_); refine hK _ ?_; clear K hK) | refine TS.imp ?_ | refine n9 (by decide) ?_))
    simp only [RetQ, go_sem]
    have : ¬ a = b := fun e => by subst e; simp at hb
    simp [this]
  have hlen : a.length = b.length := by simp at hb; omega
  clear hb
  (repeat (first | refine TS.imp ?_ | refine n9 (by decide) ?_))
  refine TR.imp ?_; intro K hK; simp only [go_sem, hP, hn]; (repeat refine vc ?_); refine hK _ ?_; clear K hK
  (repeat (first | refine TS.imp ?_ | refine n9 (by decide) ?_))
  refine Tr.loop (fun q s => ∃ i : Int, s = ⟨[(0, .d (frD a)), (1, .d (frD b)), (5, .d (.i .i64 i))], []⟩ ∧ 0 ≤ i ∧ i + q = a.length ∧ (a = b ↔ a.drop i.toNat = b.drop i.toNat)) a.length ⟨_, (Le.mv (by simp only [go_sem, hP, hn]; first | done | (simp; done) | (simp [intC]; done) | (repeat (first | rfl | constructor))) (by simp only [go_sem, hP, hn]; first | done | (simp; done) | (simp [intC]; done) | (repeat (first | rfl | constructor)))), 0, rfl, by omega, by omega, by simp⟩ ?_
  rintro q s ⟨i, rfl, i0, iq, hd⟩
  (repeat (first | refine TS.imp ?_ | refine n9 (by decide) ?_))
  refine TR.imp ?_; intro K hK; simp only [go_sem, hP, hn]; (repeat refine vc ?_); refine hK _ ?_; clear K hK
  (repeat (first | refine TS.imp ?_ | refine n9 (by decide) ?_))
  refine Tr.cond rfl (fun hb => ?_) (fun hb => ?_)
  · have hi : i < a.length := by simpa using hb
    have hi2 : i < b.length := by omega
    clear hb
    have ra := rw_fr a i i0 hi
    have rb := rw_fr b i i0 hi2
    have hfl := hf _ (fr_mem i0 hi)
    rw [drop_fr i0 hi, drop_fr i0 hi2] at hd
    have w1 : wrap64 (i + 1) = i + 1 := w64 (by omega) (by omega)
    (repeat (first | refine TS.imp ?_ | refine n9 (by decide) ?_))
    refine d5 (.p true 0 (.p true 1 (.p true 2 (.p true 3 (.p true 4 (.p true 5 (.p true 6 (.p true 7 (.p true 8 (.p true 9 (.p true 10 .nil))))))))))) [] (by rw [hP]; kernel_rfl) (by kernel_rfl) (by simp only [go_sem, hP, hn]; try simp) (by exact fun _ _ h => h) ?_; intro K hK; simp only [go_sem, hP, hn]
    rw [ra, rb]
    simp only [go_sem, hP, hn]
    (repeat refine vc ?_)
    refine hK _ ?_; clear K hK
    (repeat (first | refine TS.imp ?_ | refine n9 (by decide) ?_))
    generalize hfa : fr a i = f at *
    generalize hfb : fr b i = g at *
    refine Tr.cond rfl (fun hc => ?_) (fun hc => ?_)
    · (repeat (first | (refine TR.imp ?_; intro K hK; simp only [go_sem, hP, hn]; (repeat refine vc ?_); refine hK _ ?_; clear K hK) | refine TS.imp ?_ | refine n9 (by decide) ?_))
      simp only [RetQ, go_sem]
      have : ¬ a = b := fun e => by
        have := (List.cons.inj (hd.1 e)).1
        subst this; simp at hc
      simp [this]
    have hfg : f.length = g.length := by simp at hc; omega
    clear hc
    (repeat (first | refine TS.imp ?_ | refine n9 (by decide) ?_))
    refine TR.imp ?_; intro K hK; simp only [go_sem, hP, hn]; (repeat refine vc ?_); refine hK _ ?_; clear K hK
    (repeat (first | refine TS.imp ?_ | refine n9 (by decide) ?_))
    refine Tr.loop (fun p s => ∃ k : Int, s = ⟨[(0, .d (frD a)), (1, .d (frD b)), (5, .d (.i .i64 i)), (6, .d (.i .i64 k))], []⟩ ∧ 0 ≤ k ∧ k + p = f.length ∧ (f = g ↔ f.drop k.toNat = g.drop k.toNat)) f.length ⟨_, (Le.mv (by simp only [go_sem, hP, hn]; first | done | (simp; done) | (simp [intC]; done) | (repeat (first | rfl | constructor))) (by simp only [go_sem, hP, hn]; first | done | (simp; done) | (simp [intC]; done) | (repeat (first | rfl | constructor)))), 0, rfl, by omega, by omega, by simp⟩ ?_
    rintro p s ⟨k, rfl, k0, kp, hk⟩
    (repeat (first | refine TS.imp ?_ | refine n9 (by decide) ?_))
    refine TR.imp ?_; intro K hK; simp only [go_sem, hP, hn]
    rw [ra]
    simp only [go_sem, hP, hn]
    (repeat refine vc ?_)
    refine hK _ ?_; clear K hK
    (repeat (first | refine TS.imp ?_ | refine n9 (by decide) ?_))
    refine Tr.cond rfl (fun hc => ?_) (fun hc => ?_)
    · have hk1 : k < f.length := by simpa using hc
      have hk2 : k < g.length := by omega
      clear hc
      rw [drop_rdl k0 hk1, drop_rdl k0 hk2] at hk
      have w2 : wrap64 (k + 1) = k + 1 := w64 (by omega) (by omega)
      (repeat (first | refine TS.imp ?_ | refine n9 (by decide) ?_))
      refine d5 (.p true 0 (.p true 1 (.p true 2 (.p true 3 (.p true 4 (.p true 5 (.p true 6 (.p true 7 (.p true 8 (.p true 9 (.p true 10 (.p true 11 (.p true 12 (.p true 13 (.p true 14 .nil))))))))))))))) [] (by rw [hP]; kernel_rfl) (by kernel_rfl) (by simp only [go_sem, hP, hn]; try simp) (by exact fun _ _ h => h) ?_; intro K hK; simp only [go_sem, hP, hn]
      rw [ra, rb]
      simp only [go_sem, hP, hn]
      (repeat refine vc ?_)
      refine hK _ ?_; clear K hK
      (repeat (first | refine TS.imp ?_ | refine n9 (by decide) ?_))
      refine Tr.cond rfl (fun hx => ?_) (fun hx => ?_)
      · (repeat (first | (refine TR.imp ?_; intro K hK; simp only [go_sem, hP, hn]; (repeat refine vc ?_); refine hK _ ?_; clear K hK) | refine TS.imp ?_ | refine n9 (by decide) ?_))
        simp only [RetQ, go_sem]
        have h1 : ¬ f = g := fun e => by
          have := (List.cons.inj (hk.1 e)).1
          rw [this] at hx; simp at hx
        have : ¬ a = b := fun e => h1 (List.cons.inj (hd.1 e)).1
        simp [this]
      have hx1 : rd f k = rd g k := by simpa using hx
      (repeat (first | refine TS.imp ?_ | refine n9 (by decide) ?_))
      refine TR.imp ?_; intro K hK; simp only [w2, go_sem, hP, hn]; (repeat refine vc ?_); refine hK _ ?_; clear K hK
      (repeat (first | refine TS.imp ?_ | refine n9 (by decide) ?_))
      refine ⟨p - 1, _, by omega, (Le.mv (by simp only [go_sem, hP, hn]; first | done | (simp; done) | (simp [intC]; done) | (repeat (first | rfl | constructor))) (by simp only [go_sem, hP, hn]; first | done | (simp; done) | (simp [intC]; done) | (repeat (first | rfl | constructor)))), k + 1, rfl, by omega, by omega, ?_⟩
      rw [hk, hx1]
      exact ⟨fun e => (List.cons.inj e).2, fun e => by rw [e]⟩
    have hk1 : k = f.length := by have := of_decide_eq_false hc; omega
    have hfge : f = g := by
      rw [hk, List.drop_of_length_le (by omega), List.drop_of_length_le (by omega)]
    clear hc
    (repeat (first | refine TS.imp ?_ | refine n9 (by decide) ?_))
    refine TR.imp ?_; intro K hK; simp only [w1, go_sem, hP, hn]; (repeat refine vc ?_); refine hK _ ?_; clear K hK
    (repeat (first | refine TS.imp ?_ | refine n9 (by decide) ?_))
    refine ⟨q - 1, _, by omega, (Le.mv (by simp only [go_sem, hP, hn]; first | done | (simp; done) | (simp [intC]; done) | (repeat (first | rfl | constructor))) (by simp only [go_sem, hP, hn]; first | done | (simp; done) | (simp [intC]; done) | (repeat (first | rfl | constructor)))), i + 1, rfl, by omega, by omega, ?_⟩
    rw [hd, hfge]
    exact ⟨fun e => (List.cons.inj e).2, fun e => by rw [e]⟩
  have hi : ¬ i < a.length := by simpa using hb
  have hab : a = b := by
    rw [hd, List.drop_of_length_le (by omega), List.drop_of_length_le (by omega)]
  clear hb
  (repeat (first | (refine TR.imp ?_; intro K hK; simp only [go_sem, hP, hn]; (repeat refine vc ?_); refine hK _ ?_; clear K hK) | refine TS.imp ?_ | refine n9 (by decide) ?_))
  simp only [RetQ, go_sem]
  simp [hab]
end
section
attribute [local go_sem] frD
/-! whole.may: frames of the input -/
def inW (lo hi x : Int) : Bool := !(decide (x < lo) || decide (hi < x))
def frE18 (wd lo hi : Int) (f : List Int) : Int := if ((f.length : Int) != wd) = true then 14 else if f.all (inW lo hi) = true then 0 else 16
def mayE (wd lo hi : Int) : List (List Int) → Int
  | [] => 0
  | f :: r => if (frE18 wd lo hi f != 0) = true then frE18 wd lo hi f else mayE wd lo hi r
theorem wmay_c {T : World → Prop} (Tk : KT T) (wd lo hi out : Int) (ns : List Nd) (fs : List (List Int)) (hns : ns.length ≤ 65536) (hin : ∀ n ∈ ns, n.inn.length ≤ 4096 ∧ n.ws.length ≤ 65536 ∧ n.bs.length ≤ 65536) (hfl : fs.length ≤ 65536) (hff : ∀ f ∈ fs, f.length ≤ 65536) :
    Cg Go.Proofs.Tryd.prog T 54 [] [.agg (gcs wd lo hi out (.d (rowN ns))), .d (frD fs)] (fun r H => H = [] ∧ r = .d (.i .i64 (if ((lookG wd lo hi out ns).1 != 0) = true then (lookG wd lo hi out ns).1 else mayE wd lo hi fs))) := by
  have cC := Check_c Tk wd lo hi out ns hns hin
  generalize (lookG wd lo hi out ns).1 = e at *
  refine Cg_of [] Tk.m Go.Proofs.Tryd.func54 rfl rfl Go.Proofs.Tryd.ntmps54 (by simp) rfl (rs := [.tmp 4]) rfl fun E hP hn hT hpn => ?_
  (repeat (first | refine TS.imp ?_ | refine n9 (by decide) ?_))
  refine TR.imp ?_; intro K hK; simp only [go_sem, hP, hn]; (repeat refine vc ?_); refine hK _ ?_; clear K hK
  (repeat (first | refine TS.imp ?_ | refine n9 (by decide) ?_))
  refine TR.imp ?_; intro K hK; simp only [go_sem, hP, hn]
  (repeat refine vc ?_)
  refine CallN_cs (Hi := [] ) (by rw [hP, hT]; exact  cC) rfl rfl rfl trivial (by simp only [go_sem, hP, hn]; try trivial) (by simp only [go_sem, hP, hn]; try rfl) (by simp only [inH, go_sem, hP, hn]; try simp) (by rw [hn]; decide) ?_; simp only [go_sem, hP, hn]; (repeat refine vc ?_)
  refine hK _ ?_; clear K hK
  (repeat (first | refine TS.imp ?_ | refine n9 (by decide) ?_))
  refine TR.imp ?_; intro K hK; simp only [go_sem, hP, hn]; (repeat refine vc ?_); refine hK _ ?_; clear K hK
  (repeat (first | refine TS.imp ?_ | refine n9 (by decide) ?_))
  refine Tr.cond rfl (fun hb => ?_) (fun hb => ?_)
  · rw [if_pos hb]
    (repeat (first | (refine TR.imp ?_; intro K hK; simp only [go_sem, hP, hn]; (repeat refine vc ?_); refine hK _ ?_; clear K hK) | refine TS.imp ?_ | refine n9 (by decide) ?_))
    simp only [RetG, go_sem]; (repeat with_reducible refine vc ?_)
  rw [if_neg (by rw [hb]; decide)]
  clear hb
  (repeat (first | refine TS.imp ?_ | refine n9 (by decide) ?_))
  refine TR.imp ?_; intro K hK; simp only [go_sem, hP, hn]; (repeat refine vc ?_); refine hK _ ?_; clear K hK
  refine Tr.le (Le.keep [2, 15, 16, 17]) ?_; simp only [List.map_cons, List.map_nil, lk, Nat.reduceEqDiff, reduceIte]
  (repeat (first | refine TS.imp ?_ | refine n9 (by decide) ?_))
  generalize hE : mayE wd lo hi fs = R0
  refine Tr.loop (fun q s => ∃ i : Int, s = ⟨[(2, .ptr 2 0), (15, .d (frD fs)), (16, .d (.i .i64 fs.length)), (17, .d (.i .i64 i))], [(2, .box 26 (gcs wd lo hi out (.d (rowN ns))))]⟩ ∧ 0 ≤ i ∧ i + q = fs.length ∧ mayE wd lo hi (fs.drop i.toNat) = R0) fs.length ⟨_, ?_, 0, rfl, by omega, by omega, hE⟩ ?_
  · exact (Le.mv (by simp only [go_sem, hP, hn]; first | done | (simp; done) | (simp [intC]; done) | (repeat (first | rfl | constructor))) (by simp only [go_sem, hP, hn]; first | done | (simp; done) | (simp [intC]; done) | (repeat (first | rfl | constructor))))
  rintro q s ⟨i, rfl, i0, iq, hii⟩
  (repeat (first | refine TS.imp ?_ | refine n9 (by decide) ?_))
  refine TR.imp ?_; intro K hK; simp only [go_sem, hP, hn]; (repeat refine vc ?_); refine hK _ ?_; clear K hK
  (repeat (first | refine TS.imp ?_ | refine n9 (by decide) ?_))
  refine Tr.cond rfl (fun hb => ?_) (fun hb => ?_)
  · have hi1 : i < fs.length := of_decide_eq_true hb
    clear hb
    have hrf := rw_fr fs i i0 hi1
    have hfl2 := hff _ (fr_mem i0 hi1)
    rw [drop_fr i0 hi1, mayE] at hii
    have w1 : wrap64 (i + 1) = i + 1 := w64 (by omega) (by omega)
    (repeat (first | refine TS.imp ?_ | refine n9 (by decide) ?_))
    refine TR.imp ?_; intro K hK; simp only [hrf, go_sem, hP, hn]; (repeat refine vc ?_); refine hK _ ?_; clear K hK
    (repeat (first | refine TS.imp ?_ | refine n9 (by decide) ?_))
    generalize fr fs i = f at *
    refine TR.imp ?_; intro K hK; simp only [go_sem, hP, hn]; (repeat refine vc ?_); refine hK _ ?_; clear K hK
    (repeat (first | refine TS.imp ?_ | refine n9 (by decide) ?_))
    refine Tr.cond rfl (fun hc => ?_) (fun hc => ?_)
    · have hf : frE18 wd lo hi f = 14 := if_pos hc
      rw [hf, if_pos (by decide)] at hii
      subst hii
      (repeat (first | (refine TR.imp ?_; intro K hK; simp only [go_sem, hP, hn]; (repeat refine vc ?_); refine hK _ ?_; clear K hK) | refine TS.imp ?_ | refine n9 (by decide) ?_))
      simp only [RetG, go_sem]; (repeat with_reducible refine vc ?_)
    have hf : frE18 wd lo hi f = if f.all (inW lo hi) = true then 0 else 16 := by unfold frE18; rw [if_neg (by rw [hc]; decide)]
    clear hc
    (repeat (first | refine TS.imp ?_ | refine n9 (by decide) ?_))
    refine TR.imp ?_; intro K hK; simp only [go_sem, hP, hn]; (repeat refine vc ?_); refine hK _ ?_; clear K hK
    refine Tr.le (Le.keep [2, 15, 16, 17, 26, 27, 28]) ?_; simp only [List.map_cons, List.map_nil, lk, Nat.reduceEqDiff, reduceIte]
    (repeat (first | refine TS.imp ?_ | refine n9 (by decide) ?_))
    refine Tr.loop (fun p s => ∃ k : Int, s = ⟨[(2, .ptr 2 0), (15, .d (frD fs)), (16, .d (.i .i64 fs.length)), (17, .d (.i .i64 i)), (26, .d (.row [.i .i64 0] (f.map intC))), (27, .d (.i .i64 f.length)), (28, .d (.i .i64 k))], [(2, .box 26 (gcs wd lo hi out (.d (rowN ns))))]⟩ ∧ 0 ≤ k ∧ k + p = f.length ∧ f.all (inW lo hi) = (f.drop k.toNat).all (inW lo hi)) f.length ⟨_, ?_, 0, rfl, by omega, by omega, rfl⟩ ?_
    · exact (Le.mv (by simp only [go_sem, hP, hn]; first | done | (simp; done) | (simp [intC]; done) | (repeat (first | rfl | constructor))) (by simp only [go_sem, hP, hn]; first | done | (simp; done) | (simp [intC]; done) | (repeat (first | rfl | constructor))))
    rintro p s ⟨k, rfl, k0, kp, hk⟩
    (repeat (first | refine TS.imp ?_ | refine n9 (by decide) ?_))
    refine TR.imp ?_; intro K hK; simp only [go_sem, hP, hn]; (repeat refine vc ?_); refine hK _ ?_; clear K hK
    (repeat (first | refine TS.imp ?_ | refine n9 (by decide) ?_))
    refine Tr.cond rfl (fun hc => ?_) (fun hc => ?_)
    · have hk1 : k < f.length := of_decide_eq_true hc
      clear hc
      rw [drop_rdl k0 hk1, List.all_cons] at hk
      have w2 : wrap64 (k + 1) = k + 1 := w64 (by omega) (by omega)
      (repeat (first | refine TS.imp ?_ | refine n9 (by decide) ?_))
      refine TR.imp ?_; intro K hK; simp only [go_sem, hP, hn]; (repeat refine vc ?_); refine hK _ ?_; clear K hK
      (repeat (first | refine TS.imp ?_ | refine n9 (by decide) ?_))
      generalize rd f k = x at *
      refine TR.imp ?_; intro K hK; simp only [go_sem, hP, hn]; (repeat refine vc ?_); refine hK _ ?_; clear K hK
      (repeat (first | refine TS.imp ?_ | refine n9 (by decide) ?_))
      refine Tr.cond rfl (fun hx => ?_) (fun hx => ?_)
      · have hx1 : inW lo hi x = false := by unfold inW; rw [hx]; rfl
        rw [hx1, Bool.false_and] at hk
        rw [hf, hk] at hii
        simp only [Bool.false_eq_true, if_false] at hii
        rw [if_pos (by decide)] at hii
        subst hii
        (repeat (first | (refine TR.imp ?_; intro K hK; simp only [go_sem, hP, hn]; (repeat refine vc ?_); refine hK _ ?_; clear K hK) | refine TS.imp ?_ | refine n9 (by decide) ?_))
        simp only [RetG, go_sem]; (repeat with_reducible refine vc ?_)
      have hx1 : inW lo hi x = true := by unfold inW; rw [hx]; rfl
      rw [hx1, Bool.true_and] at hk
      (repeat (first | refine TS.imp ?_ | refine n9 (by decide) ?_))
      refine TR.imp ?_; intro K hK; simp only [w2, go_sem, hP, hn]; (repeat refine vc ?_); refine hK _ ?_; clear K hK
      (repeat (first | refine TS.imp ?_ | refine n9 (by decide) ?_))
      exact ⟨p - 1, _, by omega, (Le.mv (by simp only [go_sem, hP, hn]; first | done | (simp; done) | (simp [intC]; done) | (repeat (first | rfl | constructor))) (by simp only [go_sem, hP, hn]; first | done | (simp; done) | (simp [intC]; done) | (repeat (first | rfl | constructor)))), k + 1, rfl, by omega, by omega, hk⟩
    have hk1 : k = f.length := by have := of_decide_eq_false hc; omega
    rw [hk1, Int.toNat_natCast, List.drop_length, List.all_nil] at hk
    rw [hf, hk] at hii
    simp only [if_true, bne_self_eq_false, Bool.false_eq_true, if_false] at hii
    clear hc
    (repeat (first | refine TS.imp ?_ | refine n9 (by decide) ?_))
    refine TR.imp ?_; intro K hK; simp only [w1, go_sem, hP, hn]; (repeat refine vc ?_); refine hK _ ?_; clear K hK
    (repeat (first | refine TS.imp ?_ | refine n9 (by decide) ?_))
    exact ⟨q - 1, _, by omega, (Le.mv (by simp only [go_sem, hP, hn]; first | done | (simp; done) | (simp [intC]; done) | (repeat (first | rfl | constructor))) (by simp only [go_sem, hP, hn]; first | done | (simp; done) | (simp [intC]; done) | (repeat (first | rfl | constructor)))), i + 1, rfl, by omega, by omega, hii⟩
  have hi1 : i = fs.length := by have := of_decide_eq_false hb; omega
  rw [hi1, Int.toNat_natCast, List.drop_length, mayE] at hii
  subst hii
  clear hb
  (repeat (first | (refine TR.imp ?_; intro K hK; simp only [go_sem, hP, hn]; (repeat refine vc ?_); refine hK _ ?_; clear K hK) | refine TS.imp ?_ | refine n9 (by decide) ?_))
  simp only [RetG, go_sem]; (repeat with_reducible refine vc ?_)
end
end Go.Proofs.YtgomeljgbjgbkaaDoor.Aw
