/- Contracts of Go functions that the laws of this seat reach, by hand: each call returns what the Lean function of its name tells. Conditions: those that each theorem names, none else. -/
import Derived.Test.YtohhaonjckfkaaaDoorHandH18
namespace Go.Proofs.YtohhaonjckfkaaaDoor.Hand
open Go.RowKit Go.Proofs.YtohhaonjckfkaaaDoorW.PrintWords Go.Proofs.YtohhaonjckfkaaaDoorW.PrintLast Go.Proofs.YtohhaonjckfkaaaDoorW.PrintMore
attribute [local go_sem] max2_int min2_int max_two min_two max_three min_three max_four min_four
set_option linter.unusedVariables false
set_option linter.unusedSimpArgs false

attribute [local go_sem] guarded_true
/-! plans that part where two operations may come up; the last ones may write what was read -/
inductive Pl where
  | l (is : List Nat)
  | p (i : Nat) (r : Pl)
  | c (i : Nat) (r : Pl)
  | d (i : Nat) (r : Pl) (j : Nat) (s : Pl)
def Pl.n : Pl → Nat
  | .l is => is.length
  | .p _ r => r.n + 1
  | .c _ r => r.n + 1
  | .d _ r _ _ => r.n + 1
def lB (ops : Array Oper) (ds : List Nat) : List Nat → Array Bool → Bool
  | [], l => Region.ready .any ops l == []
  | i :: r, l => Region.ready .any ops l == [i] && ds.contains i && lB ops ds r (l.setIfInBounds i true)
def plB (ops : Array Oper) (ds : List Nat) : Pl → Array Bool → Bool
  | .l is, l => lB ops ds is l
  | .p i r, l => Region.free .any ops l i && (Region.ready .any ops l).contains i && Region.lastB .any ops l ds i && plB ops ds r (l.setIfInBounds i true)
  | .c i r, l => Region.ready .any ops l == [i] && !ds.contains i && plB ops ds r (l.setIfInBounds i true)
  | .d i r j s, l => Region.ready .any ops l == [i, j] && !ds.contains i && !ds.contains j && plB ops ds r (l.setIfInBounds i true) && plB ops ds s (l.setIfInBounds j true) && r.n == s.n
def stepPl (P : Program) (ops : Array Oper) (Q : Exit → Act → World → Prop) (S : World → Prop) (i : Nat) (k : Act → World → Prop) (a : Act) (w : World) : Prop :=
  ∃ oi, ops[i]? = some oi ∧ ∀ K : Act → World → Prop, (∀ a' w', S w' → k a' w' → K a' w') → if Region.wanted oi (yielded ops a.tmps) = true then Oper.wp P oi a w K Q else K (a.put oi.dst undef) w
def wpL (P : Program) (ops : Array Oper) (Q : Exit → Act → World → Prop) : List Nat → Act → World → Prop
  | [], a, w => Q .normal a w
  | i :: r, a, w => stepPl P ops Q (fun _ => True) i (wpL P ops Q r) a w
def wpPl (P : Program) (ops : Array Oper) (Q : Exit → Act → World → Prop) (S : World → Prop) : Pl → Act → World → Prop
  | .l is, a, w => wpL P ops Q is a w
  | .p i r, a, w => ∃ oi v, ops[i]? = some oi ∧ YieldsIf P ops S oi v a ∧ (∀ c a w, Q (.panic c) (a.put oi.dst v) w → Q (.panic c) a w) ∧ wpPl P ops Q S r (a.put oi.dst v) w
  | .c i r, a, w => stepPl P ops Q S i (wpPl P ops Q S r) a w
  | .d i r j s, a, w => stepPl P ops Q S i (wpPl P ops Q S r) a w ∧ stepPl P ops Q S j (wpPl P ops Q S s) a w
section
variable {P : Program} {ops : Array Oper} {Q : Exit → Act → World → Prop} {S : World → Prop} {ds : List Nat}
theorem l_sound : ∀ (is : List Nat) (m : Nat) (l : Array Bool) (a : Act) (w : World), lB ops ds is l = true → wpL P ops Q is a w → wpAnyLast P .any ops Q S ds (m + is.length) l a w
  | [], m, l, a, w, h, H => wpAnyLast_done (by simpa [lB] using h) H _
  | i :: r, m, l, a, w, h, H => by
    simp only [lB, Bool.and_eq_true, beq_iff_eq] at h
    obtain ⟨⟨h1, h2⟩, h3⟩ := h
    obtain ⟨oi, hi, H⟩ := H
    exact wpAnyLast_ready h1 (by simp) (AllReadyL.cons_last hi (by simpa using h2) (fun K' hK => H K' (fun a' w' _ hr => hK.out a' w' (l_sound r m _ _ w' h3 hr))) AllReadyL.nil)
theorem pl_sound (hs : Region.noSelect ops = true) : ∀ (plan : Pl) (m : Nat) (l : Array Bool) (a : Act) (w : World), plB ops ds plan l = true → ListedClosed .any ops l → S w → wpPl P ops Q S plan a w → wpAnyLast P .any ops Q S ds (m + plan.n) l a w
  | .l is, m, l, a, w, h, _, _, H => l_sound is m l a w h H
  | .p i r, m, l, a, w, h, hc, hS, H => by
    simp only [plB, Bool.and_eq_true] at h
    obtain ⟨⟨⟨h1, h2⟩, h4⟩, h3⟩ := h
    obtain ⟨oi, v, hi, hy, hQ, H⟩ := H
    have h2' : i ∈ Region.ready .any ops l := by simpa using h2
    exact wpAnyLast_first hi (Region.noSelect_spec hs) hQ ops.size (m + r.n) l a w (Region.free_spec hi h1) hc (fun d hm hun => by have := List.all_eq_true.1 h4 d hm; rw [hun] at this; simpa using this) h2' hy hS
      (pl_sound hs r m _ _ w h3 (hc.set h2') hS H)
  | .c i r, m, l, a, w, h, hc, hS, H => by
    simp only [plB, Bool.and_eq_true, beq_iff_eq, Bool.not_eq_true'] at h
    obtain ⟨⟨h1, h4⟩, h3⟩ := h
    obtain ⟨oi, hi, H⟩ := H
    have h2' : i ∈ Region.ready .any ops l := by rw [h1]; simp
    exact wpAnyLast_ready h1 (by simp) (AllReadyL.cons hi (by simpa using h4) (fun K' hK => H K' (fun a' w' hS' hr => hK.out a' w' hS' (fun _ => pl_sound hs r m _ _ w' h3 (hc.set h2') hS' hr))) AllReadyL.nil)
  | .d i r j s, m, l, a, w, h, hc, hS, H => by
    simp only [plB, Bool.and_eq_true, beq_iff_eq, Bool.not_eq_true'] at h
    obtain ⟨⟨⟨⟨⟨h1, h6⟩, h7⟩, h3⟩, h4⟩, h5⟩ := h
    obtain ⟨⟨oi, hi, H⟩, ⟨oj, hj, H'⟩⟩ := H
    have h2' : i ∈ Region.ready .any ops l := by rw [h1]; simp
    have h2'' : j ∈ Region.ready .any ops l := by rw [h1]; simp
    have hsj := fun (a' : Act) (w' : World) (hS' : S w') (hr : wpPl P ops Q S s a' w') => pl_sound hs s m _ a' w' h4 (hc.set h2'') hS' hr
    rw [← h5] at hsj
    exact wpAnyLast_ready h1 (by simp) (AllReadyL.cons hi (by simpa using h6) (fun K' hK => H K' (fun a' w' hS' hr => hK.out a' w' hS' (fun _ => pl_sound hs r m _ _ w' h3 (hc.set h2') hS' hr)))
      (AllReadyL.cons hj (by simpa using h7) (fun K' hK => H' K' (fun a' w' hS' hr => hK.out a' w' hS' (fun _ => hsj a' w' hS' hr))) AllReadyL.nil))
theorem pl_ (plan : Pl) (ds : List Nat) {id : Nat} {a : Act} {w : World} (hm : P.follows .mixedOrders = true) (hk : (Region.noSelect ops && plan.n == ops.size && plB ops ds plan (Array.replicate ops.size false)) = true)
    (hS : S w.drew) (h : ∀ w', S w' → wpPl P ops Q S plan a w') : (Code.region id ops true).wp P Q a w := by
  simp only [Bool.and_eq_true, beq_iff_eq] at hk
  obtain ⟨⟨h1, h2⟩, h3⟩ := hk
  have := pl_sound (Q := Q) h1 plan 0 (Array.replicate ops.size false) a w.drew h3 (closed0 _) hS (h _ hS)
  rw [Nat.zero_add, h2] at this
  exact wp_region_last hm this
section
variable {a a1 : Act} {w w1 : World} {r s : Pl} {i j : Nat} {oi : Oper} {v : Value} {k : Act → World → Prop}
theorem pl_p (hi : ops[i]? = some oi) (hg : oi.guard = none) (hy : ∀ w, S w → (execOp a.eval oi).run P w = .ok (.value v) w)
    (ha : a.put oi.dst v = a1) (hQ : ∀ c a w, Q (.panic c) (a.put oi.dst v) w → Q (.panic c) a w) (h : wpPl P ops Q S r a1 w) : wpPl P ops Q S (.p i r) a w := by
  subst ha
  exact ⟨oi, v, hi, .inl ⟨by simp [Region.wanted, hg], hy⟩, hQ, h⟩
theorem pl_c (h : stepPl P ops Q S i (wpPl P ops Q S r) a w) : wpPl P ops Q S (.c i r) a w := h
theorem pl_d (h : stepPl P ops Q S i (wpPl P ops Q S r) a w) (h' : stepPl P ops Q S j (wpPl P ops Q S s) a w) : wpPl P ops Q S (.d i r j s) a w := ⟨h, h'⟩
theorem pl_l {is : List Nat} (h : stepPl P ops Q (fun _ => True) i (wpL P ops Q is) a w) : wpPl P ops Q S (.l (i :: is)) a w := h
theorem l_l {is : List Nat} (h : stepPl P ops Q (fun _ => True) i (wpL P ops Q is) a w) : wpL P ops Q (i :: is) a w := h
theorem l_e (h : Q .normal a w) : wpL P ops Q [] a w := h
theorem pl_norm (ha : a = a1) (h : wpPl P ops Q S r a1 w) : wpPl P ops Q S r a w := ha ▸ h
theorem st_v (hi : ops[i]? = some oi) (hg : oi.guard = none) (hrun : (execOp a.eval oi).run P w = .ok (.value v) w1) (ha : a.put oi.dst v = a1) (h : S w1 ∧ k a1 w1) : stepPl P ops Q S i k a w := by
  subst ha
  refine ⟨oi, hi, fun K hK => ?_⟩
  rw [if_pos (wanted_none hg)]
  unfold Oper.wp
  rw [hrun]
  exact hK _ _ h.1 h.2
theorem st_s (hi : ops[i]? = some oi) (hg : oi.guard = none) (hrun : (execOp a.eval oi).run P w = .ok .skip w1) (ha : a.put oi.dst undef = a1) (h : S w1 ∧ k a1 w1) : stepPl P ops Q S i k a w := by
  subst ha
  refine ⟨oi, hi, fun K hK => ?_⟩
  rw [if_pos (wanted_none hg)]
  unfold Oper.wp
  rw [hrun]
  exact hK _ _ h.1 h.2
end
end
/-- where a walk stops -/
def Stay (p : Prop) : Prop := p
theorem stay_ {p : Prop} (h : Stay p) : p := h
theorem Below.alloc_size (W : World) (o : Obj) : W.heap.size ≤ (W.alloc o).heap.size := by rw [size_alloc]; exact Nat.le_succ _
theorem R0 (W : World) (base : Nat) (hb : base ≤ W.heap.size) : Kd.R (Kd.int .i64) 3 (W.alloc (.cells #[] 3)) base (fun _ => True) (.slice (some ⟨W.heap.size, 0, none⟩) 0 0) [] :=
  Kd.R_of_own (by have h := World.ownsRow_lit (base := base) (e := 3) (size := 1) W #[] 0 hb (by decide) rfl; simpa [encs] using h) (fun _ _ => trivial)
/-- one more row's numbers are added behind a row of one's own -/
theorem st_app {ops : Array Oper} {Q : Exit → Act → World → Prop} {S : World → Prop} {a : Act} {W w0 : World} {i : Nat} {oi : Oper} {k : Act → World → Prop} (base : Nat) (s x : Operand) (xs ys : List Int) {v : Value} {A : Option Addr} {m c : Nat} (hi : ops[i]? = some oi) (hg : oi.guard = none)
    (ho : oi.op = .call { callee := .builtin .append, args := #[s, x], argTypes := #[22, 22] }) (hs : a.eval s = v) (hx : a.eval x = .slice A m c)
    (HO : Kd.R (Kd.int .i64) 3 W base (fun _ => True) v xs) (HR : Kd.C (Kd.int .i64) W A m ys) (HB : Below base w0 W) (hbase : base ≤ W.heap.size) (hl : xs.length + m ≤ 10000)
    (h : ∀ v1 w1, Kd.R (Kd.int .i64) 3 w1 base (fun _ => True) v1 (xs ++ ys) → Below base w0 w1 → W.grownBy w1 v.ownBlock → S w1 ∧ k (a.put oi.dst v1) w1) : stepPl Tryd.prog ops Q S i k a W := by
  refine ⟨oi, hi, fun K hK => ?_⟩
  exact Kd.R_append_rows_step (Kd.int .i64) (Rr := (Kd.int .i64).K W) (w0 := w0) base (wanted_none hg) s x 22 3 (.int .i64 0) 8 ho Tryd.underlying22 info3 rfl (by decide) (by decide) v xs ys A m c (fun _ => True) (fun _ => False) hs hx HO HR (fun _ _ h => h) (fun _ h => h.elim) (fun _ _ => trivial) HB hbase (by omega) (fun v1 w1 hR hb hgr _ => by
    obtain ⟨h1, h2⟩ := h v1 w1 hR hb hgr
    exact hK _ _ h1 h2)
/-- an empty row is made -/
theorem st_lit0 {ops : Array Oper} {Q : Exit → Act → World → Prop} {S : World → Prop} {a : Act} {W w0 : World} {i : Nat} {oi : Oper} {k : Act → World → Prop} (base : Nat) (hi : ops[i]? = some oi) (hg : oi.guard = none)
    (hrun : (execOp a.eval oi).run Tryd.prog W = .ok (.value (.slice (some ⟨W.heap.size, 0, none⟩) 0 0)) (W.alloc (.cells #[] 3))) (HB : Below base w0 W) (hbase : base ≤ W.heap.size)
    (h : ∀ v1 w1, Kd.R (Kd.int .i64) 3 w1 base (fun _ => True) v1 [] → Below base w0 w1 → Below W.heap.size W w1 → (∀ k, v1.ownBlock = some k → W.heap.size ≤ k) → S w1 ∧ k (a.put oi.dst v1) w1) : stepPl Tryd.prog ops Q S i k a W :=
  st_v hi hg hrun rfl (h _ _ (R0 W base hbase) (HB.alloc hbase _) (below_alloc (Below.refl _ _) _) (fun k e => Nat.le_of_eq (by simpa [Value.ownBlock] using e)))
/-- a row of one number is made -/
theorem st_lit1 {ops : Array Oper} {Q : Exit → Act → World → Prop} {S : World → Prop} {a : Act} {W w0 : World} {i : Nat} {oi : Oper} {k : Act → World → Prop} (base : Nat) (y : Int) (hi : ops[i]? = some oi) (hg : oi.guard = none)
    (hrun : (execOp a.eval oi).run Tryd.prog W = .ok (.value (.slice (some ⟨W.heap.size, 0, none⟩) 1 1)) (W.alloc (.cells #[.int .i64 y] 3))) (HB : Below base w0 W) (hbase : base ≤ W.heap.size)
    (h : ∀ b w1, b = W.heap.size → w1.heap[b]? = some (.cells #[.int .i64 y] 3 (0, 0)) → Below base w0 w1 → Below W.heap.size W w1 → S w1 ∧ k (a.put oi.dst (.slice (some ⟨b, 0, none⟩) 1 1)) w1) : stepPl Tryd.prog ops Q S i k a W :=
  st_v hi hg hrun rfl (h _ _ rfl (blk_new W _) (HB.alloc hbase _) (below_alloc (Below.refl _ _) _))
theorem C1b {W : World} {b : Nat} {x : Int} {t : TypeId} (h : W.heap[b]? = some (.cells #[.int .i64 x] t (0, 0))) : Kd.C (Kd.int .i64) W (some ⟨b, 0, none⟩) ([x] : List Int).length [x] :=
  Kd.C_of_reads (d := (0 : Int)) (h1 := fun _ => rfl) ⟨rfl, by rw [List.length_singleton]; omega, fun _ => ⟨_, rfl, fun j hj => by
    obtain rfl : j = 0 := by simpa using hj
    rw [Addr.add_zero']
    exact (blk_cell h 0).trans rfl⟩⟩
theorem Nd.At.same {n n' : Nd} {s : Ns} {W : World} (h : n.At s W) (e1 : n'.inn = n.inn) (e2 : n'.ws = n.ws) (e3 : n'.bs = n.bs) : n'.At s W := ⟨e1 ▸ h.hi, e1 ▸ h.ic, e2 ▸ h.hw, e2 ▸ h.wc, e3 ▸ h.hb, e3 ▸ h.bc⟩
theorem iw64 (x : Int) : IntKind.i64.wrap x = wrap64 x := i64_w x
theorem and_mask (x : Int) (m : Nat) (hm : m ≤ 62) : Go.bits .and .i64 x (2 ^ m - 1) = x % 2 ^ m := by
  have hp : 0 < 2 ^ m := Nat.two_pow_pos m
  have hc : ((2 : Int) ^ m - 1) = ((2 ^ m - 1 : Nat) : Int) := by rw [Int.natCast_sub hp]; simp
  have hlt : (2 : Nat) ^ m ≤ 2 ^ 62 := Nat.pow_le_pow_right (by decide) hm
  have hmod : (2 ^ m - 1) % 2 ^ 64 = 2 ^ m - 1 := Nat.mod_eq_of_lt (by omega)
  have hd : (2 : Int) ^ m ∣ 2 ^ 64 := ⟨2 ^ (64 - m), by rw [← Int.pow_add]; congr 1; omega⟩
  have hx0 : 0 ≤ x % 2 ^ 64 := Int.emod_nonneg _ (by decide)
  rw [hc]
  show IntKind.i64.wrap (((BitVec.ofInt 64 x &&& BitVec.ofInt 64 ((2 ^ m - 1 : Nat) : Int)).toNat : Nat) : Int) = _
  rw [BitVec.toNat_and, BitVec.ofInt_natCast, BitVec.toNat_ofNat, BitVec.toNat_ofInt, hmod, Nat.and_two_pow_sub_one_eq_mod]
  have e : (((x % ((2 ^ 64 : Nat) : Int)).toNat % 2 ^ m : Nat) : Int) = x % 2 ^ m := by
    rw [Int.natCast_emod, Int.toNat_of_nonneg (by simpa using hx0)]
    simp only [Int.natCast_pow, Int.cast_ofNat_Int]
    exact Int.emod_emod_of_dvd _ hd
  have l0 : 0 ≤ x % 2 ^ m := Int.emod_nonneg _ (by exact_mod_cast Nat.ne_of_gt hp)
  have l1 : x % 2 ^ m < 2 ^ m := Int.emod_lt_of_pos _ (by exact_mod_cast hp)
  have l2 : (2 : Int) ^ m ≤ 2 ^ 62 := by exact_mod_cast hlt
  rw [e, iw64, w64] <;> omega
end Go.Proofs.YtohhaonjckfkaaaDoor.Hand
