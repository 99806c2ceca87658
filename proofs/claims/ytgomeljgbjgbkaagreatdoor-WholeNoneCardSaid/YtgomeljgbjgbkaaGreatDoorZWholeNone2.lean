/- The abstract walk, and contracts of Go functions: each call returns what the Lean function named tells. Conditions: those that each theorem names, none else. -/
import Derived.Test.YtgomeljgbjgbkaaGreatDoorZWholeNone1
import Derived.OrdersHeld
import Derived.Maps.OwnSet
import Derived.Carry
import Derived.Scope
import Derived.Test.YtgomeljgbjgbkaaGreatDoorProg
import Derived.RangeFuncNested
import Derived.Sort.LoopGhostIn
import Derived.OrdersIn
import Derived.TacticsIn
set_option linter.unusedVariables false
set_option linter.unusedSimpArgs false
set_option linter.unusedSectionVars false
namespace Go.Proofs.YtgomeljgbjgbkaaGreatDoor.Aw
open Go.RowKit
/-! ## a region whose order is drawn -/
/-- a plan: 'p true i': number i, free of the others, read in the world as the region found it; 'p false i': likewise, without a load; 'alt': those that may come up now -/
inductive Pn where
  | nil
  | p (m : Bool) (i : Nat) (r : Pn)
  | alt (i : Nat) (r more : Pn)
def idxs : Pn → List Nat
  | .alt i _ m => i :: idxs m
  | _ => []
def Pn.n : Pn → Nat
  | .nil => 0
  | .p _ _ r => r.n + 1
  | .alt _ r m => max (r.n + 1) m.n
def pnB (ops : Array Oper) : Bool → Pn → Array Bool → Bool
  | true, .nil, l => Region.ready .any ops l == []
  | false, .nil, _ => true
  | true, .p _ i r, l => Region.free .any ops l i && (Region.ready .any ops l).contains i && pnB ops true r (l.setIfInBounds i true)
  | false, .p _ _ _, _ => false
  | t, .alt i r m, l => (!t || Region.ready .any ops l == idxs (.alt i r m)) && pnB ops true r (l.setIfInBounds i true) && pnB ops false m l
/-- the handles that a load may read -/
def ldOk (s : St) (wr : List Nat) : Op → Bool
  | .load _ p => match stp (ev s p) with
    | .ptr h _ => !wr.contains h
    | .eptr h _ _ _ => !wr.contains h
    | .fptr _ => true
    | .fps _ => true
    | _ => false
  | _ => true
def isLd : Op → Bool
  | .load _ _ => true
  | _ => false
def inL (l : List Nat) : Nat → Bool := fun j => l.contains j
def subL : List Nat → List Nat → Bool
  | [], _ => true
  | x :: r, l => l.contains x && subL r l
/-- likewise, of several new handles -/
structure LinkN (F : Nat → Prop) (η : Nat → Value) (w : World) (F' : Nat → Prop) (η' : Nat → Value) (w' : World) (nh ch : List Nat) : Prop where
  sub : Sub F w F' w'
  eta : ∀ j, j ∉ nh → η' j = η j
  new : ∀ j b, j ∈ nh → blk (η' j) = some b → w.heap.size ≤ b ∨ ∃ k, k ∈ ch ∧ blk (η k) = some b
  sz : w.heap.size ≤ w'.heap.size
  same : ∀ (b : Nat) (o : Obj), w.heap[b]? = some o → (∀ k, k ∈ ch → blk (η k) ≠ some b) → w'.heap[b]? = some o
theorem Link.n {F F' : Nat → Prop} {η η' : Nat → Value} {w w' : World} {d : Option Nat} {ch : List Nat} (h : Link F η w F' η' w' d ch) : LinkN F η w F' η' w' d.toList ch :=
  ⟨h.sub, fun j hj => h.eta j fun e => hj (by rw [e]; simp), fun j b hj => h.new j b (by simpa using hj), h.sz, h.same⟩
/-- a call within a plan: taken by a contract -/
def CallP (E : Env) (ops : List Oper) (wr : List Nat) (o : Oper) (G : Option Bool) (s sr : St) (nw : List Nat) (AP' : St → St → List Nat → Prop) : Prop :=
  ∀ (Q : Exit → Act → World → Prop) (Kc : Act → World → Prop) a w η, Rel E s a w η → (∀ g, G = some g → Region.wanted o (yielded ops.toArray a.tmps) = g) → (G = none → o.guard = none) →
    (∀ (d : Nat) (s' : St) (v : Value) (w' : World) (η' : Nat → Value) (ch nh : List Nat), o.dst = some d → subL ch (wr ++ nw) = true → Rel E s' (a.put o.dst v) w' η' → LinkN (Fr E s.h η) η w (Fr E s'.h η') η' w' nh ch → AP' s' ⟨(d, .any) :: sr.t, sr.h⟩ (nh ++ nw) → Kc (a.put o.dst v) w') →
      (if Region.wanted o (yielded ops.toArray a.tmps) then o.wp E.P a w Kc Q else Kc (a.put o.dst undef) w)
def AP (E : Env) (ops : List Oper) (wr : List Nat) (K : St → Prop) : Bool → Pn → St → St → List Nat → Prop
  | true, .nil, s, _, _ => K s
  | false, .nil, _, _, _ => True
  | _, .p m i r, s, sr, nw => match nth ops i with
    | none => False
    | some o => match o.dst with
      | none => False
      | some d => match m with
        | true => match pe E.P sr o.op with
          | none => False
          | some q => match o.guard with
            | none => q.2 ∧ ldOk sr wr o.op = true ∧ q.1.has (inL nw) = false ∧ d < E.n ∧ AP E ops wr K true r ⟨(d, q.1) :: s.t, s.h⟩ ⟨(d, q.1) :: sr.t, sr.h⟩ nw
            | some jw => match gdS ops s jw.1 jw.2 with
              | none => False
              | some G => (G = true → q.2 ∧ ldOk sr wr o.op = true ∧ q.1.has (inL nw) = false) ∧ d < E.n ∧ AP E ops wr K true r ⟨(d, .gd G q.1) :: s.t, s.h⟩ ⟨(d, .gd G q.1) :: sr.t, sr.h⟩ nw
        | false => match pe E.P s o.op with
          | none => False
          | some q => match o.guard with
            | none => q.2 ∧ isLd o.op = false ∧ d < E.n ∧ AP E ops wr K true r ⟨(d, q.1) :: s.t, s.h⟩ ⟨(d, .any) :: sr.t, sr.h⟩ nw
            | some jw => match gdS ops s jw.1 jw.2 with
              | none => False
              | some G => (G = true → q.2 ∧ isLd o.op = false) ∧ d < E.n ∧ AP E ops wr K true r ⟨(d, .gd G q.1) :: s.t, s.h⟩ ⟨(d, .any) :: sr.t, sr.h⟩ nw
  | _, .alt i r m, s, sr, nw => (match nth ops i with
    | none => False
    | some o => match o.guard with
      | none => match so E.P s o with
        | some q => match o.dst with
          | some d => q.2.2 ∧ subL (chg s o.op) (wr ++ nw) = true ∧ d < E.n ∧ AP E ops wr K true r ⟨(d, q.1) :: q.2.1.t, q.2.1.h⟩ ⟨(d, .any) :: sr.t, sr.h⟩ ((crt E.P s o).toList ++ nw)
          | none => q.2.2 ∧ subL (chg s o.op) (wr ++ nw) = true ∧ AP E ops wr K true r q.2.1 sr nw
        | none => CallP E ops wr o none s sr nw (AP E ops wr K true r)
      | some jw => match gdS ops s jw.1 jw.2 with
        | some G => CallP E ops wr o (some G) s sr nw (AP E ops wr K true r)
        | none => False) ∧ AP E ops wr K false m s sr nw
/-- what is known on the way: the state, the region's beginning, and how both hang together -/
structure Way (E : Env) (wr : List Nat) (s sr : St) (nw : List Nat) (a : Act) (w : World) (η : Nat → Value) (w1 : World) (η1 : Nat → Value) : Prop where
  now : Rel E s a w η
  old : Rel E sr a w1 η1
  eta : ∀ j, inL nw j = false → η j = η1 j
  sub : Sub (Fr E sr.h η1) w1 (Fr E s.h η) w
  sz : w1.heap.size ≤ w.heap.size
  fresh : ∀ k b, inL nw k = true → blk (η k) = some b → w1.heap.size ≤ b ∨ ∃ k', k' ∈ wr ∧ blk (η1 k') = some b
  wal : ∀ k, k ∈ wr → ∃ o, lh sr.h k = some o
  same : ∀ (b : Nat) (o : Obj), w1.heap[b]? = some o → (∀ k, k ∈ wr → blk (η1 k) ≠ some b) → w.heap[b]? = some o
theorem subL_mem : ∀ {l m : List Nat}, subL l m = true → ∀ k, k ∈ l → k ∈ m
  | [], m, _, k, hk => by cases hk
  | x :: r, m, h, k, hk => by
    simp only [subL, Bool.and_eq_true] at h
    rcases List.mem_cons.1 hk with rfl | hk
    · simpa using h.1
    · exact subL_mem h.2 k hk
section way
variable {E : Env} {wr : List Nat} {s sr : St} {nw : List Nat} {a : Act} {w : World} {η : Nat → Value} {w1 : World} {η1 : Nat → Value} (h : Way E wr s sr nw a w η w1 η1)
include h
theorem Way.chb {ch : List Nat} (hch : subL ch (wr ++ nw) = true) {k b : Nat} (hk : k ∈ ch) (e : blk (η k) = some b) : w1.heap.size ≤ b ∨ ∃ k', k' ∈ wr ∧ blk (η1 k') = some b := by
  cases hn : inL nw k with
  | true => exact h.fresh k b hn e
  | false =>
    rcases List.mem_append.1 (subL_mem hch k hk) with h1 | h1
    · exact .inr ⟨k, h1, by rw [← h.eta k hn]; exact e⟩
    · simp [inL, h1] at hn
theorem Way.stepN {s' sr' : St} {a' : Act} {w' : World} {η' : Nat → Value} {nh : List Nat} {ch : List Nat} (hl : LinkN (Fr E s.h η) η w (Fr E s'.h η') η' w' nh ch) (hch : subL ch (wr ++ nw) = true) (hh : sr'.h = sr.h)
    (hn : Rel E s' a' w' η') (ho : Rel E sr' a' w1 η1) : Way E wr s' sr' (nh ++ nw) a' w' η' w1 η1 := by
  have hin : ∀ j, inL (nh ++ nw) j = false → inL nw j = false ∧ j ∉ nh := fun j hj => by
    simp only [inL, List.contains_eq_mem, List.mem_append, decide_eq_false_iff_not, not_or] at hj ⊢
    exact ⟨hj.2, hj.1⟩
  refine ⟨hn, ho, fun j hj => (hl.eta j (hin j hj).2).trans (h.eta j (hin j hj).1), by rw [hh]; exact h.sub.trans hl.sub, Nat.le_trans h.sz hl.sz, fun k b hk e => ?_, by rw [hh]; exact h.wal, fun b o hb hk => hl.same b o (h.same b o hb hk) fun k hc e => ?_⟩
  · by_cases hd : k ∈ nh
    · rcases hl.new k b hd e with h1 | ⟨k', h1, h2⟩
      · exact .inl (Nat.le_trans h.sz h1)
      · exact h.chb hch h1 h2
    · rw [hl.eta k hd] at e
      refine h.fresh k b ?_ e
      simp only [inL, List.contains_eq_mem, List.mem_append, decide_eq_true_eq] at hk ⊢
      rcases hk with hk | hk
      · exact absurd hk hd
      · exact hk
  · rcases h.chb hch hc e with h3 | ⟨k', h3, h4⟩
    · rw [Array.getElem?_eq_none h3] at hb; cases hb
    · exact hk k' h3 h4
theorem Way.step {s' sr' : St} {a' : Act} {w' : World} {η' : Nat → Value} {d : Option Nat} {ch : List Nat} (hl : Link (Fr E s.h η) η w (Fr E s'.h η') η' w' d ch) (hch : subL ch (wr ++ nw) = true) (hh : sr'.h = sr.h)
    (hn : Rel E s' a' w' η') (ho : Rel E sr' a' w1 η1) : Way E wr s' sr' (d.toList ++ nw) a' w' η' w1 η1 := h.stepN hl.n hch hh hn ho
/-- what was said at the region's beginning holds still -/
theorem Way.later {x : S} {v : Value} (hx : x.has (inL nw) = false) (r : RS η1 (Fr E sr.h η1) w1 x v) : RS η (Fr E s.h η) w x v :=
  RS.turn h.eta x v hx (RS.mono h.sub x v r)
/-- a load reads the same -/
theorem Way.loads {op : Op} (hl : ldOk sr wr op = true) (w' : World) (hw : ∀ (b : Nat) (o : Obj), w1.heap[b]? = some o → (∀ k, k ∈ wr → blk (η1 k) ≠ some b) → w'.heap[b]? = some o) : Same E sr η1 op w1 w' := by
  intro b o hb ho
  refine hw b o ho fun k hk e => ?_
  cases op <;> simp only [loadB] at hb
  rename_i t p
  simp only [ldOk] at hl
  generalize stp (ev sr p) = x at hb hl
  have own : ∀ k', (lh sr.h k').isSome = true → blk (η1 k') = some b → wr.contains k' = false → False := fun k' h1 h2 h3 => by
    have hne : k ≠ k' := fun e' => by subst e'; simp [hk] at h3
    obtain ⟨o', ho'⟩ := Option.isSome_iff_exists.1 h1
    obtain ⟨o2, hkk⟩ := h.wal k hk
    exact h.old.sep k k' o2 o' hne hkk ho' b e h2
  cases x <;> simp only [rdB] at hb <;> simp only at hl
  case ptr k' o' => exact own k' hb.1 hb.2 (by simpa using hl)
  case eptr k' z i o' => exact own k' hb.1 hb.2 (by simpa using hl)
  case fptr cs =>
    obtain ⟨o2, hkk⟩ := h.wal k hk
    exact hb.2 k o2 hkk e
  case fps cs =>
    obtain ⟨o2, hkk⟩ := h.wal k hk
    exact hb.2 k o2 hkk e
end way
theorem getD_putd (a : Act) {d : Option Nat} {v : Value} : (a.put d v).tmps.size = a.tmps.size := by cases d <;> simp [Act.put]
/-- the region's worlds -/
def SW (wr : List Nat) (w1 : World) (η1 : Nat → Value) (w' : World) : Prop := ∀ (b : Nat) (o : Obj), w1.heap[b]? = some o → (∀ k, k ∈ wr → blk (η1 k) ≠ some b) → w'.heap[b]? = some o
/-- an operation that is taken first -/
theorem pe_yields {E : Env} {ops : List Oper} {wr : List Nat} {s sr : St} {nw : List Nat} {a : Act} {w : World} {η : Nat → Value} {w1 : World} {η1 : Nat → Value} (h : Way E wr s sr nw a w η w1 η1) {o : Oper} {q : S × Prop} {G : Bool} (hG : Region.wanted o (yielded ops.toArray a.tmps) = G)
    (hr : pe E.P sr o.op = some q) (hc : G = true → q.2 ∧ ldOk sr wr o.op = true ∧ q.1.has (inL nw) = false) : ∃ v, YieldsIf E.P ops.toArray (SW wr w1 η1) o v a ∧ RS η1 (Fr E sr.h η1) w1 (.gd G q.1) v ∧ RS η (Fr E s.h η) w (.gd G q.1) v := by
  cases G with
  | false => exact ⟨undef, .inr ⟨hG, rfl⟩, RS_gd.2 ⟨fun e => (by cases e), fun _ => rfl⟩, RS_gd.2 ⟨fun e => (by cases e), fun _ => rfl⟩⟩
  | true =>
    obtain ⟨h1, h2, h3⟩ := hc rfl
    obtain ⟨v, h4, h5⟩ := pe_ok h.old hr h1
    exact ⟨v, .inl ⟨hG, fun w' hw => h5 w' (h.loads h2 w' hw)⟩, RS_gd.2 ⟨fun _ => h4, fun e => by cases e⟩, RS_gd.2 ⟨fun _ => h.later h3 h4, fun e => by cases e⟩⟩
theorem pe_yields' {E : Env} {ops : List Oper} {wr : List Nat} {s sr : St} {nw : List Nat} {a : Act} {w : World} {η : Nat → Value} {w1 : World} {η1 : Nat → Value} (h : Way E wr s sr nw a w η w1 η1) {o : Oper} {q : S × Prop} {G : Bool} (hG : Region.wanted o (yielded ops.toArray a.tmps) = G)
    (hr : pe E.P s o.op = some q) (hc : G = true → q.2 ∧ isLd o.op = false) : ∃ v, YieldsIf E.P ops.toArray (SW wr w1 η1) o v a ∧ RS η (Fr E s.h η) w (.gd G q.1) v := by
  cases G with
  | false => exact ⟨undef, .inr ⟨hG, rfl⟩, RS_gd.2 ⟨fun e => (by cases e), fun _ => rfl⟩⟩
  | true =>
    obtain ⟨h1, h2⟩ := hc rfl
    obtain ⟨v, h4, h5⟩ := pe_ok h.now hr h1
    refine ⟨v, .inl ⟨hG, fun w' hw => h5 w' fun b o' hb _ => ?_⟩, RS_gd.2 ⟨fun _ => h4, fun e => by cases e⟩⟩
    cases ho : o.op <;> rw [ho] at hb h2 <;> simp only [loadB] at hb
    simp [isLd] at h2
theorem Rel.same_t {E : Env} {s s' : St} {a : Act} {w : World} {η : Nat → Value} (h : Rel E s a w η) (hh : s'.h = s.h) (ht : ∀ i, lk s'.t i = lk s.t i ∨ lk s'.t i = .any) : Rel E s' a w η :=
  ⟨h.sz, by rw [hh]; exact h.df, fun i => by
    rw [hh]
    rcases ht i with e | e
    · rw [e]; exact h.tm i
    · rw [e]; simp only [RS], by rw [hh]; exact h.ob, by rw [hh]; exact h.ge, by rw [hh]; exact h.sep, h.bel, h.pn⟩
theorem AP_ok {E : Env} {ops : List Oper} {wr : List Nat} {K : St → Prop} {Q : Exit → Act → World → Prop} (hsel : Region.noSelect ops.toArray = true) (hQp : ∀ c a w, ¬ Q (.panic c) a w) (hK : ∀ s' a' w' η', Rel E s' a' w' η' → K s' → Q .normal a' w') {w1 : World} {η1 : Nat → Value} :
    ∀ (plan : Pn) (top : Bool) (l : Array Bool) (m : Nat) (s sr : St) (nw : List Nat) (a : Act) (w : World) (η : Nat → Value), plan.n ≤ m → pnB ops.toArray top plan l = true → AP E ops wr K top plan s sr nw → Way E wr s sr nw a w η w1 η1 →
      (top = true → wpAnyH E.P .any ops.toArray Q (SW wr w1 η1) m l a w) ∧ (top = false → ∀ i, i ∈ idxs plan → 0 < m ∧ wpOp E.P ops.toArray Q i (fun a' w' => SW wr w1 η1 w' ∧ wpAnyH E.P .any ops.toArray Q (SW wr w1 η1) (m - 1) (l.setIfInBounds i true) a' w') a w)
  | .nil, top, l, m, s, sr, nw, a, w, η, hm, hb, h, hW => by
    refine ⟨fun e => ?_, fun e i hi => by cases hi⟩
    subst e
    simp only [pnB, beq_iff_eq] at hb
    simp only [AP] at h
    exact wpAnyH_done hb (hK s a w η hW.now h) m
  | .p md i r, top, l, m, s, sr, nw, a, w, η, hm, hb, h, hW => by
    refine ⟨fun e => ?_, fun e i hi => by cases hi⟩
    subst e
    simp only [pnB, Bool.and_eq_true] at hb
    obtain ⟨⟨h1, h2⟩, h3⟩ := hb
    simp only [Pn.n] at hm
    obtain ⟨m, rfl⟩ : ∃ k, m = k + 1 := ⟨m - 1, by omega⟩
    have hnth := nth_get ops i
    cases ho : nth ops i with
    | none => cases md <;> simp only [AP, ho] at h
    | some o =>
      cases hd : o.dst with
      | none => cases md <;> simp only [AP, ho, hd] at h
      | some d =>
        have hget : ops.toArray[i]? = some o := by rw [List.getElem?_toArray, ← hnth, ho]
        have fin : ∀ (v : Value) (s' sr' : St), YieldsIf E.P ops.toArray (SW wr w1 η1) o v a → AP E ops wr K true r s' sr' nw → Way E wr s' sr' nw (a.put o.dst v) w η w1 η1 → wpAnyH E.P .any ops.toArray Q (SW wr w1 η1) (m + 1) l a w := fun v s' sr' hy hA hW' =>
          wpAnyH_take hget hsel h1 h2 (fun c a' w' hq => absurd hq (hQp c _ _)) hy hW.same ((AP_ok hsel hQp hK r true _ m s' sr' nw _ w η (by omega) h3 hA hW').1 rfl)
        have hway : ∀ (v : Value) (x y : S), d < E.n → RS η (Fr E s.h η) w x v → RS η1 (Fr E sr.h η1) w1 y v → Way E wr ⟨(d, x) :: s.t, s.h⟩ ⟨(d, y) :: sr.t, sr.h⟩ nw (a.put o.dst v) w η w1 η1 := fun v x y hdn rx ry => by
          rw [hd]
          exact ⟨hW.now.put hdn rx, hW.old.put hdn ry, hW.eta, hW.sub, hW.sz, hW.fresh, hW.wal, hW.same⟩
        have strip : ∀ {η : Nat → Value} {F : Nat → Prop} {w : World} {x : S} {v : Value}, RS η F w (.gd true x) v → RS η F w x v := fun r => (RS_gd.1 r).1 rfl
        cases md with
        | true =>
          cases hp : pe E.P sr o.op with
          | none => simp only [AP, ho, hd, hp] at h
          | some q =>
            cases hg : o.guard with
            | none =>
              simp only [AP, ho, hd, hp, hg] at h
              obtain ⟨c1, c2, c3, c4, hA⟩ := h
              obtain ⟨v, hy, r1, r2⟩ := pe_yields (ops := ops) hW (G := true) (by simp [Region.wanted, hg]) hp (fun _ => ⟨c1, c2, c3⟩)
              exact fin v _ _ hy hA (hway v _ _ c4 (strip r2) (strip r1))
            | some jw =>
              obtain ⟨j, want⟩ := jw
              simp only [AP, ho, hd, hp, hg] at h
              cases hG : gdS ops s j want with
              | none => simp only [hG] at h
              | some G =>
                simp only [hG] at h
                obtain ⟨c1, c4, hA⟩ := h
                obtain ⟨v, hy, r1, r2⟩ := pe_yields (ops := ops) hW (G := G) (gdS_ok hW.now hG hg) hp c1
                exact fin v _ _ hy hA (hway v _ _ c4 r2 r1)
        | false =>
          cases hp : pe E.P s o.op with
          | none => simp only [AP, ho, hd, hp] at h
          | some q =>
            cases hg : o.guard with
            | none =>
              simp only [AP, ho, hd, hp, hg] at h
              obtain ⟨c1, c2, c4, hA⟩ := h
              obtain ⟨v, hy, r2⟩ := pe_yields' (ops := ops) hW (G := true) (by simp [Region.wanted, hg]) hp (fun _ => ⟨c1, c2⟩)
              exact fin v _ _ hy hA (hway v _ _ c4 (strip r2) (by simp only [RS]))
            | some jw =>
              obtain ⟨j, want⟩ := jw
              simp only [AP, ho, hd, hp, hg] at h
              cases hG : gdS ops s j want with
              | none => simp only [hG] at h
              | some G =>
                simp only [hG] at h
                obtain ⟨c1, c4, hA⟩ := h
                obtain ⟨v, hy, r2⟩ := pe_yields' (ops := ops) hW (G := G) (gdS_ok hW.now hG hg) hp c1
                exact fin v _ _ hy hA (hway v _ _ c4 r2 (by simp only [RS]))
  | .alt i r more, top, l, m, s, sr, nw, a, w, η, hm, hb, h, hW => by
    have hb' : (top = false ∨ Region.ready .any ops.toArray l = idxs (.alt i r more)) ∧ pnB ops.toArray true r (l.setIfInBounds i true) = true ∧ pnB ops.toArray false more l = true := by
      cases top <;> simp only [pnB, Bool.and_eq_true, Bool.or_eq_true, Bool.not_true, Bool.not_false, beq_iff_eq, Bool.false_eq_true, false_or, true_or, true_and] at hb ⊢
      · exact hb
      · exact ⟨.inr hb.1.1, hb.1.2, hb.2⟩
    obtain ⟨hb1, hb2, hb3⟩ := hb'
    simp only [Pn.n] at hm
    have hm1 : 0 < m := by omega
    have hmore := (AP_ok hsel hQp hK more false l m s sr nw a w η (by omega) hb3 (by cases top <;> simp only [AP] at h <;> exact h.2) hW).2 rfl
    have hcur : wpOp E.P ops.toArray Q i (fun a' w' => SW wr w1 η1 w' ∧ wpAnyH E.P .any ops.toArray Q (SW wr w1 η1) (m - 1) (l.setIfInBounds i true) a' w') a w := by
      have hh : match nth ops i with
        | none => False
        | some o => match o.guard with
          | none => match so E.P s o with
            | some q => match o.dst with
              | some d => q.2.2 ∧ subL (chg s o.op) (wr ++ nw) = true ∧ d < E.n ∧ AP E ops wr K true r ⟨(d, q.1) :: q.2.1.t, q.2.1.h⟩ ⟨(d, .any) :: sr.t, sr.h⟩ ((crt E.P s o).toList ++ nw)
              | none => q.2.2 ∧ subL (chg s o.op) (wr ++ nw) = true ∧ AP E ops wr K true r q.2.1 sr nw
            | none => CallP E ops wr o none s sr nw (AP E ops wr K true r)
          | some jw => match gdS ops s jw.1 jw.2 with
            | some G => CallP E ops wr o (some G) s sr nw (AP E ops wr K true r)
            | none => False := by cases top <;> simp only [AP] at h <;> exact h.1
      have hnth := nth_get ops i
      cases ho : nth ops i with
      | none => rw [ho] at hh; exact hh.elim
      | some o =>
        have hget : ops.toArray[i]? = some o := by rw [List.getElem?_toArray, ← hnth, ho]
        simp only [ho] at hh
        have rec_ : ∀ (s' sr' : St) (nw' : List Nat) (a' : Act) (w' : World) (η' : Nat → Value), AP E ops wr K true r s' sr' nw' → Way E wr s' sr' nw' a' w' η' w1 η1 → SW wr w1 η1 w' ∧ wpAnyH E.P .any ops.toArray Q (SW wr w1 η1) (m - 1) (l.setIfInBounds i true) a' w' := fun s' sr' nw' a' w' η' hA hW' =>
          ⟨hW'.same, (AP_ok hsel hQp hK r true _ (m - 1) s' sr' nw' a' w' η' (by omega) hb2 hA hW').1 rfl⟩
        have call : ∀ G : Option Bool, (∀ g, G = some g → Region.wanted o (yielded ops.toArray a.tmps) = g) → (G = none → o.guard = none) → CallP E ops wr o G s sr nw (AP E ops wr K true r) → wpOp E.P ops.toArray Q i (fun a' w' => SW wr w1 η1 w' ∧ wpAnyH E.P .any ops.toArray Q (SW wr w1 η1) (m - 1) (l.setIfInBounds i true) a' w') a w := fun G g1 g2 hC => by
          unfold wpOp
          rw [hget]
          have := hC Q (fun a' w' => SW wr w1 η1 w' ∧ wpAnyH E.P .any ops.toArray Q (SW wr w1 η1) (m - 1) (l.setIfInBounds i true) a' w') a w η hW.now g1 g2 (fun d s' v w' η' ch nh hd hch hR hL hA => by
            have hst := hW.stepN (s' := s') (sr' := ⟨(d, .any) :: sr.t, sr.h⟩) (a' := a.put o.dst v) (w' := w') (η' := η') (nh := nh) (ch := ch) hL hch rfl hR
              (by
                rw [hd]
                refine ⟨by rw [getD_putd]; exact hW.old.sz, hW.old.df, fun j => ?_, hW.old.ob, hW.old.ge, hW.old.sep, hW.old.bel, hW.old.pn⟩
                show RS η1 _ w1 (lk ((d, .any) :: sr.t) j) _
                simp only [lk]
                by_cases e : d = j
                · rw [if_pos e]; simp only [RS]
                · rw [if_neg e]
                  have : (a.put (some d) v).tmps.getD j undef = a.tmps.getD j undef := by
                    simp only [Act.put, Array.getD_eq_getD_getElem?, Array.getElem?_setIfInBounds]
                    rw [if_neg e]
                  rw [this]; exact hW.old.tm j)
            exact rec_ _ _ _ _ w' η' hA hst)
          split at this <;> rename_i hw
          · simp only [hw, if_true]; exact .inl this
          · simp only [hw, if_false]; exact this
        cases hg : o.guard with
        | some jw =>
          obtain ⟨j, want⟩ := jw
          simp only [hg] at hh
          cases hG : gdS ops s j want with
          | none => rw [hG] at hh; exact hh.elim
          | some G =>
            simp only [hG] at hh
            exact call (some G) (fun g e => by cases e; exact gdS_ok hW.now hG hg) (fun e => by cases e) hh
        | none =>
          simp only [hg] at hh
          cases hs : so E.P s o with
          | none =>
            simp only [hs] at hh
            exact call none (fun g e => by cases e) (fun _ => hg) hh
          | some q =>
            simp only [hs] at hh
            have hc : q.2.2 := by cases hd : o.dst <;> simp only [hd] at hh <;> exact hh.1
            obtain ⟨w', η', u, g1, g2, g3, g4⟩ := so_ok hW.now hs (fun d hd => by rw [hd] at hh; exact hh.2.2.1) hc
            have hw : Region.wanted o (yielded ops.toArray a.tmps) = true := by simp [Region.wanted, hg]
            unfold wpOp
            rw [hget]
            simp only [hw, if_true]
            refine .inl ?_
            unfold Oper.wp
            cases hd : o.dst with
            | some d =>
              simp only [hd] at hh
              obtain ⟨_, c2, c3, hA⟩ := hh
              rcases g1 with g1 | ⟨g1, _⟩
              · rw [g1]
                have := rec_ _ _ _ _ w' η' hA (hW.step g4 c2 rfl (g2.put c3 g3) (hW.old.put c3 (by simp only [RS])))
                show SW wr w1 η1 w' ∧ wpAnyH E.P .any ops.toArray Q (SW wr w1 η1) (m - 1) (l.setIfInBounds i true) (a.put o.dst u) w'
                rw [hd]; exact this
              · rw [hd] at g1; cases g1
            | none =>
              simp only [hd] at hh
              obtain ⟨_, c2, hA⟩ := hh
              have hcr : crt E.P s o = none := by unfold crt; split <;> first | rfl | exact hd
              have hst := hW.step g4 c2 rfl (a' := a) (sr' := sr) g2 hW.old
              rw [hcr] at hst
              rcases g1 with g1 | ⟨_, g1⟩
              · rw [g1]
                have := rec_ _ _ _ _ w' η' hA (by simpa using hst)
                show SW wr w1 η1 w' ∧ wpAnyH E.P .any ops.toArray Q (SW wr w1 η1) (m - 1) (l.setIfInBounds i true) (a.put o.dst u) w'
                rw [hd]; exact this
              · rw [g1]
                have := rec_ _ _ _ _ w' η' hA (by simpa using hst)
                show SW wr w1 η1 w' ∧ wpAnyH E.P .any ops.toArray Q (SW wr w1 η1) (m - 1) (l.setIfInBounds i true) (a.put o.dst undef) w'
                rw [hd]; exact this
    refine ⟨fun e => ?_, fun e j hj => ?_⟩
    · subst e
      rcases hb1 with hb1 | hb1
      · cases hb1
      · obtain ⟨m, rfl⟩ : ∃ k, m = k + 1 := ⟨m - 1, by omega⟩
        refine wpAnyH_all hb1 (by simp [idxs]) fun j hj => ?_
        simp only [idxs, List.mem_cons] at hj
        rcases hj with rfl | hj
        · exact hcur
        · exact (hmore j hj).2
    · simp only [idxs, List.mem_cons] at hj
      rcases hj with rfl | hj
      · exact ⟨hm1, hcur⟩
      · exact hmore j hj
theorem link_below {F : Nat → Prop} {η : Nat → Value} {w w' : World} (hB : Below w.heap.size w w') : LinkN F η w F η w' [] [] := ⟨fun b o hb ho => ⟨hb, by rw [hB.block b (Array.getElem?_eq_some_iff.1 ho).1]; exact ho⟩, fun _ _ => rfl, fun _ _ e => (by cases e), hB.size, fun b o hb _ => by rw [hB.block b (Array.getElem?_eq_some_iff.1 hb).1]; exact hb⟩
theorem CallP_ct {E : Env} {ops : List Oper} {o : Oper} {s sr : St} {nw wr : List Nat} {AP' : St → St → List Nat → Prop} {fx : Operand} {args : Array Operand} {ts : Array TypeId} {f : Nat} {caps xs : List S} {d : Nat} {fr : Bool} {post : S → Prop}
    (C : Ct E.P E.T f xs fr post) (ho : o.op = .call { callee := .value fx, args := args, argTypes := ts }) (hd : o.dst = some d) (hf : stp (ev s fx) = .fn f caps) (c1 : stc (ev s fx)) (c2 : stcL s args.toList)
    (hxs : cvL s.h (stpL s args.toList ++ caps) = xs) (hfr : fr = true ∨ S.hasL allH (stpL s args.toList ++ caps) = false) (hdn : d < E.n)
    (hr : ∀ r, post r → r.has allH = false ∧ AP' ⟨(d, r) :: s.t, s.h⟩ ⟨(d, .any) :: sr.t, sr.h⟩ nw) : CallP E ops wr o none s sr nw AP' := by
  intro Q Kc a w η h _ hg hK
  obtain ⟨vs, h1, h2⟩ := call_run h ho hf c1 c2 C.1
  rw [if_pos (by simp [Region.wanted, hg rfl])]
  unfold Oper.wp
  rw [h1]
  show Calls E.P f vs.toArray w _
  have hT : E.T w := h.hT
  have key : ∃ F, RSL η0 F w xs vs ∧ (fr = false → ∀ b, F b → Fr E s.h η b) := by
    cases hfr' : fr with
    | true => exact ⟨fun _ => True, hxs ▸ RSL_cv h (fun _ _ => trivial) _ _ h2, fun e => by cases e⟩
    | false =>
      have hn : S.hasL allH (stpL s args.toList ++ caps) = false := by
        rcases hfr with e | e
        · rw [hfr'] at e; cases e
        · exact e
      refine ⟨Fr E s.h η, ?_, fun _ b hb => hb⟩
      rw [CallN_ct.cvL_id s.h _ hn] at hxs
      rw [← hxs]
      exact RSL.turn (p := allH) (fun j e => by cases e) _ _ hn h2
  obtain ⟨F, h3, h4⟩ := key
  refine (C.2 F w vs hT h3).mono ?_
  rintro e w' ⟨r, v, rfl, hp, hv, hb⟩
  obtain ⟨hn, hs⟩ := hr r hp
  exact hK d ⟨(d, r) :: s.t, s.h⟩ v w' η [] [] hd rfl (by rw [hd]; exact (h.grown hb).put hdn (back h h4 hn hv)) (link_below hb) hs
theorem CallP_cg {E : Env} {ops : List Oper} {o : Oper} {s sr : St} {nw wr : List Nat} {AP' : St → St → List Nat → Prop} {fx : Operand} {args : Array Operand} {ts : Array TypeId} {f : Nat} {caps xs : List S} {d : Nat} {fr g : Bool} {post : S → Prop}
    (C : g = true → Ct E.P E.T f xs fr post) (ho : o.op = .call { callee := .value fx, args := args, argTypes := ts }) (hd : o.dst = some d) (hf : stp (ev s fx) = .fn f caps) (c1 : g = true → stc (ev s fx)) (c2 : g = true → stcL s args.toList)
    (hxs : g = true → cvL s.h (stpL s args.toList ++ caps) = xs) (hfr : fr = true) (hdn : d < E.n)
    (hr : ∀ r, (g = true → post r) → (g = true → r.has allH = false) ∧ AP' ⟨(d, .gd g r) :: s.t, s.h⟩ ⟨(d, .any) :: sr.t, sr.h⟩ nw) : CallP E ops wr o (some g) s sr nw AP' := by
  intro Q Kc a w η h hw _ hK
  have hw := hw g rfl
  cases g with
  | false =>
    rw [if_neg (by rw [hw]; decide)]
    refine hK d ⟨(d, .gd false .any) :: s.t, s.h⟩ _ w η [] [] hd rfl ?_ (link_below (Below.refl _ _)) (hr .any (fun e => by cases e)).2
    rw [hd]
    exact h.put hdn (RS_gd.2 ⟨fun e => (by cases e), fun _ => rfl⟩)
  | true =>
    rw [if_pos hw]
    have C := C rfl
    obtain ⟨vs, h1, h2⟩ := call_run h ho hf (c1 rfl) (c2 rfl) C.1
    unfold Oper.wp
    rw [h1]
    show Calls E.P f vs.toArray w _
    have hT : E.T w := h.hT
    have h3 : RSL η0 (fun _ => True) w xs vs := hxs rfl ▸ RSL_cv h (fun _ _ => trivial) _ _ h2
    refine (C.2 _ w vs hT h3).mono ?_
    rintro e w' ⟨r, v, rfl, hp, hv, hb⟩
    obtain ⟨hn, hs⟩ := hr r (fun _ => hp)
    refine hK d ⟨(d, .gd true r) :: s.t, s.h⟩ v w' η [] [] hd rfl ?_ (link_below hb) hs
    rw [hd]
    exact (h.grown hb).put hdn (RS_gd.2 ⟨fun _ => back h (fr := fr) (F := fun _ => True) (fun e => by rw [hfr] at e; cases e) (hn rfl) hv, fun e => by cases e⟩)
section funs
variable {E : Env} {ops : List Oper} {o : Oper} {s sr : St} {nw wr : List Nat} {AP' : St → St → List Nat → Prop} {rest : List Oper} {K : St → Prop} {fx : Operand} {args : Array Operand} {ts : Array TypeId} {f : Nat} {caps xs : List S} {d : Nat} {g : Bool} {F : S}
theorem c1 (C : Ct E.P E.T f xs true (fun r => r = F)) (ho : o.op = .call { callee := .value fx, args := args, argTypes := ts }) (hd : o.dst = some d) (hf : stp (ev s fx) = .fn f caps) (c1 : stc (ev s fx)) (c2 : stcL s args.toList)
    (hxs : cvL s.h (stpL s args.toList ++ caps) = xs) (hdn : d < E.n) (hF : F.has allH = false) (hr : SQ E ops rest ⟨(d, F) :: s.t, s.h⟩ K) : CallN E ops o none s rest K :=
  CallN_ct C ho hd hf c1 c2 hxs (.inl rfl) hdn fun r e => by subst e; exact ⟨hF, hr⟩
theorem c2 (C : g = true → Ct E.P E.T f xs true (fun r => r = F)) (ho : o.op = .call { callee := .value fx, args := args, argTypes := ts }) (hd : o.dst = some d) (hf : stp (ev s fx) = .fn f caps) (c1 : g = true → stc (ev s fx)) (c2 : g = true → stcL s args.toList)
    (hxs : g = true → cvL s.h (stpL s args.toList ++ caps) = xs) (hdn : d < E.n) (hF : F.has allH = false) (hr : SQ E ops rest ⟨(d, .gd g F) :: s.t, s.h⟩ K) : CallN E ops o (some g) s rest K := by
  intro hw _ Q a w η h hK
  cases g with
  | true => exact CallN_cg (E := E) (g := true) C ho hd hf c1 c2 hxs rfl hdn (fun r e => by rw [e rfl]; exact ⟨fun _ => hF, hr⟩) hw (fun e => by cases e) Q a w η h hK
  | false =>
    have hw := hw false rfl a w η h
    unfold wpList
    rw [if_neg (by rw [hw]; decide), hd]
    exact SQ_ok hK rest _ hr _ _ η (h.put hdn (RS_gd.2 ⟨fun e => (by cases e), fun _ => rfl⟩))
theorem p1 (C : Ct E.P E.T f xs true (fun r => r = F)) (ho : o.op = .call { callee := .value fx, args := args, argTypes := ts }) (hd : o.dst = some d) (hf : stp (ev s fx) = .fn f caps) (c1 : stc (ev s fx)) (c2 : stcL s args.toList)
    (hxs : cvL s.h (stpL s args.toList ++ caps) = xs) (hdn : d < E.n) (hF : F.has allH = false) (hr : AP' ⟨(d, F) :: s.t, s.h⟩ ⟨(d, .any) :: sr.t, sr.h⟩ nw) : CallP E ops wr o none s sr nw AP' :=
  CallP_ct C ho hd hf c1 c2 hxs (.inl rfl) hdn fun r e => by subst e; exact ⟨hF, hr⟩
theorem p2 (C : g = true → Ct E.P E.T f xs true (fun r => r = F)) (ho : o.op = .call { callee := .value fx, args := args, argTypes := ts }) (hd : o.dst = some d) (hf : stp (ev s fx) = .fn f caps) (c1 : g = true → stc (ev s fx)) (c2 : g = true → stcL s args.toList)
    (hxs : g = true → cvL s.h (stpL s args.toList ++ caps) = xs) (hdn : d < E.n) (hF : F.has allH = false) (hr : AP' ⟨(d, .gd g F) :: s.t, s.h⟩ ⟨(d, .any) :: sr.t, sr.h⟩ nw) : CallP E ops wr o (some g) s sr nw AP' := by
  cases g with
  | true => exact CallP_cg (g := true) C ho hd hf c1 c2 hxs rfl hdn (fun r e => by rw [e rfl]; exact ⟨fun _ => hF, hr⟩)
  | false =>
    intro Q Kc a w η h hw _ hK
    rw [if_neg (by rw [hw false rfl]; decide)]
    refine hK d ⟨(d, .gd false F) :: s.t, s.h⟩ _ w η [] [] hd rfl ?_ (link_below (Below.refl _ _)) hr
    rw [hd]
    exact h.put hdn (RS_gd.2 ⟨fun e => (by cases e), fun _ => rfl⟩)
end funs
/-- the address of a table's cell -/
theorem CallN_glob {E : Env} {ops : List Oper} {o : Oper} {s : St} {rest : List Oper} {K : St → Prop} {g d n : Nat} {t e : TypeId} {ix : Operand} {kd : IntKind} {i : Int} {x : D} (ho : o.op = .indexAddr t (.global g) ix) (hd : o.dst = some d) (hix : ev s ix = .d (.i kd i)) (har : arT E.P t = some (n, e)) (hok : okT E.P e = true) (hsz : szT E.P e = 1) (h0 : 0 ≤ i) (h1 : i < n)
    (htab : ∀ w, E.T w → ∃ (v : Value) (arr : Array Value) (t : TypeId) (fr : Nat × Nat), w.heap[g]? = some (.cells arr t fr) ∧ arr[i.toNat]? = some v ∧ ∀ F, Rd F w x v) (hF : E.F g) (hg0 : g < G0) (hdn : d < E.n) (h : SQ E ops rest ⟨(d, .fptr [x]) :: s.t, s.h⟩ K) : CallN E ops o none s rest K := by
  intro _ hg Q a w η hR hK
  have hT : E.T w := hR.hT
  obtain ⟨v, arr, t', fr, hh, hv, hrd⟩ := htab w hT
  obtain ⟨_, arr0, _, _, hh0, _⟩ := htab E.w0 E.T0
  have hlt : g < E.w0.heap.size := (Array.getElem?_eq_some_iff.1 hh0).1
  have hiv : a.eval ix = .int kd i := by simpa only [hix, RS, Rd] using RS_ev hR ix
  have hu : E.P.underlying t = some (.array n e) := by
    unfold arT at har
    cases hu : E.P.underlying t with
    | none => rw [hu] at har; cases har
    | some q =>
      rw [hu] at har
      cases q <;> simp only [] at har <;> try (cases har; done)
      obtain ⟨rfl, rfl⟩ : _ = n ∧ _ = e := by simpa using har
      rfl
  refine wpList_plain (hg rfl) fun K' hK' => ?_
  unfold Oper.wp execOp
  have hrun : (Instr.indexAt t (.pointer (some ⟨g, 0, none⟩)) (.int kd i)).run E.P w = .ok (.pointer (some ⟨g, i.toNat, none⟩)) w := by
    have hs := run_size (P := E.P) (w := w) hok
    simp only [Instr.indexAt, asIntOf, Sem.run_bind, Sem.run_pure, Result.andThen_ok, run_und hu, Instr.sureAddr, if_pos (And.intro h0 h1), hs, hsz, add_at, Nat.mul_one, Nat.zero_add]
  simp only [ho, Act.eval, Sem.run_bind]
  have hiv' : a.eval ix = .int kd i := hiv
  show Oper.upon E.P o a K' Q (Result.andThen ((Instr.indexAt t (.pointer (some ⟨g, 0, none⟩)) (a.eval ix)).run E.P w) _)
  rw [hiv', hrun, Result.andThen_ok]
  refine hK' _ _ (SQ_ok hK rest _ h _ _ η ?_)
  rw [hd]
  refine hR.put hdn ?_
  simp only [RS]
  refine ⟨_, arr, t', fr, rfl, rfl, ⟨.inr (.inl hF), fun k o hk e => ?_⟩, hh, ?_⟩
  · rcases (hR.ge k o g hk e).1 with h1 | h1
    · omega
    · have := E.hW g h1; omega
  · simp only [RdC]
    exact ⟨⟨v, hv, hrd _⟩, trivial⟩
def aliveW (H : Hp) : List Nat → Prop
  | [] => True
  | k :: r => (lh H k).isSome = true ∧ aliveW H r
theorem aliveW_mem {H : Hp} : ∀ {wr : List Nat}, aliveW H wr → ∀ k, k ∈ wr → ∃ o, lh H k = some o
  | [], _, k, hk => by cases hk
  | x :: r, h, k, hk => by
    rcases List.mem_cons.1 hk with rfl | hk
    · exact Option.isSome_iff_exists.1 h.1
    · exact aliveW_mem h.2 k hk
section draw
variable {E : Env} {Q : Exit → St → Prop} {s : St} {id : Nat} {ops : List Oper}
theorem Tr.draw (plan : Pn) (wr : List Nat) (hm : E.P.follows .mixedOrders = true) (hk : (Region.noSelect ops.toArray && pnB ops.toArray true plan (Array.replicate ops.toArray.size false) && Nat.ble plan.n ops.length) = true) (hw : aliveW s.h wr) (hp : ∀ c s, ¬ Q (.panic c) s)
    (h : AP E ops wr (Q .normal) true plan s s []) : Tr E (.region id ops.toArray true) Q s := fun a w η hR => by
  simp only [Bool.and_eq_true] at hk
  obtain ⟨⟨h1, h2⟩, h3⟩ := hk
  have hR' : Rel E s a w.drew η := hR.grown (Below.refl _ _).drew
  have h4 := Nat.le_of_ble_eq_true h3
  refine wp_region_held (S := SW wr w.drew η) hm ?_
  exact (AP_ok h1 (fun c a' w' ⟨s', η', _, hq⟩ => hp c s' hq) (fun s' a' w' η' h1 h2 => ⟨s', η', h1, h2⟩) plan true _ ops.toArray.size s s [] a w.drew η (by simpa using h4) h2 h
    ⟨hR', hR', fun _ _ => rfl, Sub.refl _ _, Nat.le_refl _, fun k b e => by simp [inL] at e, aliveW_mem hw, fun _ _ hb _ => hb⟩).1 rfl
theorem d1 {y : Code} (plan : Pn) (wr : List Nat) (hm : E.P.follows .mixedOrders = true) (hk : (Region.noSelect ops.toArray && pnB ops.toArray true plan (Array.replicate ops.toArray.size false) && Nat.ble plan.n ops.length) = true) (hw : aliveW s.h wr) (hp : ∀ c s, ¬ Q (.panic c) s)
    (h : ∀ K : St → Prop, (∀ s', Tr E y Q s' → K s') → AP E ops wr K true plan s s []) : Tr E (.seq (.region id ops.toArray true) y) Q s :=
  Tr.seq (Tr.draw plan wr hm hk hw hp (h _ fun _ k => k))
theorem d2 {n : St → Prop} (plan : Pn) (wr : List Nat) (hm : E.P.follows .mixedOrders = true) (hk : (Region.noSelect ops.toArray && pnB ops.toArray true plan (Array.replicate ops.toArray.size false) && Nat.ble plan.n ops.length) = true) (hw : aliveW s.h wr) (hp : ∀ c s, ¬ Q (.panic c) s)
    (h : ∀ K : St → Prop, (∀ s', n s' → K s') → AP E ops wr K true plan s s []) : Tr E (.region id ops.toArray true) (thenS n Q) s :=
  Tr.draw plan wr hm hk hw hp (h _ fun _ k => k)
end draw
/-! ## contracts with objects that are handed in to be written, or handed back -/
theorem ROb0.mono {η : Nat → Value} {F F' : Nat → Prop} {w w' : World} (hs : Sub F w F' w') {k : Nat} {o : Obj'} (hb : ∀ b ob, blk (η k) = some b → w.heap[b]? = some ob → w'.heap[b]? = some ob) (r : ROb0 η F w k o) : ROb0 η F' w' k o := by
  cases o with
  | box t cs =>
    obtain ⟨g, vs, h1, h2, h3⟩ := r
    exact ⟨g, vs, h1, hb g _ (by rw [h1]; rfl) h2, RSL.mono hs _ _ h3⟩
  | mp R =>
    obtain ⟨g, ob, h1, h2, h3⟩ := r
    exact ⟨g, ob, h1, hb g _ (by rw [h1]; rfl) h2, h3⟩
  | rows t ss =>
    obtain ⟨xs, h1, h3⟩ := r
    refine ⟨xs, ?_, RSL.mono hs _ _ h3⟩
    obtain ⟨h4, h5⟩ := h1
    refine ⟨h4, ?_⟩
    rcases h5 with h5 | ⟨g, cap, cur, e, hg, hh, r⟩
    · exact .inl h5
    · exact .inr ⟨g, cap, cur, e, hg, hb g _ (by rw [e]; rfl) hh, r⟩
  | row t e0 es =>
    obtain ⟨xs, h1, h3⟩ := r
    refine ⟨xs, ?_, RdE.mono hs _ _ _ _ h3⟩
    obtain ⟨h4, h5⟩ := h1
    refine ⟨h4, ?_⟩
    rcases h5 with h5 | ⟨g, cap, cur, e, hg, hh, r⟩
    · exact .inl h5
    · exact .inr ⟨g, cap, cur, e, hg, hb g _ (by rw [e]; rfl) hh, r⟩
/-- handles that are not in it -/
def nkH (H : Hp) : Nat → Bool := fun k => (lh H k).isNone
def closedO (p : Nat → Bool) : Obj' → Bool
  | .box _ cs => !S.hasL p cs
  | .row _ _ _ => true
  | .rows _ ss => !S.hasL p ss
  | .mp _ => true
def closedH (p : Nat → Bool) : Hp → Bool
  | [] => true
  | (_, o) :: r => closedO p o && closedH p r
theorem closedH_lh {p : Nat → Bool} : ∀ {H : Hp}, closedH p H = true → ∀ {k o}, lh H k = some o → closedO p o = true
  | [], _, k, o, hk => by simp [lh] at hk
  | (i, x) :: r, h, k, o, hk => by
    simp only [closedH, Bool.and_eq_true] at h
    simp only [lh] at hk
    split at hk
    · cases hk; exact h.1
    · exact closedH_lh h.2 hk
theorem ROb0.turn {η η' : Nat → Value} {F : Nat → Prop} {w : World} {p : Nat → Bool} (hη : ∀ j, p j = false → η' j = η j) {k : Nat} {o : Obj'} (hk : η' k = η k) (hc : closedO p o = true) (r : ROb0 η F w k o) : ROb0 η' F w k o := by
  cases o with
  | box t cs =>
    obtain ⟨g, vs, h1, h2, h3⟩ := r
    exact ⟨g, vs, hk.trans h1, h2, RSL.turn hη _ _ (by simpa [closedO] using hc) h3⟩
  | row t e0 es => obtain ⟨xs, h1, h3⟩ := r; exact ⟨xs, by rw [hk]; exact h1, h3⟩
  | rows t ss => obtain ⟨xs, h1, h3⟩ := r; exact ⟨xs, by rw [hk]; exact h1, RSL.turn hη _ _ (by simpa [closedO] using hc) h3⟩
  | mp R => obtain ⟨g, ob, h1, h2, h3⟩ := r; exact ⟨g, ob, hk.trans h1, h2, h3⟩
/-- the blocks that a call's result may read -/
def Gd (w : World) (F : Nat → Prop) (H : Hp) (η : Nat → Value) : Nat → Prop := fun b => (w.heap.size ≤ b ∨ F b) ∧ ∀ k o, lh H k = some o → blk (η k) ≠ some b
structure In (w : World) (F : Nat → Prop) (H : Hp) (η : Nat → Value) : Prop where
  ob : ∀ k o, lh H k = some o → ROb0 η F w k o
  ge : ∀ k o g, lh H k = some o → blk (η k) = some g → G0 ≤ g ∧ g < w.heap.size ∧ ¬ F g
  sep : ∀ h h' o o', h ≠ h' → lh H h = some o → lh H h' = some o' → ∀ g, blk (η h) = some g → blk (η h') ≠ some g
structure Out (w w' : World) (F : Nat → Prop) (Hi Ho : Hp) (η η' : Nat → Value) : Prop where
  ob : ∀ k o, lh Ho k = some o → ROb0 η' (Gd w F Ho η') w' k o
  ge : ∀ k o g, lh Ho k = some o → blk (η' k) = some g → g < w'.heap.size ∧ (w.heap.size ≤ g ∨ ∃ k' o', lh Hi k' = some o' ∧ blk (η k') = some g)
  sep : ∀ h h' o o', h ≠ h' → lh Ho h = some o → lh Ho h' = some o' → ∀ g, blk (η' h) = some g → blk (η' h') ≠ some g
  pn : ∀ k o, lh Hi k = some o → η' k = η k ∧ (lh Ho k).isSome = true
  eta : ∀ k, lh Ho k = none → η' k = η k
  bel : Bel (fun b => ∃ k o, lh Hi k = some o ∧ blk (η k) = some b) w w'
/-- f called with xs, some of which are objects of Hi, returns what post says of the result and of the objects -/
def Cg (P : Program) (T : World → Prop) (f : Nat) (Hi : Hp) (xs : List S) (post : S → Hp → Prop) : Prop :=
  (∀ args w, (callFunc f args).run P w = .ok (.enter f args) w) ∧
  ∀ (F : Nat → Prop) (w : World) (η : Nat → Value) (vs : List Value), T w → In w F Hi η → RSL η F w xs vs → Calls P f vs.toArray w fun e w' => ∃ r v Ho η', e = .returned v ∧ post r Ho ∧ RS η' (Gd w F Ho η') w' r v ∧ Out w w' F Hi Ho η η'
theorem Cg.mono {P : Program} {T : World → Prop} {f : Nat} {Hi : Hp} {xs : List S} {post post' : S → Hp → Prop} (h : Cg P T f Hi xs post) (hp : ∀ r H, post r H → post' r H) : Cg P T f Hi xs post' :=
  ⟨h.1, fun F w η vs hT hi hx => (h.2 F w η vs hT hi hx).mono fun _ _ ⟨r, v, Ho, η', e, p, q⟩ => ⟨r, v, Ho, η', e, hp r Ho p, q⟩⟩
/-- the handles that are kept: their objects go back -/
def keepH (ks : List Nat) : Hp → Hp
  | [] => []
  | (i, o) :: r => if ks.contains i then (i, o) :: keepH ks r else keepH ks r
theorem lh_keepH (ks : List Nat) (k : Nat) : ∀ H : Hp, lh (keepH ks H) k = if ks.contains k then lh H k else none
  | [] => by simp [keepH, lh]
  | (i, o) :: r => by
    simp only [keepH]
    by_cases hi : ks.contains i = true
    · rw [if_pos hi]
      simp only [lh]
      by_cases e : i = k
      · subst e; rw [if_pos rfl, if_pos rfl, if_pos hi]
      · rw [if_neg e, if_neg e]; exact lh_keepH ks k r
    · rw [if_neg hi, lh_keepH ks k r]
      simp only [lh]
      by_cases e : i = k
      · subst e; rw [if_neg hi, if_neg hi]
      · rw [if_neg e]
/-- the rows that are not kept, to be frozen -/
def offK (ks : List Nat) : Hp → List S
  | [] => []
  | (i, .row _ _ _) :: r => if ks.contains i then offK ks r else .own i :: offK ks r
  | _ :: r => offK ks r
/-- all of it is there -/
def aliveK : List Nat → Hp → Prop
  | [], _ => True
  | k :: r, H => (lh H k).isSome = true ∧ aliveK r H
theorem aliveK_lh : ∀ {ks : List Nat} {H : Hp}, aliveK ks H → ∀ k, k ∈ ks → (lh H k).isSome = true
  | [], H, _, k, hk => by cases hk
  | x :: r, H, h, k, hk => by
    rcases List.mem_cons.1 hk with rfl | hk
    · exact h.1
    · exact aliveK_lh h.2 k hk
/-- how a function may end that hands objects back -/
def RetG (P : Program) (rs : List ResultVar) (ks : List Nat) (post : S → Hp → Prop) : Exit → St → Prop
  | .normal, s | .ret, s => (resL P (frzA (offK ks s.h) s) rs).2 ∧ aliveK ks (frzA (offK ks s.h) s).h ∧ S.has (nkH (keepH ks (frzA (offK ks s.h) s).h)) (oneS (resL P (frzA (offK ks s.h) s) rs).1) = false ∧ closedH (nkH (keepH ks (frzA (offK ks s.h) s).h)) (keepH ks (frzA (offK ks s.h) s).h) = true ∧ post (oneS (resL P (frzA (offK ks s.h) s) rs).1) (keepH ks (frzA (offK ks s.h) s).h)
  | _, _ => False
/-- the handles of Hi are kept, and no slot's number -/
def keysK (n : Nat) (ks : List Nat) : Hp → Bool
  | [] => true
  | (i, _) :: r => ks.contains i && Nat.ble n i && keysK n ks r
theorem keysK_lh {n : Nat} {ks : List Nat} : ∀ {H : Hp}, keysK n ks H = true → ∀ {k o}, lh H k = some o → k ∈ ks ∧ n ≤ k
  | [], _, k, o, hk => by simp [lh] at hk
  | (i, x) :: r, h, k, o, hk => by
    simp only [keysK, Bool.and_eq_true] at h
    simp only [lh] at hk
    split at hk
    · rename_i e; subst e; exact ⟨by simpa using h.1.1, Nat.le_of_ble_eq_true h.1.2⟩
    · exact keysK_lh h.2 hk
theorem Cg_of {P : Program} {T : World → Prop} {f : FuncId} {fn : Func} {c : Code} {Hi : Hp} {xs : List S} {post : S → Hp → Prop} (ks : List Nat) (Tm : TP T) (hf : P.funcs[f]? = some fn) (hb : fn.body = some c) (hname : (fn.name == "runtime.NumGoroutine") = false) {n : Nat} (hnn : fn.ntmps = n) (hn : (xs.length ≤ n) = True) (hks : keysK n ks Hi = true) {rs : List ResultVar} (hrs : fn.results.toList = rs)
    (h : ∀ E : Env, E.P = P → E.n = n → E.T = T → (∀ k, lh Hi k = none → E.pin k = none) → Tr E c (RetG P rs ks post) ⟨initT 0 xs, Hi⟩) : Cg P T f Hi xs post := by
  subst hnn hrs
  replace hn := of_eq_true hn
  refine ⟨enters' hf hname (by rw [hb]; rfl), fun F w η vs hT hI hx => ?_⟩
  generalize hE : (⟨P, w, F, fn.ntmps, T, Tm, hT, fun b => ∃ k o, lh Hi k = some o ∧ blk (η k) = some b, fun b ⟨k, o, h1, h2⟩ => (hI.ge k o b h1 h2).1, fun k => match lh Hi k with | some _ => some (η k) | none => none, fun k hk => by
    cases hl : lh Hi k with
    | none => rfl
    | some o => have := (keysK_lh hks hl).2; omega⟩ : Env) = E
  have hW : E.W = fun b => ∃ k o, lh Hi k = some o ∧ blk (η k) = some b := by rw [← hE]
  have hP : E.pin = fun k => match lh Hi k with | some _ => some (η k) | none => none := by rw [← hE]
  have h1 : E.P = P := by rw [← hE]
  have h2 : E.n = fn.ntmps := by rw [← hE]
  have h3 : E.T = T := by rw [← hE]
  have h4 : E.w0 = w := by rw [← hE]
  have h5 : E.F = F := by rw [← hE]
  have hl := RSL_len hx
  have hsub : Sub F w (Fr E Hi η) w := fun b o hb ho => ⟨⟨.inr (.inl (by rw [h5]; exact hb)), fun k o' hk e => (hI.ge k o' b hk e).2.2 hb⟩, ho⟩
  have hR : Rel E ⟨initT 0 xs, Hi⟩ (Act.mk (vs.toArray ++ Array.replicate (fn.ntmps - vs.toArray.size) undef) []) w η := by
    refine ⟨by rw [h2]; simp; omega, Marks.nil _ _ _, fun i => ?_, fun k o hk => (hI.ob k o hk).mono hsub fun _ _ _ hb => hb, fun k o g hk hg => ⟨.inr (by rw [hW]; exact ⟨k, o, hk, hg⟩), (hI.ge k o g hk hg).2.1⟩, hI.sep, by rw [h4]; exact Bel.refl _ _, fun k v hk => ?_⟩
    · show RS η _ w (lk (initT 0 xs) i) _
      rw [lk_initT, if_pos (Nat.zero_le _), Nat.sub_zero]
      by_cases hi : i < xs.length
      · obtain ⟨v, h1, h2⟩ := RSL_get hx i xs[i] (by simp [hi])
        have : (vs.toArray ++ Array.replicate (fn.ntmps - vs.toArray.size) undef).getD i undef = v := by
          rw [Array.getD_eq_getD_getElem?, Array.getElem?_append_left (by simp; omega)]
          simp [h1]
        rw [this, List.getD_eq_getElem?_getD]
        simp only [hi, List.getElem?_eq_getElem, Option.getD_some]
        exact RS.mono hsub _ _ h2
      · have : xs.getD i .any = .any := by simp [List.getD, Nat.le_of_not_lt hi]
        rw [this]; simp only [RS]
    · rw [hP] at hk
      simp only at hk
      split at hk
      · cases hk; rfl
      · cases hk
  refine calls_end hf hb (wp_mono (h1 ▸ h E h1 h2 h3 (fun k hk => by rw [hP]; simp only [hk]) _ w η hR) ?_)
  rintro e a' w1 ⟨s', η1, hR, hq⟩
  obtain ⟨Ds, e1, e2, e3, hR⟩ := hR.shut
  generalize hw : shutL Ds w1 = w' at hR
  replace hw := hw.symm
  have fin : RetG P fn.results.toList ks post .ret s' → ∃ v, (results fn a'.tmps).run P w' = .ok v w' ∧ ∃ r v' Ho η', Ending.returned v = .returned v' ∧ post r Ho ∧ RS η' (Gd w F Ho η') w' r v' ∧ Out w w' F Hi Ho η η' := by
    intro hq
    simp only [RetG] at hq
    replace hR := hR.frzA (offK ks s'.h)
    generalize Aw.frzA (offK ks s'.h) s' = s2 at hq hR
    obtain ⟨q1, q2, q3, q4, q5⟩ := hq
    obtain ⟨v, h6, h7⟩ := res_ok hR (fn := fn) (by rw [h1]; exact q1)
    rw [h1] at h6 h7
    generalize hHo : keepH ks s2.h = Ho at q3 q4 q5
    have hlh : ∀ k o, lh Ho k = some o → lh s2.h k = some o := fun k o hk => by
      rw [← hHo, lh_keepH] at hk
      split at hk
      · exact hk
      · cases hk
    have hpn : ∀ k o, lh Hi k = some o → η1 k = η k ∧ ∃ o', lh Ho k = some o' := fun k o hk => by
      refine ⟨hR.pn k (η k) (by rw [hP]; simp only [hk]), ?_⟩
      obtain ⟨hm, _⟩ := keysK_lh hks hk
      obtain ⟨o', ho'⟩ := Option.isSome_iff_exists.1 (aliveK_lh q2 k hm)
      exact ⟨o', by rw [← hHo, lh_keepH, if_pos (by simpa using hm)]; exact ho'⟩
    have hη : ∀ j, nkH Ho j = false → (fun j => match lh Ho j with | some _ => η1 j | none => η j) j = η1 j := fun j hj => by
      unfold nkH at hj
      cases hl : lh Ho j with
      | none => rw [hl] at hj; cases hj
      | some o => simp only [hl]
    have hη' : ∀ {j o}, lh Ho j = some o → (fun j => match lh Ho j with | some _ => η1 j | none => η j) j = η1 j := fun {j o} hj => by simp only [hj]
    have hs : Sub (Fr E s2.h η1) w' (Gd w F Ho (fun j => match lh Ho j with | some _ => η1 j | none => η j)) w' := fun b o hb ho => by
      refine ⟨⟨?_, fun k o' hk e => ?_⟩, ho⟩
      · rcases hb.1 with hb1 | hb1 | hb1
        · exact .inl (by rw [← h4]; exact hb1)
        · exact .inr (by rw [← h5]; exact hb1)
        · exfalso
          rw [hW] at hb1
          obtain ⟨k, o', h8, h9⟩ := hb1
          obtain ⟨h10, o2, h11⟩ := hpn k o' h8
          exact hb.2 k o2 (hlh k o2 h11) (by rw [h10]; exact h9)
      · rw [hη' hk] at e
        exact hb.2 k o' (hlh k o' hk) e
    refine ⟨v, h6, _, v, Ho, fun j => match lh Ho j with | some _ => η1 j | none => η j, rfl, q5, ?_, ?_⟩
    · exact RS.mono hs _ _ (RS.turn hη _ _ q3 h7)
    · refine ⟨fun k o hk => ?_, fun k o g hk hg => ?_, fun k k' o o' hne hk hk' g hg => ?_, fun k o hk => ?_, fun k hk => ?_, ?_⟩
      · exact ((hR.ob k o (hlh k o hk)).turn hη (hη' hk) (closedH_lh q4 hk)).mono hs fun _ _ _ hb => hb
      · simp only [hk] at hg
        have := hR.ge k o g (hlh k o hk) hg
        refine ⟨this.2, ?_⟩
        rcases this.1 with h8 | h8
        · exact .inl (by rw [← h4]; exact h8)
        · exact .inr (by rw [hW] at h8; exact h8)
      · simp only [hk] at hg
        simp only [hk']
        exact hR.sep k k' o o' hne (hlh k o hk) (hlh k' o' hk') g hg
      · obtain ⟨h8, o', h9⟩ := hpn k o hk
        exact ⟨by simp only [h9]; exact h8, by rw [h9]; rfl⟩
      · simp only [hk]
      · have := hR.bel
        rw [hW, h4] at this
        exact this
  cases e <;> try exact hq.elim
  · exact ⟨.inl rfl, Ds, e1, e2, e3, by rw [← hw]; exact fin hq⟩
  · exact ⟨.inr rfl, Ds, e1, e2, e3, by rw [← hw]; exact fin hq⟩
/-- Hi's objects are among the caller's -/
def inH (H : Hp) : Hp → Prop
  | [] => True
  | (k, o) :: r => lh H k = some o ∧ inH H r
theorem inH_lh {H : Hp} : ∀ {Hi : Hp}, inH H Hi → ∀ {k o}, lh Hi k = some o → lh H k = some o
  | [], _, k, o, hk => by simp [lh] at hk
  | (i, x) :: r, h, k, o, hk => by
    simp only [lh] at hk
    split at hk
    · rename_i e; subst e; cases hk; exact h.1
    · exact inH_lh h.2 hk
/-- the handles that came with the call, and those that it touched -/
def newK (Hi Ho : Hp) : Nat → Bool := fun k => (lh Ho k).isSome && (lh Hi k).isNone
def touK (Hi Ho : Hp) : Nat → Bool := fun k => (lh Ho k).isSome || (lh Hi k).isSome
/-- no new object stands where a handed in one is pinned -/
def cgS (s : St) (Hi Ho : Hp) : St := ⟨killT (newK Hi Ho) s.t, Ho ++ killH (newK Hi Ho) (touK Hi Ho) s.h⟩
/-- behind a call -/
theorem Out.rel {E : Env} {s : St} {a : Act} {w w' : World} {η η' : Nat → Value} {Hi Ho : Hp} (h : Rel E s a w η) (hi : inH s.h Hi) (hpin : ∀ k, newK Hi Ho k = true → E.pin k = none) (o : Out w w' (Fr E s.h η) Hi Ho η η') :
    Rel E (cgS s Hi Ho) a w' η' ∧ Sub (Gd w (Fr E s.h η) Ho η') w' (Fr E (cgS s Hi Ho).h η') w' ∧ Sub (Fr E s.h η) w (Fr E (cgS s Hi Ho).h η') w' := by
  have hη : ∀ j, newK Hi Ho j = false → η' j = η j := fun j hj => by
    unfold newK at hj
    cases h1 : lh Ho j with
    | none => exact o.eta j h1
    | some o1 =>
      rw [h1] at hj
      cases h2 : lh Hi j with
      | none => rw [h2] at hj; cases hj
      | some o2 => exact (o.pn j o2 h2).1
  have hpq : ∀ j, newK Hi Ho j = true → touK Hi Ho j = true := fun j hj => by unfold newK at hj; unfold touK; simp_all
  have hsame : ∀ (b : Nat) (ob : Obj), w.heap[b]? = some ob → (∀ k o', lh s.h k = some o' → touK Hi Ho k = true → blk (η k) ≠ some b) → w'.heap[b]? = some ob := fun b ob hb hn => by
    rw [o.bel.block b (Array.getElem?_eq_some_iff.1 hb).1 fun ⟨k, o', h1, h2⟩ => hn k o' (inH_lh hi h1) (by unfold touK; rw [h1]; simp) h2]; exact hb
  have hnew : ∀ d ob, lh Ho d = some ob → touK Hi Ho d = true ∧ ∀ g, blk (η' d) = some g → (E.w0.heap.size ≤ g ∨ E.W g) ∧ g < w'.heap.size ∧ (w.heap.size ≤ g ∨ ∃ k o', lh s.h k = some o' ∧ touK Hi Ho k = true ∧ blk (η k) = some g) := fun d ob hd => by
    refine ⟨by unfold touK; rw [hd]; rfl, fun g hg => ?_⟩
    obtain ⟨h1, h2⟩ := o.ge d ob g hd hg
    rcases h2 with h2 | ⟨k', o', h3, h4⟩
    · exact ⟨.inl (Nat.le_trans h.bel.size h2), h1, .inl h2⟩
    · exact ⟨(h.ge k' o' g (inH_lh hi h3) h4).1, h1, .inr ⟨k', o', inH_lh hi h3, by unfold touK; rw [h3]; simp, h4⟩⟩
  have hbel : Bel E.W E.w0 w' := h.bel.wr o.bel.os o.bel.tape o.bel.output o.bel.size fun k hk hw => o.bel.block k (Nat.lt_of_lt_of_le hk h.bel.size) fun ⟨k', o', h1, h2⟩ => by
    rcases (h.ge k' o' k (inH_lh hi h1) h2).1 with h3 | h3
    · omega
    · exact hw h3
  have hs := h.sub (w' := w') (η' := η') (newK Hi Ho) (touK Hi Ho) Ho hpq hη hsame hnew
  have hlow : ∀ k o', lh s.h k = some o' → ∀ g, blk (η k) = some g → g < w.heap.size := fun k o' hk g hg => (h.ge k o' g hk hg).2
  have hG : Sub (Gd w (Fr E s.h η) Ho η') w' (Fr E (Ho ++ killH (newK Hi Ho) (touK Hi Ho) s.h) η') w' := fun b ob hb ho => by
    refine ⟨⟨?_, fun k o' hk e => ?_⟩, ho⟩
    · rcases hb.1 with h1 | h1
      · exact .inl (Nat.le_trans h.bel.size h1)
      · exact h1.1
    · rw [lh_append] at hk
      cases h2 : lh Ho k with
      | some o2 => exact hb.2 k o2 h2 e
      | none =>
        rw [h2, Option.none_or, lh_killH] at hk
        split at hk
        · cases hk
        · cases h3 : lh s.h k with
          | none => rw [h3] at hk; cases hk
          | some o3 =>
            rw [o.eta k h2] at e
            rcases hb.1 with h1 | h1
            · have := hlow k o3 h3 b e; omega
            · exact h1.2 k o3 h3 e
  refine ⟨?_, hG, hs⟩
  exact h.next (w' := w') (η' := η') (newK Hi Ho) (touK Hi Ho) Ho hpq hη (fun k v hk => by
    cases hn : newK Hi Ho k with
    | false => exact hη k hn
    | true => rw [hpin k hn] at hk; cases hk) hbel o.bel.size hsame hnew (fun d d' o1 o2 hne h1 h2 g hg => o.sep d d' o1 o2 hne h1 h2 g hg) (fun d ob hd => (o.ob d ob hd).mono hG fun _ _ _ hb => hb)
theorem In.of {E : Env} {s : St} {a : Act} {w : World} {η : Nat → Value} {Hi : Hp} (h : Rel E s a w η) (hi : inH s.h Hi) : In w (Fr E s.h η) Hi η :=
  ⟨fun k o hk => h.ob k o (inH_lh hi hk), fun k o g hk hg => ⟨by
    rcases (h.ge k o g (inH_lh hi hk) hg).1 with h1 | h1
    · exact Nat.le_trans (E.Tm.s _ E.T0) h1
    · exact E.hW g h1, (h.ge k o g (inH_lh hi hk) hg).2, fun hF => hF.2 k o (inH_lh hi hk) hg⟩, fun k k' o o' hne hk hk' => h.sep k k' o o' hne (inH_lh hi hk) (inH_lh hi hk')⟩
/-- slots and objects that are not needed are forgotten -/
theorem Le.mv {E : Env} {s : St} {t' : Tm} {h' : Hp} (ht : knows s.t t') (hh : inH s.h h') : Le E s ⟨t', h'⟩ := fun a w η hR => by
  have hs : Sub (Fr E s.h η) w (Fr E h' η) w := fun b o hb ho => ⟨⟨hb.1, fun k o' hk => hb.2 k o' (inH_lh hh hk)⟩, ho⟩
  refine ⟨η, hR.sz, hR.df.mono hs, fun i => ?_, fun k o hk => (hR.ob k o (inH_lh hh hk)).mono hs fun _ _ _ hb => hb, fun k o g hk => hR.ge k o g (inH_lh hh hk), fun k k' o o' hne hk hk' => hR.sep k k' o o' hne (inH_lh hh hk) (inH_lh hh hk'), hR.bel, hR.pn⟩
  show RS η _ w (lk t' i) _
  rcases knows_lk ht i with e | e
  · rw [← e]; exact RS.mono hs _ _ (hR.tm i)
  · rw [e]; simp only [RS]
section call
variable {E : Env} {ops : List Oper} {o : Oper} {s sr : St} {nw wr : List Nat} {rest : List Oper} {K : St → Prop} {fx : Operand} {args : Array Operand} {ts : Array TypeId} {f : Nat} {caps xs : List S} {d : Nat} {Hi : Hp} {post : S → Hp → Prop}
theorem CallN_cx (C : Cg E.P E.T f Hi xs post) (ho : o.op = .call { callee := .value fx, args := args, argTypes := ts }) (hd : o.dst = some d) (hf : stp (ev s fx) = .fn f caps) (c1 : stc (ev s fx)) (c2 : stcL s args.toList)
    (hxs : stpL s args.toList ++ caps = xs) (hi : inH s.h Hi) (hdn : d < E.n)
    (hr : ∀ r Ho, post r Ho → (∀ k, newK Hi Ho k = true → E.pin k = none) ∧ SQ E ops rest ⟨(d, r) :: (cgS s Hi Ho).t, (cgS s Hi Ho).h⟩ K) : CallN E ops o none s rest K := by
  intro _ hg Q a w η h hK
  obtain ⟨vs, h1, h2⟩ := call_run h ho hf c1 c2 C.1
  refine wpList_plain (hg rfl) fun K' hK' => ?_
  unfold Oper.wp
  rw [h1]
  show Calls E.P f vs.toArray w _
  refine (C.2 (Fr E s.h η) w η vs h.hT (In.of h hi) (hxs ▸ h2)).mono ?_
  rintro e w' ⟨r, v, Ho, η', rfl, hp, hv, hO⟩
  obtain ⟨hn, hs⟩ := hr r Ho hp
  obtain ⟨hR, hG, _⟩ := hO.rel h hi hn
  refine hK' _ _ (SQ_ok hK rest _ hs _ _ η' ?_)
  rw [hd]
  exact hR.put hdn (RS.mono hG _ _ hv)
/-- one object is handed in -/
def C1 (P : Program) (T : World → Prop) (f : Nat) (k : Nat) (o : Obj') (xs : List S) (post : S → Obj' → Prop) : Prop := Cg P T f [(k, o)] xs fun r H => ∃ o', H = [(k, o')] ∧ post r o'
theorem newK_one {k : Nat} {ob ob' : Obj'} : newK [(k, ob)] [(k, ob')] = fun _ => false := by
  funext j
  simp only [newK, lh]
  by_cases e : k = j <;> simp [e]
theorem touK_one {k : Nat} {ob ob' : Obj'} : touK [(k, ob)] [(k, ob')] = k1 k := by
  funext j
  simp only [touK, lh, k1]
  by_cases e : k = j
  · simp [e]
  · have : (j == k) = false := by simp; omega
    simp [e, this]
theorem cgS_one {k : Nat} {ob ob' : Obj'} : cgS s [(k, ob)] [(k, ob')] = s.upd k ob' := by
  simp only [cgS, newK_one, touK_one, killT_none, killH_drop]
  rfl
theorem Rel.upd_same {E : Env} {s : St} {a : Act} {w : World} {η : Nat → Value} (h : Rel E s a w η) {k : Nat} {ob : Obj'} (hk : lh s.h k = some ob) : Rel E (s.upd k ob) a w η ∧ Sub (Fr E s.h η) w (Fr E (s.upd k ob).h η) w :=
  h.wrote k ob ob hk rfl rfl rfl rfl (fun _ _ => rfl) fun F hs => (h.ob k ob hk).mono hs fun _ _ _ hb => hb
variable {k : Nat} {ob : Obj'} {post1 : S → Obj' → Prop} {g : Bool} {AP' : St → St → List Nat → Prop}
theorem CallN_c1 (C : C1 E.P E.T f k ob xs post1) (ho : o.op = .call { callee := .value fx, args := args, argTypes := ts }) (hd : o.dst = some d) (hf : stp (ev s fx) = .fn f caps) (c1 : stc (ev s fx)) (c2 : stcL s args.toList)
    (hxs : stpL s args.toList ++ caps = xs) (hi : lh s.h k = some ob) (hdn : d < E.n)
    (hr : ∀ r ob', post1 r ob' → SQ E ops rest ⟨(d, r) :: s.t, (s.upd k ob').h⟩ K) : CallN E ops o none s rest K :=
  CallN_cx C ho hd hf c1 c2 hxs ⟨hi, trivial⟩ hdn fun r Ho hp => by
    obtain ⟨ob', rfl, hp⟩ := hp
    refine ⟨fun k' hk' => (by rw [newK_one] at hk'; cases hk'), ?_⟩
    rw [cgS_one]; exact hr r ob' hp
/-- what a call does, in one step -/
theorem c1_step {a : Act} {w : World} {η : Nat → Value} (h : Rel E s a w η) (C : C1 E.P E.T f k ob xs post1) (ho : o.op = .call { callee := .value fx, args := args, argTypes := ts }) (hd : o.dst = some d) (hf : stp (ev s fx) = .fn f caps) (c1 : stc (ev s fx)) (c2 : stcL s args.toList)
    (hxs : stpL s args.toList ++ caps = xs) (hi : lh s.h k = some ob) (hdn : d < E.n) {Kc : Act → World → Prop} {Q : Exit → Act → World → Prop}
    (hr : ∀ r ob' v w' η', post1 r ob' → Rel E (s.upd k ob') a w' η' → RS η' (Fr E (s.upd k ob').h η') w' r v → Link (Fr E s.h η) η w (Fr E (s.upd k ob').h η') η' w' none [k] → Kc (a.put o.dst v) w') : o.wp E.P a w Kc Q := by
  obtain ⟨vs, h1, h2⟩ := call_run h ho hf c1 c2 C.1
  unfold Oper.wp
  rw [h1]
  show Calls E.P f vs.toArray w _
  refine (C.2 (Fr E s.h η) w η vs h.hT (In.of h (show inH s.h [(k, ob)] from ⟨hi, trivial⟩)) (hxs ▸ h2)).mono ?_
  rintro e w' ⟨r, v, Ho, η', rfl, ⟨ob', rfl, hp⟩, hv, hO⟩
  obtain ⟨hR, hG, hS⟩ := hO.rel h (show inH s.h [(k, ob)] from ⟨hi, trivial⟩) fun k' hk' => by rw [newK_one] at hk'; cases hk'
  rw [cgS_one] at hR hG hS
  refine hr r ob' v w' η' hp hR (RS.mono hG _ _ hv) ⟨hS, fun j _ => ?_, fun j b e _ => (by cases e), hO.bel.size, fun b o2 hb hn => ?_⟩
  · by_cases e : k = j
    · subst e; exact (hO.pn k ob (by simp [lh])).1
    · exact hO.eta j (by simp [lh, e])
  · rw [hO.bel.block b (Array.getElem?_eq_some_iff.1 hb).1 fun ⟨k', o', h3, h4⟩ => ?_]
    · exact hb
    · simp only [lh] at h3
      split at h3
      · rename_i e; subst e; exact hn k (by simp) h4
      · cases h3
theorem CallP_c1 (C : C1 E.P E.T f k ob xs post1) (ho : o.op = .call { callee := .value fx, args := args, argTypes := ts }) (hd : o.dst = some d) (hf : stp (ev s fx) = .fn f caps) (c1 : stc (ev s fx)) (c2 : stcL s args.toList)
    (hxs : stpL s args.toList ++ caps = xs) (hi : lh s.h k = some ob) (hdn : d < E.n) (hwr : subL [k] (wr ++ nw) = true)
    (hr : ∀ r ob', post1 r ob' → AP' ⟨(d, r) :: s.t, (s.upd k ob').h⟩ ⟨(d, .any) :: sr.t, sr.h⟩ nw) : CallP E ops wr o none s sr nw AP' := by
  intro Q Kc a w η h _ hg hK
  rw [if_pos (by simp [Region.wanted, hg rfl])]
  refine c1_step h C ho hd hf c1 c2 hxs hi hdn fun r ob' v w' η' hp hR hv hL => ?_
  refine hK d ⟨(d, r) :: s.t, (s.upd k ob').h⟩ v w' η' [k] [] hd hwr (by rw [hd]; exact hR.put hdn hv) hL.n (hr r ob' hp)
end call
/-! maps of numbers -/
def mlook : List (Int × Int) → Int → Option Int
  | [], _ => none
  | (k, v) :: r, i => if k = i then some v else mlook r i
/-- what the map reads as -/
def mapD (m : List (Int × Int)) (D : DataW Unit) : Prop := ∀ i : Int, Maps.has D (.int .i64 i) = (mlook m i).isSome ∧ D.atKey (.int .i64 i) (.lit (.int .i64 0)) = .lit (.int .i64 ((mlook m i).getD 0))
def mapR (P : Program) (k e : TypeId) (n : Nat) (m : List (Int × Int)) : Obj → Prop := fun o => ∃ es clock D, o = .map es clock ∧ WideElems.Fit P k (plainElem (H := Unit) P e) es clock ∧ es.size ≤ n ∧ D = DataW.map ((es.toList.map (WideElems.rg P k (plainElem (H := Unit) P e))).foldr DataW.insert []) ∧ mapD m D
section
variable {P : Program} {k e : TypeId} {n : Nat} {m : List (Int × Int)} {w : World} {b : Nat}
theorem mapR.own {o : Obj} (hb : w.heap[b]? = some o) (h : mapR P k e n m o) : ∃ D, w.ownsMap (H := Unit) P k (plainElem P e) b n D ∧ mapD m D := by
  obtain ⟨es, clock, D, rfl, F, hn, rfl, hd⟩ := h
  exact ⟨_, ⟨es, clock, hb, F, hn, rfl⟩, hd⟩
theorem mapR.of {D : DataW Unit} (h : w.ownsMap (H := Unit) P k (plainElem P e) b n D) (hd : mapD m D) : ∃ o, w.heap[b]? = some o ∧ mapR P k e n m o := by
  obtain ⟨es, clock, hb, F, hn, rfl⟩ := h
  exact ⟨_, hb, es, clock, _, rfl, F, hn, rfl, hd⟩
theorem mapD_nil : mapD [] (.map []) := fun i => ⟨rfl, rfl⟩
theorem mapD.put {D : DataW Unit} (h : mapD m D) (hD : Maps.IsMap D) (i v : Int) : mapD ((i, v) :: m) (D.put (.int .i64 i) (.lit (.int .i64 v))) := fun j => by
  simp only [mlook]
  by_cases hij : i = j
  · subst hij
    rw [if_pos rfl]
    exact ⟨Maps.has_put_same hD (show WideAt.IsKeyLit (.int .i64 i) from trivial) _, Maps.atKey_put_same hD (show WideAt.IsKeyLit (.int .i64 i) from trivial) _ _⟩
  · rw [if_neg hij]
    have hne : (Lit.int .i64 j) ≠ .int .i64 i := fun e => hij (by cases e; rfl)
    exact ⟨(Maps.has_put_other hne _).trans (h j).1, (Maps.atKey_put_other hne _ _).trans (h j).2⟩
end
section
variable {E : Env} {ops : List Oper} {o : Oper} {s : St} {rest : List Oper} {K : St → Prop} {d h : Nat} {t k e : TypeId} {n : Nat} {m : List (Int × Int)} {x y z : Operand} {i v : Int} {g : Bool}
theorem CallN_mk (ho : o.op = .makeMap t none) (hd : o.dst = some d) (hdn : d < E.n)
    (hr : SQ E ops rest ⟨(d, .own d) :: ((killS (k1 d) s).add d (.mp (mapR E.P k e 0 []))).t, ((killS (k1 d) s).add d (.mp (mapR E.P k e 0 []))).h⟩ K) : CallN E ops o none s rest K := by
  intro _ hg Q a w η hR hK
  refine wpList_plain (hg rfl) fun K' hK' => ?_
  have hmade := hR.made (w' := w.alloc (.map #[] 0)) d (E.hpin d hdn) (.map (some w.heap.size)) (.mp (mapR E.P k e 0 [])) (made_alloc w _) (fun g hg => by
    obtain rfl : w.heap.size = g := by simpa [blk] using hg
    exact ⟨Nat.le_refl _, by simp⟩) (fun F hs => by
    obtain ⟨ob, h1, h2⟩ := mapR.of (World.ownsMap_made (H := Unit) w E.P k (plainElem E.P e)) mapD_nil
    exact ⟨w.heap.size, ob, if_pos rfl, h1, h2⟩)
  unfold Oper.wp
  simp only [execOp, ho, Option.map_none, Sem.run_bind, run_makeMap, Result.andThen_ok, Sem.run_pure]
  have hp := hmade.1.put hdn (show RS _ _ _ (.own d) (.map (some w.heap.size)) by simp only [RS, if_true])
  exact hK' _ _ (SQ_ok hK rest _ hr _ _ (fun j => if j = d then .map (some w.heap.size) else η j) (by rw [hd]; exact hp))
theorem look_run {a : Act} {w : World} {η : Nat → Value} (hR : Rel E s a w η) (hm : stp (ev s x) = .own h) (c1 : stc (ev s x)) (hk : stp (ev s y) = .d (.i .i64 i)) (c2 : stc (ev s y)) (hwf : (Lit.int .i64 i).wf = true)
    (hl : lh s.h h = some (.mp (mapR E.P k e n m))) (ht : E.P.underlying t = some (.map k e)) (hkt : E.P.underlying k = some (.int .i64)) (het : E.P.underlying e = some (.int .i64)) (hz : ∀ w, (zeroValue e).run E.P w = .ok (.int .i64 0) w) :
    (Instr.lookup t (a.eval x) (a.eval y) true).run E.P w = .ok (.tuple #[.int .i64 ((mlook m i).getD 0), .bool (mlook m i).isSome]) w := by
  have r1 := opd hR hm c1
  have r2 := opd hR hk c2
  simp only [RS, Rd] at r1 r2
  obtain ⟨b, ob, e1, e2, e3⟩ := hR.ob h _ hl
  obtain ⟨D, hown, hD⟩ := e3.own e2
  rw [r1, r2, e1]
  obtain ⟨v, ps, h1, h2⟩ := hown.look_ok (Maps.int_keyed hkt) ht (hz w) (plainElem_int het (show (Lit.int .i64 0).wf = true by decide)) (Maps.keyOf_int_mk hkt hwf)
  obtain ⟨c, rfl, hc, _⟩ := plainElem_int_inv het h2
  simp only [Prod.mk.injEq] at hc
  have h3 := (hD i).2.symm.trans hc.1
  simp only [DataW.lit.injEq, Lit.int.injEq, true_and] at h3
  rw [h1, (hD i).1, h3]
theorem CallN_look (ho : o.op = .lookup t x y true) (hd : o.dst = some d) (hdn : d < E.n) (hm : stp (ev s x) = .own h) (c1 : stc (ev s x)) (hk : stp (ev s y) = .d (.i .i64 i)) (c2 : stc (ev s y)) (hwf : (Lit.int .i64 i).wf = true)
    (hl : lh s.h h = some (.mp (mapR E.P k e n m))) (ht : E.P.underlying t = some (.map k e)) (hkt : E.P.underlying k = some (.int .i64)) (het : E.P.underlying e = some (.int .i64)) (hz : ∀ w, (zeroValue e).run E.P w = .ok (.int .i64 0) w)
    (hr : SQ E ops rest ⟨(d, .tup [.d (.i .i64 ((mlook m i).getD 0)), .d (.b (mlook m i).isSome)]) :: s.t, s.h⟩ K) : CallN E ops o none s rest K := by
  intro _ hg Q a w η hR hK
  refine wpList_plain (hg rfl) fun K' hK' => ?_
  unfold Oper.wp
  simp only [execOp, ho, Sem.run_bind, look_run hR hm c1 hk c2 hwf hl ht hkt het hz, Result.andThen_ok, Sem.run_pure]
  exact hK' _ _ (SQ_ok hK rest _ hr _ _ η (by rw [hd]; exact hR.put hdn (by simp only [RS]; exact ⟨_, rfl, _, _, rfl, by simp only [RS, Rd], _, _, rfl, by simp only [RS, Rd], rfl⟩)))
theorem CallN_put (ho : o.op = .mapUpdate t x y z ∨ o.op = .insert t x y z) (hd : o.dst = none) (hm : stp (ev s x) = .own h) (c1 : stc (ev s x)) (hk : stp (ev s y) = .d (.i .i64 i)) (c2 : stc (ev s y)) (hwf : (Lit.int .i64 i).wf = true) (hv : stp (ev s z) = .d (.i .i64 v)) (c3 : stc (ev s z)) (hwv : (Lit.int .i64 v).wf = true)
    (hl : lh s.h h = some (.mp (mapR E.P k e n m))) (ht : E.P.underlying t = some (.map k e)) (hkt : E.P.underlying k = some (.int .i64)) (het : E.P.underlying e = some (.int .i64)) (hn : n < maxLen)
    (hr : SQ E ops rest (s.upd h (.mp (mapR E.P k e (n + 1) ((i, v) :: m)))) K) : CallN E ops o none s rest K := by
  intro _ hg Q a w η hR hK
  refine wpList_plain (hg rfl) fun K' hK' => ?_
  have r1 := opd hR hm c1
  have r2 := opd hR hk c2
  have r3 := opd hR hv c3
  simp only [RS, Rd] at r1 r2 r3
  obtain ⟨b, ob, e1, e2, e3⟩ := hR.ob h _ hl
  obtain ⟨D, hown, hD⟩ := e3.own e2
  obtain ⟨w', h1, h2, h3⟩ := hown.store (Maps.int_keyed hkt) ht hn (Maps.keyOf_int_mk hkt hwf) (plainElem_int het hwv)
  have hsz : w'.heap.size = w.heap.size := by obtain ⟨_, _, _, _, _, rfl⟩ := h3; simp [ChangeMaps.setBlock]
  replace h3 := h3.grown
  obtain ⟨ob', h4, h5⟩ := mapR.of h2 (hD.put hown.isMap i v)
  unfold Oper.wp
  have hp := (hR.wrote h _ (.mp (mapR E.P k e (n + 1) ((i, v) :: m))) hl hsz h3.tape h3.os h3.output (fun j hj => by
    rcases Nat.lt_or_ge j w.heap.size with hlt | hge
    · exact h3.block j hlt (fun e => hj (by rw [e1]; exact e.symm))
    · rw [Array.getElem?_eq_none (by rw [hsz]; exact hge), Array.getElem?_eq_none hge]) (fun F hs => ⟨b, ob', e1, h4, h5⟩)).1
  rcases ho with ho | ho <;> (simp only [execOp, ho, r1, r2, r3, e1, Sem.run_bind, h1, Result.andThen_ok, Sem.run_pure]; exact hK' _ _ (SQ_ok hK rest _ hr _ _ η (by rw [hd]; exact hp)))
end
/-! calls that hand objects in, and find them as they were -/
theorem Rel.ext {E : Env} {s : St} {a : Act} {w : World} {η : Nat → Value} {h' : Hp} (h : Rel E s a w η) (e : ∀ k, lh h' k = lh s.h k) : Rel E ⟨s.t, h'⟩ a w η := by
  have hs : Sub (Fr E s.h η) w (Fr E h' η) w := fun b o hb ho => ⟨⟨hb.1, fun k o' hk => hb.2 k o' (by rw [← e k]; exact hk)⟩, ho⟩
  exact ⟨h.sz, h.df.mono hs, fun i => RS.mono hs _ _ (h.tm i), fun k o hk => (h.ob k o (by rw [← e k]; exact hk)).mono hs fun _ _ _ hb => hb, fun k o g hk => h.ge k o g (by rw [← e k]; exact hk),
    fun k k' o o' hne hk hk' => h.sep k k' o o' hne (by rw [← e k]; exact hk) (by rw [← e k']; exact hk'), h.bel, h.pn⟩
theorem newK_same (H : Hp) : newK H H = fun _ => false := by
  funext j
  unfold newK
  cases lh H j <;> rfl
theorem cgS_same {s : St} {Hi : Hp} (hi : inH s.h Hi) (k : Nat) : lh (cgS s Hi Hi).h k = lh s.h k := by
  show lh (Hi ++ killH (newK Hi Hi) (touK Hi Hi) s.h) k = _
  rw [lh_append, lh_killH, newK_same]
  cases h1 : lh Hi k with
  | some o => rw [inH_lh hi h1]; rfl
  | none =>
    rw [if_neg (by unfold touK; rw [h1]; decide)]
    cases lh s.h k with
    | none => rfl
    | some o => simp only [Option.map_some, killO_none, Option.none_or]
section
variable {E : Env} {ops : List Oper} {o : Oper} {s : St} {rest : List Oper} {K : St → Prop} {fx : Operand} {args : Array Operand} {ts : Array TypeId} {f : Nat} {caps xs : List S} {d : Nat} {Hi : Hp} {R0 : S} {g : Bool}
theorem cs_step {a : Act} {w : World} {η : Nat → Value} (h : Rel E s a w η) (C : Cg E.P E.T f Hi xs (fun r H => H = Hi ∧ r = R0)) (ho : o.op = .call { callee := .value fx, args := args, argTypes := ts }) (hd : o.dst = some d) (hf : stp (ev s fx) = .fn f caps) (c1 : stc (ev s fx)) (c2 : stcL s args.toList)
    (hxs : stpL s args.toList ++ caps = xs) (hi : inH s.h Hi) {Kc : Act → World → Prop} {Q : Exit → Act → World → Prop}
    (hr : ∀ v w' η', Rel E s a w' η' → RS η' (Fr E s.h η') w' R0 v → Kc (a.put o.dst v) w') : o.wp E.P a w Kc Q := by
  obtain ⟨vs, h1, h2⟩ := call_run h ho hf c1 c2 C.1
  unfold Oper.wp
  rw [h1]
  show Calls E.P f vs.toArray w _
  refine (C.2 (Fr E s.h η) w η vs h.hT (In.of h hi) (hxs ▸ h2)).mono ?_
  rintro e w' ⟨r, v, Ho, η', rfl, ⟨rfl, rfl⟩, hv, hO⟩
  obtain ⟨hR, hG, hS⟩ := hO.rel h hi fun k' hk' => by rw [newK_same] at hk'; cases hk'
  have hR2 : Rel E s a w' η' := by
    have := hR.ext (h' := s.h) fun k => (cgS_same hi k).symm
    rw [show (cgS s Ho Ho).t = s.t by show killT (newK Ho Ho) s.t = s.t; rw [newK_same, killT_none]] at this
    exact this
  have hF : Sub (Fr E (cgS s Ho Ho).h η') w' (Fr E s.h η') w' := fun b o hb ho => ⟨⟨hb.1, fun k o' hk => hb.2 k o' (by rw [cgS_same hi k]; exact hk)⟩, ho⟩
  exact hr v w' η' hR2 (RS.mono hF _ _ (RS.mono hG _ _ hv))
theorem CallN_cs (C : Cg E.P E.T f Hi xs (fun r H => H = Hi ∧ r = R0)) (ho : o.op = .call { callee := .value fx, args := args, argTypes := ts }) (hd : o.dst = some d) (hf : stp (ev s fx) = .fn f caps) (c1 : stc (ev s fx)) (c2 : stcL s args.toList)
    (hxs : stpL s args.toList ++ caps = xs) (hi : inH s.h Hi) (hdn : d < E.n)
    (hr : SQ E ops rest ⟨(d, R0) :: s.t, s.h⟩ K) : CallN E ops o none s rest K := by
  intro _ hg Q a w η h hK
  refine wpList_plain (hg rfl) fun K' hK' => ?_
  refine cs_step h C ho hd hf c1 c2 hxs hi fun v w' η' hR hv => ?_
  exact hK' _ _ (SQ_ok hK rest _ hr _ _ η' (by rw [hd]; exact hR.put hdn hv))
theorem CallN_gs (C : g = true → Cg E.P E.T f Hi xs (fun r H => H = Hi ∧ r = R0)) (ho : o.op = .call { callee := .value fx, args := args, argTypes := ts }) (hd : o.dst = some d) (hf : stp (ev s fx) = .fn f caps) (c1 : g = true → stc (ev s fx)) (c2 : g = true → stcL s args.toList)
    (hxs : g = true → stpL s args.toList ++ caps = xs) (hi : inH s.h Hi) (hdn : d < E.n)
    (hr : SQ E ops rest ⟨(d, .gd g R0) :: s.t, s.h⟩ K) : CallN E ops o (some g) s rest K := by
  intro hw _ Q a w η h hK
  have hw := hw g rfl a w η h
  unfold wpList
  cases g with
  | false =>
    rw [if_neg (by rw [hw]; decide), hd]
    exact SQ_ok hK rest _ hr _ _ η (h.put hdn (RS_gd.2 ⟨fun e => (by cases e), fun _ => rfl⟩))
  | true =>
    rw [if_pos hw]
    refine .inl (cs_step h (C rfl) ho hd hf (c1 rfl) (c2 rfl) (hxs rfl) hi fun v w' η' hR hv => ?_)
    exact SQ_ok hK rest _ hr _ _ η' (by rw [hd]; exact hR.put hdn (RS_gd.2 ⟨fun _ => hv, fun e => by cases e⟩))
end
section
variable {E : Env} {ops : List Oper} {o : Oper} {s sr : St} {nw wr : List Nat} {AP' : St → St → List Nat → Prop} {fx : Operand} {args : Array Operand} {ts : Array TypeId} {f : Nat} {caps xs : List S} {d : Nat} {R0 : S}
theorem CallP_cs (C : Cg E.P E.T f [] xs (fun r H => H = [] ∧ r = R0)) (ho : o.op = .call { callee := .value fx, args := args, argTypes := ts }) (hd : o.dst = some d) (hf : stp (ev s fx) = .fn f caps) (c1 : stc (ev s fx)) (c2 : stcL s args.toList)
    (hxs : stpL s args.toList ++ caps = xs) (hdn : d < E.n) (hr : AP' ⟨(d, R0) :: s.t, s.h⟩ ⟨(d, .any) :: sr.t, sr.h⟩ nw) : CallP E ops wr o none s sr nw AP' := by
  intro Q Kc a w η h _ hg hK
  rw [if_pos (by simp [Region.wanted, hg rfl])]
  obtain ⟨vs, h1, h2⟩ := call_run h ho hf c1 c2 C.1
  unfold Oper.wp
  rw [h1]
  show Calls E.P f vs.toArray w _
  refine (C.2 (Fr E s.h η) w η vs h.hT (In.of h (show inH s.h [] from trivial)) (hxs ▸ h2)).mono ?_
  rintro e w' ⟨r, v, Ho, η', rfl, ⟨rfl, rfl⟩, hv, hO⟩
  have hη : η' = η := funext fun k => hO.eta k rfl
  subst hη
  obtain ⟨hR, hG, hS⟩ := hO.rel h (show inH s.h [] from trivial) fun k' hk' => by rw [newK_same] at hk'; cases hk'
  have hi : inH s.h [] := trivial
  have hR2 : Rel E s a w' η' := by
    have := hR.ext (h' := s.h) fun k => (cgS_same hi k).symm
    rw [show (cgS s [] []).t = s.t by show killT (newK [] []) s.t = s.t; rw [newK_same, killT_none]] at this
    exact this
  have hF : Sub (Fr E (cgS s [] []).h η') w' (Fr E s.h η') w' := fun b o hb ho => ⟨⟨hb.1, fun k o' hk => hb.2 k o' (by rw [cgS_same hi k]; exact hk)⟩, ho⟩
  refine hK d ⟨(d, r) :: s.t, s.h⟩ v w' η' [] [] hd (by simp [subL]) (by rw [hd]; exact hR2.put hdn (RS.mono hF _ _ (RS.mono hG _ _ hv))) ⟨hS.trans hF, fun j _ => rfl, fun j b e _ => (by cases e), hO.bel.size, fun b o2 hb hn => ?_⟩ hr
  rw [hO.bel.block b (Array.getElem?_eq_some_iff.1 hb).1 fun ⟨k', o', h3, h4⟩ => by cases h3]
  exact hb
end
section
variable {E : Env} {ops : List Oper} {o : Oper} {s : St} {rest : List Oper} {K : St → Prop} {d : Nat} {g : Bool}
/-- a row that a call takes is frozen first -/
theorem CallN_frz (k : Nat) (h : CallN E ops o none (frz k s) rest K) : CallN E ops o none s rest K := fun _ hg Q a w η hR hK => h (fun g e => by cases e) hg Q a w η (hR.frz k) hK
/-- guards that are true are taken off -/
def un : S → S
  | .gd true x => x
  | x => x
def unT : Tm → Tm
  | [] => []
  | (i, x) :: r => (i, un x) :: unT r
/-- a row's elements, whose nils are rows of none -/
def wd : List D → List D → Prop
  | [], [] => True
  | c :: cs, c' :: cs' => (c = c' ∨ (c = .nil ∧ ∃ e0, c' = .row e0 [])) ∧ wd cs cs'
  | _, _ => False
def wE : List (List D) → List (List D) → Prop
  | [], [] => True
  | e :: es, e' :: es' => wd e e' ∧ wE es es'
  | _, _ => False
theorem wd_len : ∀ {e e' : List D}, wd e e' → e.length = e'.length
  | [], [], _ => rfl
  | c :: cs, c' :: cs', h => by simp only [wd] at h; simp [wd_len h.2]
theorem wE_len : ∀ {e e' : List (List D)}, wE e e' → e.length = e'.length
  | [], [], _ => rfl
  | c :: cs, c' :: cs', h => by simp only [wE] at h; simp [wE_len h.2]
theorem wd_ok {F : Nat → Prop} {w : World} {cs : Array Value} : ∀ {o : Nat} {e e' : List D}, wd e e' → RdC F w cs o e → RdC F w cs o e'
  | _, [], [], _, r => r
  | o, c :: e, c' :: e', h, r => by
    simp only [wd] at h
    simp only [RdC] at r ⊢
    obtain ⟨⟨v, h1, h2⟩, r⟩ := r
    refine ⟨⟨v, h1, ?_⟩, wd_ok h.2 r⟩
    rcases h.1 with h3 | ⟨h3, e0, h4⟩
    · rw [← h3]; exact h2
    · subst h3 h4; exact Rd.nil_row h2
theorem wE_ok {F : Nat → Prop} {w : World} {cs : Array Value} {z : Nat} : ∀ {o : Nat} {e e' : List (List D)}, wE e e' → RdE F w z cs o e → RdE F w z cs o e'
  | _, [], [], _, r => r
  | o, c :: e, c' :: e', h, r => by
    simp only [wE] at h
    simp only [RdE] at r ⊢
    exact ⟨(wd_len h.1).symm.trans r.1, wd_ok h.1 r.2.1, wE_ok h.2 r.2.2⟩
theorem Le.wrow (k : Nat) {t : TypeId} {e0 : List D} {es : List (List D)} (es' : List (List D)) (hk : lh s.h k = some (.row t e0 es)) (h : wE es es') : Le E s (s.upd k (.row t e0 es')) := fun a w η hR => by
  refine ⟨η, (hR.wrote k _ (.row t e0 es') hk rfl rfl rfl rfl (fun _ _ => rfl) fun F hs => ?_).1⟩
  obtain ⟨xs, h1, h2⟩ := hR.ob k _ hk
  exact ⟨xs, by rw [← wE_len h]; exact h1, wE_ok h (RdE.mono hs _ _ _ _ h2)⟩
end
/-- a scope that no jump enters -/
def noG (Q : Exit → St → Prop) : Exit → St → Prop
  | .goto _, _ => False
  | e, s => Q e s
section
variable {E : Env} {Q : Exit → St → Prop} {s : St} {l : Nat}
theorem Tr.scope {c : Code} (h : Tr E c (noG Q) s) : Tr E (.scope c) Q s := fun a w η hR => by
  refine wp_scope_straight (wp_mono (h a w η hR) ?_)
  rintro e a' w' ⟨s', η', h1, h2⟩
  cases e <;> first | exact ⟨s', η', h1, h2⟩ | exact h2.elim
theorem gs1 (h : Q .normal s) : noG Q .normal s := h
theorem gs2 (h : Q .ret s) : noG Q .ret s := h
theorem gs3 (h : Q (.exit l) s) : noG Q (.exit l) s := h
end
/-- steps that a text of tactics takes, found by their shape -/
class TS (p : Prop) (q : outParam Prop) : Prop where
  imp : q → p
class TR (p : Prop) (q : outParam Prop) : Prop where
  imp : q → p
class NE (l i : Nat) : Prop where
  out : l ≠ i
instance {i : Nat} : NE 0 (i + 1) := ⟨by omega⟩
instance {i : Nat} : NE (i + 1) 0 := ⟨by omega⟩
instance {l i : Nat} [h : NE l i] : NE (l + 1) (i + 1) := ⟨by have := h.out; omega⟩
theorem n10 {Q : Exit → St → Prop} {l i : Nat} {s : St} [h : NE l i] (k : Q (.exit l) s) : inBlk i Q (.exit l) s := n9 (by simp [h.out]) k
section
variable {E : Env} {Q : Exit → St → Prop} {n : St → Prop} {s : St} {x y : Code} {l i : Nat} {ops : List Oper}
instance : TS (Tr E (.seq x y) Q s) (Tr E x (thenS (Tr E y Q) Q) s) := ⟨Tr.seq⟩
instance : TS (Tr E .skip Q s) (Q .normal s) := ⟨Tr.skip⟩
instance : TS (Tr E (.label l) Q s) (Q .normal s) := ⟨Tr.label⟩
instance : TS (Tr E (.block i x) Q s) (Tr E x (inBlk i Q) s) := ⟨Tr.block⟩
instance : TS (Tr E (.scope x) Q s) (Tr E x (noG Q) s) := ⟨Tr.scope⟩
instance : TS (Tr E (.exit l) Q s) (Q (.exit l) s) := ⟨Tr.exit⟩
instance : TS (Tr E (.goto l) Q s) (Q (.goto l) s) := ⟨Tr.goto⟩
instance : TS (Tr E .ret Q s) (Q .ret s) := ⟨Tr.ret⟩
instance : TS (noG Q .normal s) (Q .normal s) := ⟨gs1⟩
instance : TS (noG Q .ret s) (Q .ret s) := ⟨gs2⟩
instance : TS (noG Q (.exit l) s) (Q (.exit l) s) := ⟨gs3⟩
instance : TS (thenS n Q .normal s) (n s) := ⟨n1⟩
instance : TS (thenS n Q .ret s) (Q .ret s) := ⟨n2⟩
instance : TS (thenS n Q (.exit l) s) (Q (.exit l) s) := ⟨n3⟩
instance : TS (thenS n Q (.goto l) s) (Q (.goto l) s) := ⟨n4⟩
instance : TS (inBlk i Q .normal s) (Q .normal s) := ⟨n5⟩
instance : TS (inBlk i Q .ret s) (Q .ret s) := ⟨n6⟩
instance : TS (inBlk i Q (.goto l) s) (Q (.goto l) s) := ⟨n7⟩
instance (priority := low) [NE l i] : TS (inBlk i Q (.exit l) s) (Q (.exit l) s) := ⟨n10⟩
instance : TS (inBlk i Q (.exit i) s) (Q .normal s) := ⟨n8⟩
instance : TR (Tr E (.region i ops.toArray false) Q s) (∀ K : St → Prop, (∀ s', Q .normal s' → K s') → SQ E ops ops s K) := ⟨r3⟩
instance : TR (Tr E (.region i ops.toArray false) (thenS n Q) s) (∀ K : St → Prop, (∀ s', n s' → K s') → SQ E ops ops s K) := ⟨r2⟩
instance : TR (Tr E (.seq (.region i ops.toArray false) y) Q s) (∀ K : St → Prop, (∀ s', Tr E y Q s' → K s') → SQ E ops ops s K) := ⟨r1⟩
end
class AD (g : Prop) (p q : outParam Prop) : Prop where
  imp : p → q → g
instance {p q : Prop} : AD (p ∧ q) p q := ⟨And.intro⟩
theorem vc {g p q : Prop} [i : AD g p q] (k : q) (h : p := by first | trivial | omega | (simp <;> omega) | (simp +contextual; done) | (clear hK; grind)) : g := i.imp h k
class DS (E : outParam Env) (ops : outParam (List Oper)) (s : outParam St) (Q : outParam (Exit → St → Prop)) (n : outParam (St → Prop)) (g : Prop) : Prop where
  imp : ∀ (plan : Pn) (wr : List Nat), E.P.follows .mixedOrders = true → (Region.noSelect ops.toArray && pnB ops.toArray true plan (Array.replicate ops.toArray.size false) && Nat.ble plan.n ops.length) = true → aliveW s.h wr → (∀ c s, ¬ Q (.panic c) s) → (∀ K : St → Prop, (∀ s', n s' → K s') → AP E ops wr K true plan s s []) → g
section
variable {E : Env} {Q : Exit → St → Prop} {n : St → Prop} {s : St} {y : Code} {id i : Nat} {ops : List Oper}
instance : DS E ops s Q (Tr E y Q) (Tr E (.seq (.region id ops.toArray true) y) Q s) := ⟨fun plan wr a b c d h => d1 plan wr a b c d h⟩
instance : DS E ops s Q n (Tr E (.region id ops.toArray true) (thenS n Q) s) := ⟨fun plan wr a b c d h => d2 plan wr a b c d h⟩
instance : DS E ops s Q (Q .normal) (Tr E (.region id ops.toArray true) (inBlk i Q) s) := ⟨fun plan wr a b c d h => Tr.draw plan wr a b c d (h _ fun _ k => k)⟩
end
theorem d5 {E : Env} {ops : List Oper} {s : St} {Q : Exit → St → Prop} {n : St → Prop} {g : Prop} [i : DS E ops s Q n g] (plan : Pn) (wr : List Nat) (hm : E.P.follows .mixedOrders = true) (hk : (Region.noSelect ops.toArray && pnB ops.toArray true plan (Array.replicate ops.toArray.size false) && Nat.ble plan.n ops.length) = true) (hw : aliveW s.h wr) (hp : ∀ c s, ¬ Q (.panic c) s) (h : ∀ K : St → Prop, (∀ s', n s' → K s') → AP E ops wr K true plan s s []) : g := i.imp plan wr hm hk hw hp h
end Go.Proofs.YtgomeljgbjgbkaaGreatDoor.Aw
namespace Go.Proofs.YtgomeljgbjgbkaaGreatDoor.Aw
theorem sz2 : szT Go.Proofs.Tryz.prog 2 = 1 := by kernel_rfl
theorem ag2 : aggT Go.Proofs.Tryz.prog 2 = false := by kernel_rfl
theorem ok2 : okT Go.Proofs.Tryz.prog 2 = true := by kernel_rfl
theorem kk2 : kT Go.Proofs.Tryz.prog 2 = some .i64 := by kernel_rfl
theorem iu2 : (Go.Proofs.Tryz.prog.underlying 2).isSome = true := by kernel_rfl
theorem zc2 : zeroC Go.Proofs.Tryz.prog 2 = some [.d (.i .i64 0)] := by kernel_rfl
theorem zd2 : zeroD Go.Proofs.Tryz.prog 2 = some [.i .i64 0] := by kernel_rfl
theorem by2 : byT Go.Proofs.Tryz.prog 2 = 8 := by kernel_rfl
theorem sz3 : szT Go.Proofs.Tryz.prog 3 = 1 := by kernel_rfl
theorem ag3 : aggT Go.Proofs.Tryz.prog 3 = false := by kernel_rfl
theorem ok3 : okT Go.Proofs.Tryz.prog 3 = true := by kernel_rfl
theorem kk3 : kT Go.Proofs.Tryz.prog 3 = some .i64 := by kernel_rfl
theorem iu3 : (Go.Proofs.Tryz.prog.underlying 3).isSome = true := by kernel_rfl
theorem zc3 : zeroC Go.Proofs.Tryz.prog 3 = some [.d (.i .i64 0)] := by kernel_rfl
theorem zd3 : zeroD Go.Proofs.Tryz.prog 3 = some [.i .i64 0] := by kernel_rfl
theorem by3 : byT Go.Proofs.Tryz.prog 3 = 8 := by kernel_rfl
theorem sz4 : szT Go.Proofs.Tryz.prog 4 = 1 := by kernel_rfl
theorem ag4 : aggT Go.Proofs.Tryz.prog 4 = false := by kernel_rfl
theorem ok4 : okT Go.Proofs.Tryz.prog 4 = true := by kernel_rfl
theorem bo4 : boolT Go.Proofs.Tryz.prog 4 = true := by kernel_rfl
theorem zc4 : zeroC Go.Proofs.Tryz.prog 4 = some [.d (.b false)] := by kernel_rfl
theorem zd4 : zeroD Go.Proofs.Tryz.prog 4 = some [.b false] := by kernel_rfl
theorem by4 : byT Go.Proofs.Tryz.prog 4 = 1 := by kernel_rfl
theorem sz5 : szT Go.Proofs.Tryz.prog 5 = 1 := by kernel_rfl
theorem ag5 : aggT Go.Proofs.Tryz.prog 5 = false := by kernel_rfl
theorem ok5 : okT Go.Proofs.Tryz.prog 5 = true := by kernel_rfl
theorem kk5 : kT Go.Proofs.Tryz.prog 5 = some .u8 := by kernel_rfl
theorem iu5 : (Go.Proofs.Tryz.prog.underlying 5).isSome = true := by kernel_rfl
theorem zc5 : zeroC Go.Proofs.Tryz.prog 5 = some [.d (.i .u8 0)] := by kernel_rfl
theorem zd5 : zeroD Go.Proofs.Tryz.prog 5 = some [.i .u8 0] := by kernel_rfl
theorem by5 : byT Go.Proofs.Tryz.prog 5 = 1 := by kernel_rfl
theorem sz9 : szT Go.Proofs.Tryz.prog 9 = 1 := by kernel_rfl
theorem ag9 : aggT Go.Proofs.Tryz.prog 9 = false := by kernel_rfl
theorem ok9 : okT Go.Proofs.Tryz.prog 9 = true := by kernel_rfl
theorem st9 : strT Go.Proofs.Tryz.prog 9 = true := by kernel_rfl
theorem zc9 : zeroC Go.Proofs.Tryz.prog 9 = some [.d (.s ⟨#[]⟩)] := by kernel_rfl
theorem zd9 : zeroD Go.Proofs.Tryz.prog 9 = some [.s ⟨#[]⟩] := by kernel_rfl
theorem by9 : byT Go.Proofs.Tryz.prog 9 = 16 := by kernel_rfl
theorem sz12 : szT Go.Proofs.Tryz.prog 12 = 1 := by kernel_rfl
theorem ag12 : aggT Go.Proofs.Tryz.prog 12 = false := by kernel_rfl
theorem ok12 : okT Go.Proofs.Tryz.prog 12 = true := by kernel_rfl
theorem kk12 : kT Go.Proofs.Tryz.prog 12 = some .u64 := by kernel_rfl
theorem iu12 : (Go.Proofs.Tryz.prog.underlying 12).isSome = true := by kernel_rfl
theorem zc12 : zeroC Go.Proofs.Tryz.prog 12 = some [.d (.i .u64 0)] := by kernel_rfl
theorem zd12 : zeroD Go.Proofs.Tryz.prog 12 = some [.i .u64 0] := by kernel_rfl
theorem by12 : byT Go.Proofs.Tryz.prog 12 = 8 := by kernel_rfl
theorem sz15 : szT Go.Proofs.Tryz.prog 15 = 1 := by kernel_rfl
theorem ag15 : aggT Go.Proofs.Tryz.prog 15 = false := by kernel_rfl
theorem ok15 : okT Go.Proofs.Tryz.prog 15 = true := by kernel_rfl
theorem zc15 : zeroC Go.Proofs.Tryz.prog 15 = some [.any] := by kernel_rfl
theorem by15 : byT Go.Proofs.Tryz.prog 15 = 8 := by kernel_rfl
theorem sz16 : szT Go.Proofs.Tryz.prog 16 = 1 := by kernel_rfl
theorem ag16 : aggT Go.Proofs.Tryz.prog 16 = false := by kernel_rfl
theorem ok16 : okT Go.Proofs.Tryz.prog 16 = true := by kernel_rfl
theorem zc16 : zeroC Go.Proofs.Tryz.prog 16 = some [.any] := by kernel_rfl
theorem by16 : byT Go.Proofs.Tryz.prog 16 = 8 := by kernel_rfl
theorem sz21 : szT Go.Proofs.Tryz.prog 21 = 1 := by kernel_rfl
theorem ag21 : aggT Go.Proofs.Tryz.prog 21 = false := by kernel_rfl
theorem ok21 : okT Go.Proofs.Tryz.prog 21 = true := by kernel_rfl
theorem kk21 : kT Go.Proofs.Tryz.prog 21 = some .i32 := by kernel_rfl
theorem iu21 : (Go.Proofs.Tryz.prog.underlying 21).isSome = true := by kernel_rfl
theorem zc21 : zeroC Go.Proofs.Tryz.prog 21 = some [.d (.i .i32 0)] := by kernel_rfl
theorem zd21 : zeroD Go.Proofs.Tryz.prog 21 = some [.i .i32 0] := by kernel_rfl
theorem by21 : byT Go.Proofs.Tryz.prog 21 = 4 := by kernel_rfl
theorem sz22 : szT Go.Proofs.Tryz.prog 22 = 1 := by kernel_rfl
theorem ag22 : aggT Go.Proofs.Tryz.prog 22 = false := by kernel_rfl
theorem ok22 : okT Go.Proofs.Tryz.prog 22 = true := by kernel_rfl
theorem sl22 : slT Go.Proofs.Tryz.prog 22 = some 3 := by kernel_rfl
theorem zc22 : zeroC Go.Proofs.Tryz.prog 22 = some [.d .nil] := by kernel_rfl
theorem zd22 : zeroD Go.Proofs.Tryz.prog 22 = some [.nil] := by kernel_rfl
theorem by22 : byT Go.Proofs.Tryz.prog 22 = 24 := by kernel_rfl
theorem sz23 : szT Go.Proofs.Tryz.prog 23 = 3 := by kernel_rfl
theorem ag23 : aggT Go.Proofs.Tryz.prog 23 = true := by kernel_rfl
theorem ok23 : okT Go.Proofs.Tryz.prog 23 = true := by kernel_rfl
theorem zc23 : zeroC Go.Proofs.Tryz.prog 23 = some [.d .nil, .d .nil, .d (.i .i64 0)] := by kernel_rfl
theorem zd23 : zeroD Go.Proofs.Tryz.prog 23 = some [.nil, .nil, .i .i64 0] := by kernel_rfl
theorem pl23 : placesT Go.Proofs.Tryz.prog 23 = some [(0, 1), (1, 1), (2, 1)] := by kernel_rfl
theorem by23 : byT Go.Proofs.Tryz.prog 23 = 56 := by kernel_rfl
theorem fl23_0 : fldT Go.Proofs.Tryz.prog 23 0 = some (0, 22) := by kernel_rfl
theorem fl23_1 : fldT Go.Proofs.Tryz.prog 23 1 = some (1, 22) := by kernel_rfl
theorem fl23_2 : fldT Go.Proofs.Tryz.prog 23 2 = some (2, 3) := by kernel_rfl
theorem sz24 : szT Go.Proofs.Tryz.prog 24 = 3 := by kernel_rfl
theorem ag24 : aggT Go.Proofs.Tryz.prog 24 = true := by kernel_rfl
theorem ok24 : okT Go.Proofs.Tryz.prog 24 = true := by kernel_rfl
theorem zc24 : zeroC Go.Proofs.Tryz.prog 24 = some [.d .nil, .d .nil, .d (.i .i64 0)] := by kernel_rfl
theorem zd24 : zeroD Go.Proofs.Tryz.prog 24 = some [.nil, .nil, .i .i64 0] := by kernel_rfl
theorem pl24 : placesT Go.Proofs.Tryz.prog 24 = some [(0, 1), (1, 1), (2, 1)] := by kernel_rfl
theorem by24 : byT Go.Proofs.Tryz.prog 24 = 56 := by kernel_rfl
theorem fl24_0 : fldT Go.Proofs.Tryz.prog 24 0 = some (0, 22) := by kernel_rfl
theorem fl24_1 : fldT Go.Proofs.Tryz.prog 24 1 = some (1, 22) := by kernel_rfl
theorem fl24_2 : fldT Go.Proofs.Tryz.prog 24 2 = some (2, 3) := by kernel_rfl
theorem sz26 : szT Go.Proofs.Tryz.prog 26 = 1 := by kernel_rfl
theorem ag26 : aggT Go.Proofs.Tryz.prog 26 = false := by kernel_rfl
theorem ok26 : okT Go.Proofs.Tryz.prog 26 = true := by kernel_rfl
theorem sl26 : slT Go.Proofs.Tryz.prog 26 = some 50 := by kernel_rfl
theorem zc26 : zeroC Go.Proofs.Tryz.prog 26 = some [.d .nil] := by kernel_rfl
theorem zd26 : zeroD Go.Proofs.Tryz.prog 26 = some [.nil] := by kernel_rfl
theorem by26 : byT Go.Proofs.Tryz.prog 26 = 24 := by kernel_rfl
theorem sz27 : szT Go.Proofs.Tryz.prog 27 = 5 := by kernel_rfl
theorem ag27 : aggT Go.Proofs.Tryz.prog 27 = true := by kernel_rfl
theorem ok27 : okT Go.Proofs.Tryz.prog 27 = true := by kernel_rfl
theorem zc27 : zeroC Go.Proofs.Tryz.prog 27 = some [.d (.i .i64 0), .d (.i .i64 0), .d (.i .i64 0), .d .nil, .d (.i .i64 0)] := by kernel_rfl
theorem zd27 : zeroD Go.Proofs.Tryz.prog 27 = some [.i .i64 0, .i .i64 0, .i .i64 0, .nil, .i .i64 0] := by kernel_rfl
theorem pl27 : placesT Go.Proofs.Tryz.prog 27 = some [(0, 1), (1, 1), (2, 1), (3, 1), (4, 1)] := by kernel_rfl
theorem by27 : byT Go.Proofs.Tryz.prog 27 = 56 := by kernel_rfl
theorem fl27_0 : fldT Go.Proofs.Tryz.prog 27 0 = some (0, 3) := by kernel_rfl
theorem fl27_1 : fldT Go.Proofs.Tryz.prog 27 1 = some (1, 3) := by kernel_rfl
theorem fl27_2 : fldT Go.Proofs.Tryz.prog 27 2 = some (2, 3) := by kernel_rfl
theorem fl27_3 : fldT Go.Proofs.Tryz.prog 27 3 = some (3, 26) := by kernel_rfl
theorem fl27_4 : fldT Go.Proofs.Tryz.prog 27 4 = some (4, 3) := by kernel_rfl
theorem sz28 : szT Go.Proofs.Tryz.prog 28 = 5 := by kernel_rfl
theorem ag28 : aggT Go.Proofs.Tryz.prog 28 = true := by kernel_rfl
theorem ok28 : okT Go.Proofs.Tryz.prog 28 = true := by kernel_rfl
theorem zc28 : zeroC Go.Proofs.Tryz.prog 28 = some [.d (.i .i64 0), .d (.i .i64 0), .d (.i .i64 0), .d .nil, .d (.i .i64 0)] := by kernel_rfl
theorem zd28 : zeroD Go.Proofs.Tryz.prog 28 = some [.i .i64 0, .i .i64 0, .i .i64 0, .nil, .i .i64 0] := by kernel_rfl
theorem pl28 : placesT Go.Proofs.Tryz.prog 28 = some [(0, 1), (1, 1), (2, 1), (3, 1), (4, 1)] := by kernel_rfl
theorem by28 : byT Go.Proofs.Tryz.prog 28 = 56 := by kernel_rfl
theorem fl28_0 : fldT Go.Proofs.Tryz.prog 28 0 = some (0, 3) := by kernel_rfl
theorem fl28_1 : fldT Go.Proofs.Tryz.prog 28 1 = some (1, 3) := by kernel_rfl
theorem fl28_2 : fldT Go.Proofs.Tryz.prog 28 2 = some (2, 3) := by kernel_rfl
theorem fl28_3 : fldT Go.Proofs.Tryz.prog 28 3 = some (3, 26) := by kernel_rfl
theorem fl28_4 : fldT Go.Proofs.Tryz.prog 28 4 = some (4, 3) := by kernel_rfl
theorem sz29 : szT Go.Proofs.Tryz.prog 29 = 1 := by kernel_rfl
theorem ag29 : aggT Go.Proofs.Tryz.prog 29 = false := by kernel_rfl
theorem ok29 : okT Go.Proofs.Tryz.prog 29 = true := by kernel_rfl
theorem sl29 : slT Go.Proofs.Tryz.prog 29 = some 22 := by kernel_rfl
theorem zc29 : zeroC Go.Proofs.Tryz.prog 29 = some [.d .nil] := by kernel_rfl
theorem zd29 : zeroD Go.Proofs.Tryz.prog 29 = some [.nil] := by kernel_rfl
theorem by29 : byT Go.Proofs.Tryz.prog 29 = 24 := by kernel_rfl
theorem sz32 : szT Go.Proofs.Tryz.prog 32 = 1 := by kernel_rfl
theorem ag32 : aggT Go.Proofs.Tryz.prog 32 = false := by kernel_rfl
theorem ok32 : okT Go.Proofs.Tryz.prog 32 = true := by kernel_rfl
theorem sl32 : slT Go.Proofs.Tryz.prog 32 = some 29 := by kernel_rfl
theorem zc32 : zeroC Go.Proofs.Tryz.prog 32 = some [.d .nil] := by kernel_rfl
theorem zd32 : zeroD Go.Proofs.Tryz.prog 32 = some [.nil] := by kernel_rfl
theorem by32 : byT Go.Proofs.Tryz.prog 32 = 24 := by kernel_rfl
theorem sz33 : szT Go.Proofs.Tryz.prog 33 = 1 := by kernel_rfl
theorem ag33 : aggT Go.Proofs.Tryz.prog 33 = false := by kernel_rfl
theorem ok33 : okT Go.Proofs.Tryz.prog 33 = true := by kernel_rfl
theorem kk33 : kT Go.Proofs.Tryz.prog 33 = some .i64 := by kernel_rfl
theorem iu33 : (Go.Proofs.Tryz.prog.underlying 33).isSome = true := by kernel_rfl
theorem zc33 : zeroC Go.Proofs.Tryz.prog 33 = some [.d (.i .i64 0)] := by kernel_rfl
theorem zd33 : zeroD Go.Proofs.Tryz.prog 33 = some [.i .i64 0] := by kernel_rfl
theorem by33 : byT Go.Proofs.Tryz.prog 33 = 8 := by kernel_rfl
theorem sz36 : szT Go.Proofs.Tryz.prog 36 = 2 := by kernel_rfl
theorem ag36 : aggT Go.Proofs.Tryz.prog 36 = true := by kernel_rfl
theorem ok36 : okT Go.Proofs.Tryz.prog 36 = true := by kernel_rfl
theorem zc36 : zeroC Go.Proofs.Tryz.prog 36 = some [.d .nil, .d (.i .i64 0)] := by kernel_rfl
theorem zd36 : zeroD Go.Proofs.Tryz.prog 36 = some [.nil, .i .i64 0] := by kernel_rfl
theorem pl36 : placesT Go.Proofs.Tryz.prog 36 = some [(0, 1), (1, 1)] := by kernel_rfl
theorem by36 : byT Go.Proofs.Tryz.prog 36 = 32 := by kernel_rfl
theorem fl36_0 : fldT Go.Proofs.Tryz.prog 36 0 = some (0, 32) := by kernel_rfl
theorem fl36_1 : fldT Go.Proofs.Tryz.prog 36 1 = some (1, 33) := by kernel_rfl
theorem sz37 : szT Go.Proofs.Tryz.prog 37 = 2 := by kernel_rfl
theorem ag37 : aggT Go.Proofs.Tryz.prog 37 = true := by kernel_rfl
theorem ok37 : okT Go.Proofs.Tryz.prog 37 = true := by kernel_rfl
theorem zc37 : zeroC Go.Proofs.Tryz.prog 37 = some [.d .nil, .d (.i .i64 0)] := by kernel_rfl
theorem zd37 : zeroD Go.Proofs.Tryz.prog 37 = some [.nil, .i .i64 0] := by kernel_rfl
theorem pl37 : placesT Go.Proofs.Tryz.prog 37 = some [(0, 1), (1, 1)] := by kernel_rfl
theorem by37 : byT Go.Proofs.Tryz.prog 37 = 32 := by kernel_rfl
theorem fl37_0 : fldT Go.Proofs.Tryz.prog 37 0 = some (0, 32) := by kernel_rfl
theorem fl37_1 : fldT Go.Proofs.Tryz.prog 37 1 = some (1, 33) := by kernel_rfl
theorem sz49 : szT Go.Proofs.Tryz.prog 49 = 15 := by kernel_rfl
theorem ag49 : aggT Go.Proofs.Tryz.prog 49 = true := by kernel_rfl
theorem ok49 : okT Go.Proofs.Tryz.prog 49 = true := by kernel_rfl
theorem zc49 : zeroC Go.Proofs.Tryz.prog 49 = some [.d (.i .i64 0), .d .nil, .d (.i .i64 0), .d (.i .i64 0), .d (.i .i64 0), .d (.i .i64 0), .d (.i .i64 0), .d (.i .i64 0), .d .nil, .d .nil, .d (.i .i64 0), .d (.i .i64 0), .d (.i .i64 0), .d (.i .i64 0), .d (.i .i64 0)] := by kernel_rfl
theorem zd49 : zeroD Go.Proofs.Tryz.prog 49 = some [.i .i64 0, .nil, .i .i64 0, .i .i64 0, .i .i64 0, .i .i64 0, .i .i64 0, .i .i64 0, .nil, .nil, .i .i64 0, .i .i64 0, .i .i64 0, .i .i64 0, .i .i64 0] := by kernel_rfl
theorem pl49 : placesT Go.Proofs.Tryz.prog 49 = some [(0, 1), (1, 1), (2, 1), (3, 1), (4, 1), (5, 1), (6, 1), (7, 1), (8, 1), (9, 1), (10, 1), (11, 1), (12, 1), (13, 1), (14, 1)] := by kernel_rfl
theorem by49 : byT Go.Proofs.Tryz.prog 49 = 168 := by kernel_rfl
theorem fl49_0 : fldT Go.Proofs.Tryz.prog 49 0 = some (0, 3) := by kernel_rfl
theorem fl49_1 : fldT Go.Proofs.Tryz.prog 49 1 = some (1, 22) := by kernel_rfl
theorem fl49_2 : fldT Go.Proofs.Tryz.prog 49 2 = some (2, 3) := by kernel_rfl
theorem fl49_3 : fldT Go.Proofs.Tryz.prog 49 3 = some (3, 3) := by kernel_rfl
theorem fl49_4 : fldT Go.Proofs.Tryz.prog 49 4 = some (4, 3) := by kernel_rfl
theorem fl49_5 : fldT Go.Proofs.Tryz.prog 49 5 = some (5, 3) := by kernel_rfl
theorem fl49_6 : fldT Go.Proofs.Tryz.prog 49 6 = some (6, 3) := by kernel_rfl
theorem fl49_7 : fldT Go.Proofs.Tryz.prog 49 7 = some (7, 3) := by kernel_rfl
theorem fl49_8 : fldT Go.Proofs.Tryz.prog 49 8 = some (8, 22) := by kernel_rfl
theorem fl49_9 : fldT Go.Proofs.Tryz.prog 49 9 = some (9, 22) := by kernel_rfl
theorem fl49_10 : fldT Go.Proofs.Tryz.prog 49 10 = some (10, 3) := by kernel_rfl
theorem fl49_11 : fldT Go.Proofs.Tryz.prog 49 11 = some (11, 3) := by kernel_rfl
theorem fl49_12 : fldT Go.Proofs.Tryz.prog 49 12 = some (12, 3) := by kernel_rfl
theorem fl49_13 : fldT Go.Proofs.Tryz.prog 49 13 = some (13, 3) := by kernel_rfl
theorem fl49_14 : fldT Go.Proofs.Tryz.prog 49 14 = some (14, 3) := by kernel_rfl
theorem sz50 : szT Go.Proofs.Tryz.prog 50 = 15 := by kernel_rfl
theorem ag50 : aggT Go.Proofs.Tryz.prog 50 = true := by kernel_rfl
theorem ok50 : okT Go.Proofs.Tryz.prog 50 = true := by kernel_rfl
theorem zc50 : zeroC Go.Proofs.Tryz.prog 50 = some [.d (.i .i64 0), .d .nil, .d (.i .i64 0), .d (.i .i64 0), .d (.i .i64 0), .d (.i .i64 0), .d (.i .i64 0), .d (.i .i64 0), .d .nil, .d .nil, .d (.i .i64 0), .d (.i .i64 0), .d (.i .i64 0), .d (.i .i64 0), .d (.i .i64 0)] := by kernel_rfl
theorem zd50 : zeroD Go.Proofs.Tryz.prog 50 = some [.i .i64 0, .nil, .i .i64 0, .i .i64 0, .i .i64 0, .i .i64 0, .i .i64 0, .i .i64 0, .nil, .nil, .i .i64 0, .i .i64 0, .i .i64 0, .i .i64 0, .i .i64 0] := by kernel_rfl
theorem pl50 : placesT Go.Proofs.Tryz.prog 50 = some [(0, 1), (1, 1), (2, 1), (3, 1), (4, 1), (5, 1), (6, 1), (7, 1), (8, 1), (9, 1), (10, 1), (11, 1), (12, 1), (13, 1), (14, 1)] := by kernel_rfl
theorem by50 : byT Go.Proofs.Tryz.prog 50 = 168 := by kernel_rfl
theorem fl50_0 : fldT Go.Proofs.Tryz.prog 50 0 = some (0, 3) := by kernel_rfl
theorem fl50_1 : fldT Go.Proofs.Tryz.prog 50 1 = some (1, 22) := by kernel_rfl
theorem fl50_2 : fldT Go.Proofs.Tryz.prog 50 2 = some (2, 3) := by kernel_rfl
theorem fl50_3 : fldT Go.Proofs.Tryz.prog 50 3 = some (3, 3) := by kernel_rfl
theorem fl50_4 : fldT Go.Proofs.Tryz.prog 50 4 = some (4, 3) := by kernel_rfl
theorem fl50_5 : fldT Go.Proofs.Tryz.prog 50 5 = some (5, 3) := by kernel_rfl
theorem fl50_6 : fldT Go.Proofs.Tryz.prog 50 6 = some (6, 3) := by kernel_rfl
theorem fl50_7 : fldT Go.Proofs.Tryz.prog 50 7 = some (7, 3) := by kernel_rfl
theorem fl50_8 : fldT Go.Proofs.Tryz.prog 50 8 = some (8, 22) := by kernel_rfl
theorem fl50_9 : fldT Go.Proofs.Tryz.prog 50 9 = some (9, 22) := by kernel_rfl
theorem fl50_10 : fldT Go.Proofs.Tryz.prog 50 10 = some (10, 3) := by kernel_rfl
theorem fl50_11 : fldT Go.Proofs.Tryz.prog 50 11 = some (11, 3) := by kernel_rfl
theorem fl50_12 : fldT Go.Proofs.Tryz.prog 50 12 = some (12, 3) := by kernel_rfl
theorem fl50_13 : fldT Go.Proofs.Tryz.prog 50 13 = some (13, 3) := by kernel_rfl
theorem fl50_14 : fldT Go.Proofs.Tryz.prog 50 14 = some (14, 3) := by kernel_rfl
theorem sz53 : szT Go.Proofs.Tryz.prog 53 = 1 := by kernel_rfl
theorem ag53 : aggT Go.Proofs.Tryz.prog 53 = false := by kernel_rfl
theorem ok53 : okT Go.Proofs.Tryz.prog 53 = true := by kernel_rfl
theorem zc53 : zeroC Go.Proofs.Tryz.prog 53 = some [.any] := by kernel_rfl
theorem by53 : byT Go.Proofs.Tryz.prog 53 = 8 := by kernel_rfl
theorem sz55 : szT Go.Proofs.Tryz.prog 55 = 7 := by kernel_rfl
theorem ag55 : aggT Go.Proofs.Tryz.prog 55 = true := by kernel_rfl
theorem ok55 : okT Go.Proofs.Tryz.prog 55 = true := by kernel_rfl
theorem zc55 : zeroC Go.Proofs.Tryz.prog 55 = some [.d (.i .i64 0), .d (.i .i64 0), .d (.i .i64 0), .d .nil, .d (.i .i64 0), .d .nil, .d .nil] := by kernel_rfl
theorem zd55 : zeroD Go.Proofs.Tryz.prog 55 = some [.i .i64 0, .i .i64 0, .i .i64 0, .nil, .i .i64 0, .nil, .nil] := by kernel_rfl
theorem pl55 : placesT Go.Proofs.Tryz.prog 55 = some [(0, 5), (5, 1), (6, 1)] := by kernel_rfl
theorem by55 : byT Go.Proofs.Tryz.prog 55 = 104 := by kernel_rfl
theorem fl55_0 : fldT Go.Proofs.Tryz.prog 55 0 = some (0, 28) := by kernel_rfl
theorem fl55_1 : fldT Go.Proofs.Tryz.prog 55 1 = some (5, 22) := by kernel_rfl
theorem fl55_2 : fldT Go.Proofs.Tryz.prog 55 2 = some (6, 32) := by kernel_rfl
theorem sz56 : szT Go.Proofs.Tryz.prog 56 = 7 := by kernel_rfl
theorem ag56 : aggT Go.Proofs.Tryz.prog 56 = true := by kernel_rfl
theorem ok56 : okT Go.Proofs.Tryz.prog 56 = true := by kernel_rfl
theorem zc56 : zeroC Go.Proofs.Tryz.prog 56 = some [.d (.i .i64 0), .d (.i .i64 0), .d (.i .i64 0), .d .nil, .d (.i .i64 0), .d .nil, .d .nil] := by kernel_rfl
theorem zd56 : zeroD Go.Proofs.Tryz.prog 56 = some [.i .i64 0, .i .i64 0, .i .i64 0, .nil, .i .i64 0, .nil, .nil] := by kernel_rfl
theorem pl56 : placesT Go.Proofs.Tryz.prog 56 = some [(0, 5), (5, 1), (6, 1)] := by kernel_rfl
theorem by56 : byT Go.Proofs.Tryz.prog 56 = 104 := by kernel_rfl
theorem fl56_0 : fldT Go.Proofs.Tryz.prog 56 0 = some (0, 28) := by kernel_rfl
theorem fl56_1 : fldT Go.Proofs.Tryz.prog 56 1 = some (5, 22) := by kernel_rfl
theorem fl56_2 : fldT Go.Proofs.Tryz.prog 56 2 = some (6, 32) := by kernel_rfl
theorem sz58 : szT Go.Proofs.Tryz.prog 58 = 4 := by kernel_rfl
theorem ag58 : aggT Go.Proofs.Tryz.prog 58 = true := by kernel_rfl
theorem ok58 : okT Go.Proofs.Tryz.prog 58 = true := by kernel_rfl
theorem zc58 : zeroC Go.Proofs.Tryz.prog 58 = some [.d .nil, .d .nil, .d .nil, .d (.i .i64 0)] := by kernel_rfl
theorem zd58 : zeroD Go.Proofs.Tryz.prog 58 = some [.nil, .nil, .nil, .i .i64 0] := by kernel_rfl
theorem pl58 : placesT Go.Proofs.Tryz.prog 58 = some [(0, 1), (1, 1), (2, 1), (3, 1)] := by kernel_rfl
theorem by58 : byT Go.Proofs.Tryz.prog 58 = 80 := by kernel_rfl
theorem fl58_0 : fldT Go.Proofs.Tryz.prog 58 0 = some (0, 22) := by kernel_rfl
theorem fl58_1 : fldT Go.Proofs.Tryz.prog 58 1 = some (1, 22) := by kernel_rfl
theorem fl58_2 : fldT Go.Proofs.Tryz.prog 58 2 = some (2, 22) := by kernel_rfl
theorem fl58_3 : fldT Go.Proofs.Tryz.prog 58 3 = some (3, 33) := by kernel_rfl
theorem sz59 : szT Go.Proofs.Tryz.prog 59 = 4 := by kernel_rfl
theorem ag59 : aggT Go.Proofs.Tryz.prog 59 = true := by kernel_rfl
theorem ok59 : okT Go.Proofs.Tryz.prog 59 = true := by kernel_rfl
theorem zc59 : zeroC Go.Proofs.Tryz.prog 59 = some [.d .nil, .d .nil, .d .nil, .d (.i .i64 0)] := by kernel_rfl
theorem zd59 : zeroD Go.Proofs.Tryz.prog 59 = some [.nil, .nil, .nil, .i .i64 0] := by kernel_rfl
theorem pl59 : placesT Go.Proofs.Tryz.prog 59 = some [(0, 1), (1, 1), (2, 1), (3, 1)] := by kernel_rfl
theorem by59 : byT Go.Proofs.Tryz.prog 59 = 80 := by kernel_rfl
theorem fl59_0 : fldT Go.Proofs.Tryz.prog 59 0 = some (0, 22) := by kernel_rfl
theorem fl59_1 : fldT Go.Proofs.Tryz.prog 59 1 = some (1, 22) := by kernel_rfl
theorem fl59_2 : fldT Go.Proofs.Tryz.prog 59 2 = some (2, 22) := by kernel_rfl
theorem fl59_3 : fldT Go.Proofs.Tryz.prog 59 3 = some (3, 33) := by kernel_rfl
theorem sz66 : szT Go.Proofs.Tryz.prog 66 = 3 := by kernel_rfl
theorem ag66 : aggT Go.Proofs.Tryz.prog 66 = true := by kernel_rfl
theorem ok66 : okT Go.Proofs.Tryz.prog 66 = true := by kernel_rfl
theorem zc66 : zeroC Go.Proofs.Tryz.prog 66 = some [.d .nil, .d .nil, .d .nil] := by kernel_rfl
theorem zd66 : zeroD Go.Proofs.Tryz.prog 66 = some [.nil, .nil, .nil] := by kernel_rfl
theorem pl66 : placesT Go.Proofs.Tryz.prog 66 = some [(0, 1), (1, 1), (2, 1)] := by kernel_rfl
theorem by66 : byT Go.Proofs.Tryz.prog 66 = 72 := by kernel_rfl
theorem fl66_0 : fldT Go.Proofs.Tryz.prog 66 0 = some (0, 22) := by kernel_rfl
theorem fl66_1 : fldT Go.Proofs.Tryz.prog 66 1 = some (1, 22) := by kernel_rfl
theorem fl66_2 : fldT Go.Proofs.Tryz.prog 66 2 = some (2, 22) := by kernel_rfl
theorem sz67 : szT Go.Proofs.Tryz.prog 67 = 3 := by kernel_rfl
theorem ag67 : aggT Go.Proofs.Tryz.prog 67 = true := by kernel_rfl
theorem ok67 : okT Go.Proofs.Tryz.prog 67 = true := by kernel_rfl
theorem zc67 : zeroC Go.Proofs.Tryz.prog 67 = some [.d .nil, .d .nil, .d .nil] := by kernel_rfl
theorem zd67 : zeroD Go.Proofs.Tryz.prog 67 = some [.nil, .nil, .nil] := by kernel_rfl
theorem pl67 : placesT Go.Proofs.Tryz.prog 67 = some [(0, 1), (1, 1), (2, 1)] := by kernel_rfl
theorem by67 : byT Go.Proofs.Tryz.prog 67 = 72 := by kernel_rfl
theorem fl67_0 : fldT Go.Proofs.Tryz.prog 67 0 = some (0, 22) := by kernel_rfl
theorem fl67_1 : fldT Go.Proofs.Tryz.prog 67 1 = some (1, 22) := by kernel_rfl
theorem fl67_2 : fldT Go.Proofs.Tryz.prog 67 2 = some (2, 22) := by kernel_rfl
theorem sz79 : szT Go.Proofs.Tryz.prog 79 = 1 := by kernel_rfl
theorem ag79 : aggT Go.Proofs.Tryz.prog 79 = false := by kernel_rfl
theorem ok79 : okT Go.Proofs.Tryz.prog 79 = true := by kernel_rfl
theorem zc79 : zeroC Go.Proofs.Tryz.prog 79 = some [.any] := by kernel_rfl
theorem by79 : byT Go.Proofs.Tryz.prog 79 = 8 := by kernel_rfl
theorem sz80 : szT Go.Proofs.Tryz.prog 80 = 2 := by kernel_rfl
theorem ag80 : aggT Go.Proofs.Tryz.prog 80 = true := by kernel_rfl
theorem ok80 : okT Go.Proofs.Tryz.prog 80 = true := by kernel_rfl
theorem zc80 : zeroC Go.Proofs.Tryz.prog 80 = some [.d .nil, .d (.i .i64 0)] := by kernel_rfl
theorem zd80 : zeroD Go.Proofs.Tryz.prog 80 = some [.nil, .i .i64 0] := by kernel_rfl
theorem pl80 : placesT Go.Proofs.Tryz.prog 80 = some [(0, 1), (1, 1)] := by kernel_rfl
theorem by80 : byT Go.Proofs.Tryz.prog 80 = 32 := by kernel_rfl
theorem fl80_0 : fldT Go.Proofs.Tryz.prog 80 0 = some (0, 22) := by kernel_rfl
theorem fl80_1 : fldT Go.Proofs.Tryz.prog 80 1 = some (1, 3) := by kernel_rfl
theorem sz81 : szT Go.Proofs.Tryz.prog 81 = 2 := by kernel_rfl
theorem ag81 : aggT Go.Proofs.Tryz.prog 81 = true := by kernel_rfl
theorem ok81 : okT Go.Proofs.Tryz.prog 81 = true := by kernel_rfl
theorem zc81 : zeroC Go.Proofs.Tryz.prog 81 = some [.d .nil, .d (.i .i64 0)] := by kernel_rfl
theorem zd81 : zeroD Go.Proofs.Tryz.prog 81 = some [.nil, .i .i64 0] := by kernel_rfl
theorem pl81 : placesT Go.Proofs.Tryz.prog 81 = some [(0, 1), (1, 1)] := by kernel_rfl
theorem by81 : byT Go.Proofs.Tryz.prog 81 = 32 := by kernel_rfl
theorem fl81_0 : fldT Go.Proofs.Tryz.prog 81 0 = some (0, 22) := by kernel_rfl
theorem fl81_1 : fldT Go.Proofs.Tryz.prog 81 1 = some (1, 3) := by kernel_rfl
theorem sz105 : szT Go.Proofs.Tryz.prog 105 = 12 := by kernel_rfl
theorem ag105 : aggT Go.Proofs.Tryz.prog 105 = true := by kernel_rfl
theorem ok105 : okT Go.Proofs.Tryz.prog 105 = true := by kernel_rfl
theorem sl105 : slT Go.Proofs.Tryz.prog 105 = none := by kernel_rfl
theorem ar105 : arT Go.Proofs.Tryz.prog 105 = some (12, 3) := by kernel_rfl
theorem zc105 : zeroC Go.Proofs.Tryz.prog 105 = some [.d (.i .i64 0), .d (.i .i64 0), .d (.i .i64 0), .d (.i .i64 0), .d (.i .i64 0), .d (.i .i64 0), .d (.i .i64 0), .d (.i .i64 0), .d (.i .i64 0), .d (.i .i64 0), .d (.i .i64 0), .d (.i .i64 0)] := by kernel_rfl
theorem zd105 : zeroD Go.Proofs.Tryz.prog 105 = some [.i .i64 0, .i .i64 0, .i .i64 0, .i .i64 0, .i .i64 0, .i .i64 0, .i .i64 0, .i .i64 0, .i .i64 0, .i .i64 0, .i .i64 0, .i .i64 0] := by kernel_rfl
theorem pl105 : placesT Go.Proofs.Tryz.prog 105 = some [(0, 1), (1, 1), (2, 1), (3, 1), (4, 1), (5, 1), (6, 1), (7, 1), (8, 1), (9, 1), (10, 1), (11, 1)] := by kernel_rfl
theorem by105 : byT Go.Proofs.Tryz.prog 105 = 96 := by kernel_rfl
theorem sz108 : szT Go.Proofs.Tryz.prog 108 = 13 := by kernel_rfl
theorem ag108 : aggT Go.Proofs.Tryz.prog 108 = true := by kernel_rfl
theorem ok108 : okT Go.Proofs.Tryz.prog 108 = true := by kernel_rfl
theorem sl108 : slT Go.Proofs.Tryz.prog 108 = none := by kernel_rfl
theorem ar108 : arT Go.Proofs.Tryz.prog 108 = some (13, 3) := by kernel_rfl
theorem zc108 : zeroC Go.Proofs.Tryz.prog 108 = some [.d (.i .i64 0), .d (.i .i64 0), .d (.i .i64 0), .d (.i .i64 0), .d (.i .i64 0), .d (.i .i64 0), .d (.i .i64 0), .d (.i .i64 0), .d (.i .i64 0), .d (.i .i64 0), .d (.i .i64 0), .d (.i .i64 0), .d (.i .i64 0)] := by kernel_rfl
theorem zd108 : zeroD Go.Proofs.Tryz.prog 108 = some [.i .i64 0, .i .i64 0, .i .i64 0, .i .i64 0, .i .i64 0, .i .i64 0, .i .i64 0, .i .i64 0, .i .i64 0, .i .i64 0, .i .i64 0, .i .i64 0, .i .i64 0] := by kernel_rfl
theorem pl108 : placesT Go.Proofs.Tryz.prog 108 = some [(0, 1), (1, 1), (2, 1), (3, 1), (4, 1), (5, 1), (6, 1), (7, 1), (8, 1), (9, 1), (10, 1), (11, 1), (12, 1)] := by kernel_rfl
theorem by108 : byT Go.Proofs.Tryz.prog 108 = 104 := by kernel_rfl
theorem sz109 : szT Go.Proofs.Tryz.prog 109 = 1 := by kernel_rfl
theorem ag109 : aggT Go.Proofs.Tryz.prog 109 = false := by kernel_rfl
theorem ok109 : okT Go.Proofs.Tryz.prog 109 = true := by kernel_rfl
theorem zc109 : zeroC Go.Proofs.Tryz.prog 109 = some [.any] := by kernel_rfl
theorem by109 : byT Go.Proofs.Tryz.prog 109 = 8 := by kernel_rfl
theorem sz115 : szT Go.Proofs.Tryz.prog 115 = 2 := by kernel_rfl
theorem ag115 : aggT Go.Proofs.Tryz.prog 115 = true := by kernel_rfl
theorem ok115 : okT Go.Proofs.Tryz.prog 115 = true := by kernel_rfl
theorem zc115 : zeroC Go.Proofs.Tryz.prog 115 = some [.d (.i .i64 0), .d (.b false)] := by kernel_rfl
theorem zd115 : zeroD Go.Proofs.Tryz.prog 115 = some [.i .i64 0, .b false] := by kernel_rfl
theorem pl115 : placesT Go.Proofs.Tryz.prog 115 = some [(0, 1), (1, 1)] := by kernel_rfl
theorem by115 : byT Go.Proofs.Tryz.prog 115 = 16 := by kernel_rfl
theorem fl115_0 : fldT Go.Proofs.Tryz.prog 115 0 = some (0, 3) := by kernel_rfl
theorem fl115_1 : fldT Go.Proofs.Tryz.prog 115 1 = some (1, 4) := by kernel_rfl
theorem sz116 : szT Go.Proofs.Tryz.prog 116 = 2 := by kernel_rfl
theorem ag116 : aggT Go.Proofs.Tryz.prog 116 = true := by kernel_rfl
theorem ok116 : okT Go.Proofs.Tryz.prog 116 = true := by kernel_rfl
theorem zc116 : zeroC Go.Proofs.Tryz.prog 116 = some [.d (.i .i64 0), .d (.b false)] := by kernel_rfl
theorem zd116 : zeroD Go.Proofs.Tryz.prog 116 = some [.i .i64 0, .b false] := by kernel_rfl
theorem pl116 : placesT Go.Proofs.Tryz.prog 116 = some [(0, 1), (1, 1)] := by kernel_rfl
theorem by116 : byT Go.Proofs.Tryz.prog 116 = 16 := by kernel_rfl
theorem fl116_0 : fldT Go.Proofs.Tryz.prog 116 0 = some (0, 3) := by kernel_rfl
theorem fl116_1 : fldT Go.Proofs.Tryz.prog 116 1 = some (1, 4) := by kernel_rfl
theorem sz120 : szT Go.Proofs.Tryz.prog 120 = 2 := by kernel_rfl
theorem ag120 : aggT Go.Proofs.Tryz.prog 120 = true := by kernel_rfl
theorem ok120 : okT Go.Proofs.Tryz.prog 120 = true := by kernel_rfl
theorem zc120 : zeroC Go.Proofs.Tryz.prog 120 = some [.d (.i .i64 0), .d (.b false)] := by kernel_rfl
theorem zd120 : zeroD Go.Proofs.Tryz.prog 120 = some [.i .i64 0, .b false] := by kernel_rfl
theorem pl120 : placesT Go.Proofs.Tryz.prog 120 = some [(0, 1), (1, 1)] := by kernel_rfl
theorem by120 : byT Go.Proofs.Tryz.prog 120 = 16 := by kernel_rfl
theorem fl120_0 : fldT Go.Proofs.Tryz.prog 120 0 = some (0, 3) := by kernel_rfl
theorem fl120_1 : fldT Go.Proofs.Tryz.prog 120 1 = some (1, 4) := by kernel_rfl
theorem sz121 : szT Go.Proofs.Tryz.prog 121 = 12 := by kernel_rfl
theorem ag121 : aggT Go.Proofs.Tryz.prog 121 = true := by kernel_rfl
theorem ok121 : okT Go.Proofs.Tryz.prog 121 = true := by kernel_rfl
theorem sl121 : slT Go.Proofs.Tryz.prog 121 = none := by kernel_rfl
theorem ar121 : arT Go.Proofs.Tryz.prog 121 = some (6, 120) := by kernel_rfl
theorem zc121 : zeroC Go.Proofs.Tryz.prog 121 = some [.d (.i .i64 0), .d (.b false), .d (.i .i64 0), .d (.b false), .d (.i .i64 0), .d (.b false), .d (.i .i64 0), .d (.b false), .d (.i .i64 0), .d (.b false), .d (.i .i64 0), .d (.b false)] := by kernel_rfl
theorem zd121 : zeroD Go.Proofs.Tryz.prog 121 = some [.i .i64 0, .b false, .i .i64 0, .b false, .i .i64 0, .b false, .i .i64 0, .b false, .i .i64 0, .b false, .i .i64 0, .b false] := by kernel_rfl
theorem pl121 : placesT Go.Proofs.Tryz.prog 121 = some [(0, 2), (2, 2), (4, 2), (6, 2), (8, 2), (10, 2)] := by kernel_rfl
theorem by121 : byT Go.Proofs.Tryz.prog 121 = 96 := by kernel_rfl
theorem sz124 : szT Go.Proofs.Tryz.prog 124 = 1 := by kernel_rfl
theorem ag124 : aggT Go.Proofs.Tryz.prog 124 = false := by kernel_rfl
theorem ok124 : okT Go.Proofs.Tryz.prog 124 = true := by kernel_rfl
theorem kk124 : kT Go.Proofs.Tryz.prog 124 = some .u64 := by kernel_rfl
theorem iu124 : (Go.Proofs.Tryz.prog.underlying 124).isSome = true := by kernel_rfl
theorem zc124 : zeroC Go.Proofs.Tryz.prog 124 = some [.d (.i .u64 0)] := by kernel_rfl
theorem zd124 : zeroD Go.Proofs.Tryz.prog 124 = some [.i .u64 0] := by kernel_rfl
theorem by124 : byT Go.Proofs.Tryz.prog 124 = 8 := by kernel_rfl
theorem sz133 : szT Go.Proofs.Tryz.prog 133 = 1 := by kernel_rfl
theorem ag133 : aggT Go.Proofs.Tryz.prog 133 = false := by kernel_rfl
theorem ok133 : okT Go.Proofs.Tryz.prog 133 = true := by kernel_rfl
theorem kk133 : kT Go.Proofs.Tryz.prog 133 = some .u32 := by kernel_rfl
theorem iu133 : (Go.Proofs.Tryz.prog.underlying 133).isSome = true := by kernel_rfl
theorem zc133 : zeroC Go.Proofs.Tryz.prog 133 = some [.d (.i .u32 0)] := by kernel_rfl
theorem zd133 : zeroD Go.Proofs.Tryz.prog 133 = some [.i .u32 0] := by kernel_rfl
theorem by133 : byT Go.Proofs.Tryz.prog 133 = 4 := by kernel_rfl
theorem sz137 : szT Go.Proofs.Tryz.prog 137 = 1 := by kernel_rfl
theorem ag137 : aggT Go.Proofs.Tryz.prog 137 = false := by kernel_rfl
theorem ok137 : okT Go.Proofs.Tryz.prog 137 = true := by kernel_rfl
theorem zc137 : zeroC Go.Proofs.Tryz.prog 137 = some [.any] := by kernel_rfl
theorem by137 : byT Go.Proofs.Tryz.prog 137 = 8 := by kernel_rfl
end Go.Proofs.YtgomeljgbjgbkaaGreatDoor.Aw
namespace Go.Proofs.YtgomeljgbjgbkaaGreatDoor.Aw
open Go.RowKit
/-! kinds: what the functions of layer 14 compute, and that both texts agree -/
def mx (x y : Int) : Int := if y > x then y else x
def mn (x y : Int) : Int := if y < x then y else x
/-- a node's own numbers and rows -/
structure Nd where
  k : Int
  inn : List Int
  wid : Int
  size : Int
  step : Int
  gap : Int
  left : Int
  right : Int
  ws : List Int
  bs : List Int
  mult : Int
  shift : Int
  low : Int
  high : Int
  post : Int
def has1 (t post : Int) : Int := if (Go.bits .and .i64 post 1 != 0) = true then Go.bits .or .i64 t 64 else t
def has2 (t post : Int) : Int := if (Go.bits .and .i64 post 2 != 0) = true then Go.bits .or .i64 t 32 else t
def hasT (k : Int) : Int := ([0, 7, 5, 1, 1, 0, 6, 8, 8, 32, 64, 0, 16] : List Int).getD k.toNat 0
def Nd.has (n : Nd) (x : Int) : Bool := if n.k < 1 then false else if 13 ≤ n.k then false else Go.bits .and .i64 (has2 (has1 (hasT n.k) n.post) n.post) x != 0
def Nd.span (n : Nd) : Int := if n.has 1 = true then wrap64 (wrap64 (wrap64 (n.size - 1) * n.gap) + 1) else if n.has 16 = true then n.size else 1
def Nd.stp (n : Nd) : Int := if n.has 1 = true then n.step else 1
def Nd.padL (n : Nd) : Int := if n.has 1 = true then n.left else if n.has 16 = true then wrap64 (n.size - 1) else 0
def Nd.padR (n : Nd) : Int := if n.has 1 = true then n.right else 0
def Nd.first (n : Nd) (i : Int) : Int := wrap64 (wrap64 (i * n.stp) - n.padL)
def Nd.ends (n : Nd) (t : Int) : Int := if t ≤ wrap64 (wrap64 (n.first 0 + n.span) - 1) then 0 else wrap64 (wrap64 (Int.tdiv (wrap64 (wrap64 (t - 1) - wrap64 (wrap64 (n.first 0 + n.span) - 1))) n.stp) + 1)
def rFour (k : Int) : Bool := k == 1 || k == 2 || k == 3 || k == 4
def rWin (k : Int) : Bool := k == 1 || k == 2 || k == 3 || k == 4 || k == 12
def rMany (k : Int) : Bool := k == 7 || k == 8
def rWeighs (k : Int) : Bool := k == 1 || k == 2 || k == 6
def inB (x lo hi : Int) : Bool := decide (lo ≤ x) && decide (x ≤ hi)
def Nd.rSpan (n : Nd) : Int := if (n.k == 12) = true then n.size else if (!rWin n.k) = true then 1 else wrap64 (wrap64 (wrap64 (n.size - 1) * n.gap) + 1)
def Nd.rStp (n : Nd) : Int := if rFour n.k = true then n.step else 1
def Nd.rLeft (n : Nd) : Int := if (n.k == 12) = true then wrap64 (n.size - 1) else if rFour n.k = true then n.left else 0
def Nd.rRight (n : Nd) : Int := if rFour n.k = true then n.right else 0
def Nd.rFirst (n : Nd) (i : Int) : Int := wrap64 (wrap64 (i * n.rStp) - n.rLeft)
def fewestV : List Int → Int
  | [] => 0
  | x :: l => mx ((x :: l).foldl mn x) 0
def Nd.ready (n : Nd) (l : List Int) : Int := if (n.k == 5) = true then 0 else if (decide (0 < fewestV l) && n.has 17) = true then n.ends (fewestV l) else fewestV l
def Nd.count (n : Nd) (l : List Int) : Int := if (fewestV l == 0) = true then 0 else if n.has 17 = true then n.ends (wrap64 (fewestV l + n.padR)) else if (n.k == 5) = true then 1 else fewestV l
def Nd.bare (n : Nd) : Bool := if ((n.step != 0 || n.gap != 0 || n.left != 0 || n.right != 0) && !n.has 1) = true then false else if ((n.size != 0) && !n.has 17) = true then false else if ((n.wid != 0) && !n.has 2) = true then false else if ((decide (0 < n.ws.length) || decide (0 < n.bs.length)) && !n.has 4) = true then false else if ((n.low != 0 || n.high != 0) && !n.has 32) = true then false else if ((n.mult != 0 || n.shift != 0) && !n.has 64) = true then false else true
def Nd.fit1 (n : Nd) : Bool := n.has 17 && !inB n.size 1 8 || n.has 2 && !inB n.wid 1 16
def Nd.fit3 (n : Nd) : Bool := n.has 1 && (!inB n.step 1 4 || !inB n.gap 1 4 || !inB n.left 0 (wrap64 (n.span - 1)) || !inB n.right 0 (wrap64 (n.span - 1)))
def Nd.fit12 (n : Nd) (out each : Int) : Bool := (n.ws.length : Int) != wrap64 (out * each) || (n.bs.length : Int) != out || !(n.ws.all (inB · (-128) 127)) || !(n.bs.all (inB · (-16777216) 16777216))
def Nd.fit14 (n : Nd) : Bool := inB n.mult 0 32767 && inB n.shift 0 30 && inB n.low (-2147483648) n.high && inB n.high n.low 2147483647
def Nd.fitW (n : Nd) (out each : Int) : Bool := if n.fit12 out each = true then false else n.fit14
def Nd.fits (n : Nd) (v : Int) : Bool := if n.fit1 = true then false else if n.fit3 = true then false else if n.has 4 = true then (if (n.k == 2) = true then n.fitW v (wrap64 n.size) else if (n.k == 1) = true then n.fitW n.wid (wrap64 (v * n.size)) else n.fitW n.wid v) else n.fit14
def Nd.chk1 (n : Nd) (l : List Int) : Bool := (l.length : Int) != (n.inn.length : Int) || !(l.all (inB · 1 16))
def Nd.chk3 (n : Nd) : Bool := !inB n.k 1 12 || !inB n.post 0 3 || n.post != 0 && !n.has 4
def Nd.chk5 (n : Nd) (l : List Int) : Bool := n.has 8 && !inB (l.length : Int) 2 4 || !n.has 8 && (l.length : Int) != 1 || !n.bare
def Nd.chkL (n : Nd) (v : Int) : Int → List Int → Int
  | sm, [] => if (n.k == 8 && decide (16 < sm)) = true then 14 else 0
  | sm, x :: l => if (n.k == 7 && x != v) = true then 14 else n.chkL v (wrap64 (sm + x)) l
def Nd.chk (n : Nd) (l : List Int) : Int := if n.chk1 l = true then 1 else if n.chk3 = true then 12 else if n.chk5 l = true then 12 else if (!n.fits (rd l 0)) = true then 22 else n.chkL (rd l 0) 0 l
theorem Nd.chk5_nil (n : Nd) : n.chk5 [] = true := by unfold Nd.chk5; cases n.has 8 <;> simp [inB]
def Nd.rWeights (n : Nd) (v : Int) : Int := if (n.k == 1) = true then wrap64 (wrap64 (n.wid * n.size) * v) else if (n.k == 2) = true then wrap64 (v * n.size) else wrap64 (n.wid * v)
def Nd.bw (n : Nd) : Bool := n.k == 1 || n.k == 6
def Nd.bsc (n : Nd) : Bool := n.k == 10 || Go.bits .and .i64 n.post 1 == 1
def Nd.bcl (n : Nd) : Bool := n.k == 9 || Go.bits .and .i64 n.post 2 == 2
def Nd.e6 (n : Nd) : Bool := !rFour n.k && (n.step != 0 || n.gap != 0 || n.left != 0 || n.right != 0)
def Nd.e8 (n : Nd) : Bool := !rFour n.k && n.k != 12 && n.size != 0 || !n.bw && n.wid != 0
def Nd.e10 (n : Nd) : Bool := !rWeighs n.k && (decide (0 < n.ws.length) || decide (0 < n.bs.length))
def Nd.e12 (n : Nd) : Bool := (n.bsc || n.mult == 0 && n.shift == 0) && (n.bcl || n.low == 0 && n.high == 0)
def Nd.else0 (n : Nd) : Bool := if n.e6 = true then false else if n.e8 = true then false else if n.e10 = true then false else n.e12
def Nd.s4 (n : Nd) : Bool := (rFour n.k || n.k == 12) && !inB n.size 1 8
def Nd.s8 (n : Nd) : Bool := rFour n.k && (!inB n.step 1 4 || !inB n.gap 1 4)
def Nd.s10 (n : Nd) : Bool := rFour n.k && (decide (n.left < 0) || decide (n.rSpan ≤ n.left) || decide (n.right < 0) || decide (n.rSpan ≤ n.right))
def Nd.s13 (n : Nd) : Bool := (n.k == 1 || n.k == 6) && !inB n.wid 1 16
def Nd.s21 (n : Nd) (v many : Int) : Bool := (n.ws.length : Int) != n.rWeights v || (n.bs.length : Int) != many || !(n.ws.all (inB · (-128) 127)) || !(n.bs.all (inB · (-16777216) 16777216))
def Nd.s27 (n : Nd) : Bool := inB n.mult 0 32767 && inB n.shift 0 30 && inB n.low (-2147483648) 2147483647 && inB n.high (-2147483648) 2147483647 && decide (n.low ≤ n.high)
def Nd.sized (n : Nd) (v : Int) : Bool := if n.s4 = true then false else if n.s8 = true then false else if n.s10 = true then false else if n.s13 = true then false else
  if rWeighs n.k = true then (if (n.s21 v (if (n.k == 2) = true then v else n.wid)) = true then false else n.s27) else n.s27
def Nd.r7 (n : Nd) (l : List Int) : Bool := !inB n.k 1 12 || rMany n.k && (decide ((l.length : Int) < 2) || decide (4 < (l.length : Int))) || !rMany n.k && (l.length : Int) != 1
def Nd.r9 (n : Nd) : Bool := decide (n.post < 0) || decide (3 < n.post) || n.post != 0 && !rWeighs n.k
def Nd.rchk (n : Nd) (l : List Int) : Int := if n.chk1 l = true then 1 else if n.r7 l = true then 12 else if n.r9 = true then 12 else if (!n.else0) = true then 12 else if (!n.sized (rd l 0)) = true then 22 else n.chkL (rd l 0) 0 l
theorem Nd.r7_nil (n : Nd) : n.r7 [] = true := by unfold Nd.r7; cases rMany n.k <;> simp
def sumL : Int → List Int → Int
  | sm, [] => sm
  | sm, x :: l => sumL (wrap64 (sm + x)) l
def Nd.wide (n : Nd) (l : List Int) : Int := if (n.chk l != 0) = true then 0 else if n.has 2 = true then n.wid else if (n.k == 11) = true then 1 else if (n.k == 8) = true then sumL 0 l else rd l 0
theorem Nd.chk_ne (n : Nd) : n.chk [] ≠ 0 := by
  unfold Nd.chk
  rw [Nd.chk5_nil]
  cases n.chk1 [] <;> cases n.chk3 <;> simp
def Nd.rwide (n : Nd) (l : List Int) : Int := if (n.rchk l != 0) = true then 0 else if (n.k == 1 || n.k == 6) = true then n.wid else if (n.k == 11) = true then 1 else if (n.k != 8) = true then rd l 0 else sumL 0 l
def Nd.both (n : Nd) (l : List Int) : Bool := n.chk l == n.rchk l && n.wide l == n.rwide l
/-! the plain law: kind's check and the document's are the same -/
theorem has_eq (n : Nd) (x : Int) (hk : inB n.k 1 12 = true) : n.has x = (Go.bits .and .i64 (has2 (has1 (hasT n.k) n.post) n.post) x != 0) := by
  unfold inB at hk
  simp only [Bool.and_eq_true, decide_eq_true_eq] at hk
  unfold Nd.has
  rw [if_neg (by omega), if_neg (by omega)]
theorem cases12 {P : Int → Prop} (k : Int) (hk : inB k 1 12 = true) (h : P 1 ∧ P 2 ∧ P 3 ∧ P 4 ∧ P 5 ∧ P 6 ∧ P 7 ∧ P 8 ∧ P 9 ∧ P 10 ∧ P 11 ∧ P 12) : P k := by
  unfold inB at hk
  simp only [Bool.and_eq_true, decide_eq_true_eq] at hk
  obtain ⟨h1, h2, h3, h4, h5, h6, h7, h8, h9, h10, h11, h12⟩ := h
  have : k = 1 ∨ k = 2 ∨ k = 3 ∨ k = 4 ∨ k = 5 ∨ k = 6 ∨ k = 7 ∨ k = 8 ∨ k = 9 ∨ k = 10 ∨ k = 11 ∨ k = 12 := by omega
  rcases this with h | h | h | h | h | h | h | h | h | h | h | h <;> subst h <;> assumption
theorem cases4 {P : Int → Prop} (p : Int) (hp : inB p 0 3 = true) (h : P 0 ∧ P 1 ∧ P 2 ∧ P 3) : P p := by
  unfold inB at hp
  simp only [Bool.and_eq_true, decide_eq_true_eq] at hp
  obtain ⟨h1, h2, h3, h4⟩ := h
  have : p = 0 ∨ p = 1 ∨ p = 2 ∨ p = 3 := by omega
  rcases this with h | h | h | h <;> subst h <;> assumption
def hasN (k p x : Int) : Bool := Go.bits .and .i64 (has2 (has1 (hasT k) p) p) x != 0
def hasAll (k p : Int) : Prop := hasN k p 1 = rFour k ∧ hasN k p 17 = (rFour k || k == 12) ∧ hasN k p 2 = (k == 1 || k == 6) ∧ hasN k p 4 = rWeighs k ∧ hasN k p 8 = rMany k ∧ hasN k p 32 = (k == 9 || Go.bits .and .i64 p 2 == 2) ∧ hasN k p 64 = (k == 10 || Go.bits .and .i64 p 1 == 1) ∧ hasN k p 16 = (k == 12)
instance (k p : Int) : Decidable (hasAll k p) := inferInstanceAs (Decidable (_ ∧ _))
theorem has_all (k p : Int) (hk : inB k 1 12 = true) (hp : inB p 0 3 = true) : hasAll k p := by
  refine cases12 (P := fun k => hasAll k p) k hk ?_
  refine cases4 (P := fun p => hasAll 1 p ∧ hasAll 2 p ∧ hasAll 3 p ∧ hasAll 4 p ∧ hasAll 5 p ∧ hasAll 6 p ∧ hasAll 7 p ∧ hasAll 8 p ∧ hasAll 9 p ∧ hasAll 10 p ∧ hasAll 11 p ∧ hasAll 12 p) p hp ?_
  decide +kernel
structure Nd.Has (n : Nd) : Prop where
  h1 : n.has 1 = rFour n.k
  h17 : n.has 17 = (rFour n.k || n.k == 12)
  h2 : n.has 2 = n.bw
  h4 : n.has 4 = rWeighs n.k
  h8 : n.has 8 = rMany n.k
  h32 : n.has 32 = n.bcl
  h64 : n.has 64 = n.bsc
  h16 : n.has 16 = (n.k == 12)
theorem Nd.hasT' (n : Nd) (hk : inB n.k 1 12 = true) (hp : inB n.post 0 3 = true) : n.Has := by
  obtain ⟨a, b, c, d, e, f, g, i⟩ := has_all n.k n.post hk hp
  exact ⟨(has_eq n _ hk).trans a, (has_eq n _ hk).trans b, (has_eq n _ hk).trans c, (has_eq n _ hk).trans d, (has_eq n _ hk).trans e, (has_eq n _ hk).trans f, (has_eq n _ hk).trans g, (has_eq n _ hk).trans i⟩
theorem bare_b (f t bw wg cl sc b0 s wi b3 lo hi mu sh : Bool) :
    (if (b0 && !f) = true then false else if (s && !(f || t)) = true then false else if (wi && !bw) = true then false else if (b3 && !wg) = true then false else if ((lo || hi) && !cl) = true then false else if ((mu || sh) && !sc) = true then false else true) =
    (if (!f && b0) = true then false else if (!f && !t && s || !bw && wi) = true then false else if (!wg && b3) = true then false else (sc || !mu && !sh) && (cl || !lo && !hi)) := by
  cases f <;> cases t <;> cases bw <;> cases s <;> cases wi <;> cases b0 <;> cases wg <;> cases b3 <;> simp <;> cases cl <;> cases sc <;> cases lo <;> cases hi <;> simp
theorem bare_eq (n : Nd) (h : n.Has) : n.bare = n.else0 := by
  have := bare_b (rFour n.k) (n.k == 12) n.bw (rWeighs n.k) n.bcl n.bsc (n.step != 0 || n.gap != 0 || n.left != 0 || n.right != 0) (n.size != 0) (n.wid != 0) (decide (0 < n.ws.length) || decide (0 < n.bs.length)) (n.low != 0) (n.high != 0) (n.mult != 0) (n.shift != 0)
  unfold Nd.bare Nd.else0 Nd.e6 Nd.e8 Nd.e10 Nd.e12
  rw [h.h1, h.h17, h.h2, h.h4, h.h32, h.h64]
  simp only [bne, Bool.not_not] at this ⊢
  exact this
theorem inB_iff {x lo hi : Int} : inB x lo hi = true ↔ lo ≤ x ∧ x ≤ hi := by unfold inB; simp
theorem fit14_eq (n : Nd) : n.fit14 = n.s27 := by
  unfold Nd.fit14 Nd.s27
  rw [Bool.eq_iff_iff]
  simp only [Bool.and_eq_true, inB_iff, decide_eq_true_eq]
  constructor <;> rintro ⟨⟨h1, h2⟩, h3⟩ <;> refine ⟨?_, ?_⟩ <;> first | omega | (refine ⟨?_, ?_⟩ <;> first | omega | (refine ⟨?_, ?_⟩ <;> omega))
theorem mul_le (a b c d : Int) (h0 : 0 ≤ a) (h1 : a ≤ b) (h2 : 0 ≤ c) (h3 : c ≤ d) : 0 ≤ a * c ∧ a * c ≤ b * d := ⟨Int.mul_nonneg h0 h2, Int.mul_le_mul h1 h3 h2 (by omega)⟩
theorem fit12_eq (n : Nd) (v : Int) (hv : 1 ≤ v ∧ v ≤ 16) (hw : rWeighs n.k = true) (hA : rFour n.k = true → 1 ≤ n.size ∧ n.size ≤ 8) (hB : n.bw = true → 1 ≤ n.wid ∧ n.wid ≤ 16) :
    (if (n.k == 2) = true then n.fitW v (wrap64 n.size) else if (n.k == 1) = true then n.fitW n.wid (wrap64 (v * n.size)) else n.fitW n.wid v) = (if (n.s21 v (if (n.k == 2) = true then v else n.wid)) = true then false else n.s27) := by
  have key : ∀ out each, wrap64 (out * each) = n.rWeights v → n.fitW out each = (if n.s21 v out = true then false else n.s27) := fun out each h => by
    have e : n.fit12 out each = n.s21 v out := by unfold Nd.fit12 Nd.s21; rw [h]
    unfold Nd.fitW
    rw [e, fit14_eq]
  unfold rWeighs at hw
  simp only [Bool.or_eq_true, beq_iff_eq] at hw
  by_cases h2 : n.k = 2
  · have e2 : (n.k == 2) = true := by simp [h2]
    have e1 : (n.k == 1) = false := by simp [h2]
    have hs := hA (by simp [rFour, h2])
    simp only [e2, if_true]
    exact key v _ (by unfold Nd.rWeights; rw [e1, e2, if_neg (by decide), if_pos rfl, w64 (x := n.size) (by omega) (by omega)])
  · have e2 : (n.k == 2) = false := by simp [h2]
    by_cases h1 : n.k = 1
    · have e1 : (n.k == 1) = true := by simp [h1]
      have hs := hA (by simp [rFour, h1])
      have hb := hB (by simp [Nd.bw, h1])
      have m1 := mul_le v 16 n.size 8 (by omega) hv.2 (by omega) hs.2
      have m2 := mul_le n.wid 16 n.size 8 (by omega) hb.2 (by omega) hs.2
      simp only [e2, e1, if_true, Bool.false_eq_true, if_false]
      exact key n.wid _ (by
        unfold Nd.rWeights
        rw [e1, if_pos rfl, w64 (x := v * n.size) (by omega) (by omega), w64 (x := n.wid * n.size) (by omega) (by omega), Int.mul_comm v n.size, Int.mul_assoc])
    · have e1 : (n.k == 1) = false := by simp [h1]
      simp only [e2, e1, Bool.false_eq_true, if_false]
      exact key n.wid v (by unfold Nd.rWeights; rw [e1, e2, if_neg (by decide), if_neg (by decide)])
theorem span_eq (n : Nd) (h : n.Has) (hf : rFour n.k = true) (hA : 1 ≤ n.size ∧ n.size ≤ 8) (hG : 1 ≤ n.gap ∧ n.gap ≤ 4) :
    ∃ sp : Int, n.span = sp ∧ n.rSpan = sp ∧ 1 ≤ sp ∧ sp ≤ 29 := by
  have hm := mul_le (n.size - 1) 7 n.gap 4 (by omega) (by omega) (by omega) hG.2
  have e : wrap64 (wrap64 (wrap64 (n.size - 1) * n.gap) + 1) = (n.size - 1) * n.gap + 1 := by
    rw [w64 (x := n.size - 1) (by omega) (by omega), w64 (x := (n.size - 1) * n.gap) (by omega) (by omega), w64 (by omega) (by omega)]
  refine ⟨(n.size - 1) * n.gap + 1, ?_, ?_, by omega, by omega⟩
  · unfold Nd.span; rw [if_pos (h.h1.trans hf), e]
  · unfold Nd.rSpan
    unfold rFour at hf
    simp only [Bool.or_eq_true, beq_iff_eq] at hf
    rw [if_neg (by simp; omega), if_neg (by simp [rWin]; omega), e]
theorem win_eq (n : Nd) (h : n.Has) (hf : rFour n.k = true) (hA : 1 ≤ n.size ∧ n.size ≤ 8) (hG : 1 ≤ n.gap ∧ n.gap ≤ 4) :
    (!inB n.left 0 (wrap64 (n.span - 1)) || !inB n.right 0 (wrap64 (n.span - 1))) = (decide (n.left < 0) || decide (n.rSpan ≤ n.left) || decide (n.right < 0) || decide (n.rSpan ≤ n.right)) := by
  obtain ⟨sp, e1, e2, h1, h2⟩ := span_eq n h hf hA hG
  rw [e1, e2, w64 (by omega) (by omega), Bool.eq_iff_iff]
  simp only [Bool.or_eq_true, Bool.not_eq_true', decide_eq_true_eq, ← Bool.not_eq_true, inB_iff]
  omega
theorem fits_b (f t bw A B St Ga L R l2 T1 T2 : Bool) (h1 : f = true → A = true → Ga = true → (!L || !R) = l2) (h2 : (f = true → A = true) → (bw = true → B = true) → T1 = T2) :
    (if ((f || t) && !A || bw && !B) = true then false else if (f && (!St || !Ga || !L || !R)) = true then false else T1) =
    (if ((f || t) && !A) = true then false else if (f && (!St || !Ga)) = true then false else if (f && l2) = true then false else if (bw && !B) = true then false else T2) := by
  cases f <;> cases A <;> cases B <;> cases bw <;> cases t <;> simp_all <;> cases Ga <;> simp_all <;> cases St <;> simp_all <;> subst h1 <;> cases L <;> cases R <;> simp_all
theorem fits_eq (n : Nd) (h : n.Has) (v : Int) (hv : 1 ≤ v ∧ v ≤ 16) : n.fits v = n.sized v := by
  unfold Nd.fits Nd.sized Nd.fit1 Nd.fit3 Nd.s4 Nd.s8 Nd.s10 Nd.s13
  rw [h.h1, h.h17, h.h2, h.h4, fit14_eq]
  refine fits_b (rFour n.k) (n.k == 12) n.bw (inB n.size 1 8) (inB n.wid 1 16) (inB n.step 1 4) (inB n.gap 1 4) _ _ _ _ _ (fun hf hA hG => win_eq n h hf (inB_iff.mp hA) (inB_iff.mp hG)) (fun hA hB => ?_)
  cases hq : rWeighs n.k with
  | false => rfl
  | true => rw [if_pos rfl, if_pos rfl]; exact fit12_eq n v hv hq (fun hf => inB_iff.mp (hA hf)) (fun hb => inB_iff.mp (hB hb))

theorem chk5_eq (n : Nd) (h : n.Has) (l : List Int) (hk : inB n.k 1 12 = true) : (n.chk5 l || false) = (n.r7 l || !n.else0) := by
  unfold Nd.chk5 Nd.r7
  rw [h.h8, bare_eq n h, hk]
  have e : (!inB (l.length : Int) 2 4) = (decide ((l.length : Int) < 2) || decide (4 < (l.length : Int))) := by
    rw [Bool.eq_iff_iff]; simp only [Bool.or_eq_true, Bool.not_eq_true', decide_eq_true_eq, ← Bool.not_eq_true, inB_iff]; omega
  rw [e]
  simp
theorem chk_eq (n : Nd) (l : List Int) : n.chk l = n.rchk l := by
  unfold Nd.chk Nd.rchk
  cases h1 : n.chk1 l with
  | true => rfl
  | false =>
    simp only [Bool.false_eq_true, if_false]
    cases hk : inB n.k 1 12 with
    | false =>
      rw [if_pos (by unfold Nd.chk3; rw [hk]; simp), if_pos (by unfold Nd.r7; rw [hk]; simp)]
    | true =>
      cases hp : inB n.post 0 3 with
      | false =>
        rw [if_pos (by unfold Nd.chk3; rw [hp]; simp)]
        have h9 : n.r9 = true := by
          unfold Nd.r9
          have : ¬ (0 ≤ n.post ∧ n.post ≤ 3) := fun h => by rw [inB_iff.mpr h] at hp; cases hp
          simp only [Bool.or_eq_true, decide_eq_true_eq]
          omega
        rw [h9]
        cases n.r7 l <;> rfl
      | true =>
        have H := n.hasT' hk hp
        have h3 : n.chk3 = n.r9 := by
          unfold Nd.chk3 Nd.r9
          have := inB_iff.mp hp
          rw [hk, hp, H.h4, decide_eq_false (show ¬ n.post < 0 by omega), decide_eq_false (show ¬ 3 < n.post by omega)]
          rfl
        have h5 := chk5_eq n H l hk
        rw [Bool.or_false] at h5
        rw [h3, h5]
        cases h7 : n.r7 l with
        | true => cases n.r9 <;> rfl
        | false =>
          cases h9 : n.r9 with
          | true => rfl
          | false =>
            cases he : n.else0 with
            | false => rfl
            | true =>
              have hl : l ≠ [] := by rintro rfl; rw [n.r7_nil] at h7; cases h7
              have hv : 1 ≤ rd l 0 ∧ rd l 0 ≤ 16 := by
                unfold Nd.chk1 at h1
                simp only [Bool.or_eq_false_iff, Bool.not_eq_false'] at h1
                cases l with
                | nil => exact absurd rfl hl
                | cons x xs =>
                  have := List.all_eq_true.mp h1.2 x (List.mem_cons_self ..)
                  exact inB_iff.mp this
              rw [fits_eq n H _ hv]
              rfl
theorem both_eq (n : Nd) (l : List Int) : n.both l = true := by
  unfold Nd.both Nd.wide Nd.rwide
  rw [chk_eq n l]
  cases h0 : (n.rchk l != 0) with
  | true => simp
  | false =>
    have hc : n.chk l = 0 := by rw [chk_eq]; exact bne_eq_false_iff_eq.mp h0
    have h3 : n.chk3 = false := by
      cases h : n.chk3 with
      | false => rfl
      | true => unfold Nd.chk at hc; rw [h] at hc; cases h1 : n.chk1 l <;> rw [h1] at hc <;> simp at hc
    have hk : inB n.k 1 12 = true ∧ inB n.post 0 3 = true := by
      unfold Nd.chk3 at h3
      simp only [Bool.or_eq_false_iff, Bool.not_eq_false'] at h3
      exact h3.1
    have H := n.hasT' hk.1 hk.2
    rw [H.h2]
    show (_ == _ && (if _ then _ else if n.bw = true then _ else _) == (if _ then _ else if n.bw = true then _ else _)) = true
    cases n.bw <;> cases (n.k == 11) <;> simp [bne] <;> cases (n.k == 8) <;> simp
/-! the plain law: windows, of every node -/
def hasB (k : Int) (b1 b2 : Bool) (x : Int) : Bool := Go.bits .and .i64 (if b2 = true then Go.bits .or .i64 (if b1 = true then Go.bits .or .i64 (hasT k) 64 else hasT k) 32 else (if b1 = true then Go.bits .or .i64 (hasT k) 64 else hasT k)) x != 0
def hasBs (k : Int) (b1 b2 : Bool) : Prop := hasB k b1 b2 1 = rFour k ∧ hasB k b1 b2 16 = (k == 12) ∧ hasB k b1 b2 17 = (rFour k || k == 12)
instance (k : Int) (b1 b2 : Bool) : Decidable (hasBs k b1 b2) := inferInstanceAs (Decidable (_ ∧ _))
theorem hasB_all (k : Int) (b1 b2 : Bool) (hk : inB k 1 12 = true) : hasBs k b1 b2 := by
  refine cases12 (P := fun k => hasBs k b1 b2) k hk ?_
  cases b1 <;> cases b2 <;> decide +kernel
theorem Nd.hasW (n : Nd) : n.has 1 = rFour n.k ∧ n.has 16 = (n.k == 12) ∧ n.has 17 = (rFour n.k || n.k == 12) := by
  cases hk : inB n.k 1 12 with
  | true =>
    rw [has_eq n _ hk, has_eq n _ hk, has_eq n _ hk]
    exact hasB_all n.k (Go.bits .and .i64 n.post 1 != 0) (Go.bits .and .i64 n.post 2 != 0) hk
  | false =>
    have h : ¬ (1 ≤ n.k ∧ n.k ≤ 12) := fun h => by rw [inB_iff.mpr h] at hk; cases hk
    have hn : ∀ x, n.has x = false := fun x => by
      unfold Nd.has
      by_cases h1 : n.k < 1
      · rw [if_pos h1]
      · rw [if_neg h1, if_pos (by omega)]
    have h4 : rFour n.k = false := by
      unfold rFour
      simp only [Bool.or_eq_false_iff, beq_eq_false_iff_ne]
      omega
    have h12 : (n.k == 12) = false := by rw [beq_eq_false_iff_ne]; omega
    rw [hn, hn, hn, h4, h12]
    exact ⟨rfl, rfl, rfl⟩
theorem rWin_four (k : Int) : rWin k = (rFour k || k == 12) := rfl
theorem four_ne (k : Int) (h : rFour k = true) : (k == 12) = false := by
  unfold rFour at h
  simp only [Bool.or_eq_true, beq_iff_eq] at h
  rw [beq_eq_false_iff_ne]; omega
theorem span_eqW (n : Nd) : n.span = n.rSpan := by
  unfold Nd.span Nd.rSpan
  rw [n.hasW.1, n.hasW.2.1, rWin_four]
  cases h4 : rFour n.k with
  | true => rw [four_ne _ h4]; rfl
  | false => cases (n.k == 12) <;> rfl
theorem stp_eqW (n : Nd) : n.stp = n.rStp := by
  unfold Nd.stp Nd.rStp
  rw [n.hasW.1]
theorem padL_eqW (n : Nd) : n.padL = n.rLeft := by
  unfold Nd.padL Nd.rLeft
  rw [n.hasW.1, n.hasW.2.1]
  cases h4 : rFour n.k with
  | true => rw [four_ne _ h4]; rfl
  | false => cases (n.k == 12) <;> rfl
theorem padR_eqW (n : Nd) : n.padR = n.rRight := by
  unfold Nd.padR Nd.rRight
  rw [n.hasW.1]
theorem first_eqW (n : Nd) (i : Int) : n.first i = n.rFirst i := by
  unfold Nd.first Nd.rFirst
  rw [stp_eqW, padL_eqW]
def Nd.wins (n : Nd) (i : Int) : Bool := n.span == n.rSpan && n.stp == n.rStp && n.padL == n.rLeft && n.padR == n.rRight && n.first i == n.rFirst i
/-- what a node of Made has of a window -/
structure Nd.Wd (n : Nd) (sz st gp lf rt sp : Int) : Prop where
  span : n.span = sp
  stp : n.stp = st
  padL : n.padL = lf
  padR : n.padR = rt
  s0 : 1 ≤ sp
  s1 : sp ≤ 10
  t0 : 1 ≤ st
  t1 : st ≤ 3
  l0 : 0 ≤ lf
  l1 : lf < sp
  r0 : 0 ≤ rt
  r1 : rt < sp
/-! the plain law: how wide a node is -/
theorem chkL_sum (n : Nd) (v : Int) (h8 : (n.k == 8) = true) : ∀ (l : List Int) (s : Int), n.chkL v s l = 0 → sumL s l ≤ 16 := by
  intro l
  induction l with
  | nil =>
    intro s h
    unfold Nd.chkL at h
    unfold sumL
    rw [h8] at h
    by_cases hs : 16 < s
    · exfalso
      simp [hs] at h
    · omega
  | cons x l ih =>
    intro s h
    unfold Nd.chkL at h
    unfold sumL
    split at h
    · cases h
    · exact ih _ h
theorem sumL_nonneg : ∀ (l : List Int) (s : Int), (∀ x ∈ l, 1 ≤ x ∧ x ≤ 16) → 0 ≤ s → s + 16 * l.length ≤ 100000 → 0 ≤ sumL s l := by
  intro l
  induction l with
  | nil => intro s _ h _; exact h
  | cons x l ih =>
    intro s hl h hb
    have hx := hl x (List.mem_cons_self ..)
    unfold sumL
    rw [List.length_cons] at hb
    have e : wrap64 (s + x) = s + x := w64 (by omega) (by omega)
    rw [e]
    exact ih (s + x) (fun y hy => hl y (List.mem_cons_of_mem _ hy)) (by omega) (by omega)
theorem rwide_range (n : Nd) (l : List Int) : 0 ≤ n.rwide l ∧ n.rwide l ≤ 16 := by
  unfold Nd.rwide
  cases h0 : (n.rchk l != 0) with
  | true => rw [if_pos rfl]; exact ⟨by decide, by decide⟩
  | false =>
    have hc : n.rchk l = 0 := bne_eq_false_iff_eq.mp h0
    have h1 : n.chk1 l = false := by
      cases h : n.chk1 l with
      | false => rfl
      | true => unfold Nd.rchk at hc; rw [h] at hc; cases hc
    unfold Nd.rchk at hc
    rw [h1] at hc
    simp only [Bool.false_eq_true, if_false] at hc
    have h7 : n.r7 l = false := by
      cases h : n.r7 l with
      | false => rfl
      | true => rw [h] at hc; cases hc
    rw [h7] at hc
    have h9 : n.r9 = false := by
      cases h : n.r9 with
      | false => rfl
      | true => rw [h] at hc; cases hc
    rw [h9] at hc
    have he : n.else0 = true := by
      cases h : n.else0 with
      | true => rfl
      | false => rw [h] at hc; cases hc
    rw [he] at hc
    have hs : n.sized (rd l 0) = true := by
      cases h : n.sized (rd l 0) with
      | true => rfl
      | false => rw [h] at hc; cases hc
    rw [hs] at hc
    simp only [Bool.not_true, Bool.false_eq_true, if_false] at hc
    have hall : ∀ x ∈ l, 1 ≤ x ∧ x ≤ 16 := by
      unfold Nd.chk1 at h1
      simp only [Bool.or_eq_false_iff, Bool.not_eq_false'] at h1
      exact fun x hx => inB_iff.mp (List.all_eq_true.mp h1.2 x hx)
    simp only [Bool.false_eq_true, if_false]
    cases hw : (n.k == 1 || n.k == 6) with
    | true =>
      simp only [if_true]
      unfold Nd.sized at hs
      have h13 : n.s13 = false := by
        cases h : n.s13 with
        | false => rfl
        | true =>
          exfalso
          rw [h] at hs
          cases n.s4 <;> cases n.s8 <;> cases n.s10 <;> simp at hs
      unfold Nd.s13 at h13
      rw [hw, Bool.true_and, Bool.not_eq_false'] at h13
      have := inB_iff.mp h13
      omega
    | false =>
      simp only [Bool.false_eq_true, if_false]
      cases h11 : (n.k == 11) with
      | true => rw [if_pos rfl]; exact ⟨by decide, by decide⟩
      | false =>
        simp only [Bool.false_eq_true, if_false]
        cases h8 : (n.k != 8) with
        | true =>
          simp only [if_true]
          cases l with
          | nil => exact ⟨by decide, by decide⟩
          | cons x l =>
            have := hall x (List.mem_cons_self ..)
            show 0 ≤ x ∧ x ≤ 16
            omega
        | false =>
          simp only [Bool.false_eq_true, if_false]
          have h8' : (n.k == 8) = true := by
            have : n.k = 8 := bne_eq_false_iff_eq.mp h8
            simp [this]
          have hlen : l.length ≤ 4 := by
            unfold Nd.r7 at h7
            have hm : rMany n.k = true := by unfold rMany; rw [h8']; simp
            rw [hm] at h7
            simp only [Bool.or_eq_false_iff, Bool.true_and, decide_eq_false_iff_not] at h7
            omega
          exact ⟨sumL_nonneg l 0 hall (by omega) (by omega), chkL_sum n _ h8' l 0 hc⟩
/-! a node's cells; the table of kinds -/
def Nd.ds (n : Nd) : List D := [.i .i64 n.k, .row [.i .i64 0] (n.inn.map intC), .i .i64 n.wid, .i .i64 n.size, .i .i64 n.step, .i .i64 n.gap, .i .i64 n.left, .i .i64 n.right, .row [.i .i64 0] (n.ws.map intC), .row [.i .i64 0] (n.bs.map intC), .i .i64 n.mult, .i .i64 n.shift, .i .i64 n.low, .i .i64 n.high, .i .i64 n.post]
def Nd.cs (n : Nd) : List S := [.d (.i .i64 n.k), .d (.row [.i .i64 0] (n.inn.map intC)), .d (.i .i64 n.wid), .d (.i .i64 n.size), .d (.i .i64 n.step), .d (.i .i64 n.gap), .d (.i .i64 n.left), .d (.i .i64 n.right), .d (.row [.i .i64 0] (n.ws.map intC)), .d (.row [.i .i64 0] (n.bs.map intC)), .d (.i .i64 n.mult), .d (.i .i64 n.shift), .d (.i .i64 n.low), .d (.i .i64 n.high), .d (.i .i64 n.post)]
def Tab (w : World) : Prop := ∀ j v, ([0, 7, 5, 1, 1, 0, 6, 8, 8, 32, 64, 0, 16] : List Int)[j]? = some v → w.cell? ⟨0, j, none⟩ = some (.int .i64 v)
theorem Tab.below {w w' : World} (h : Tab w) (hb : Below G0 w w') : Tab w' := fun j v hj => by
  rw [hb.cell (p := ⟨0, j, none⟩) (show 0 < G0 by decide)]; exact h j v hj
theorem allm_nil {α : Type} (p : α → Prop) : (∀ x, x ∈ ([] : List α) → p x) = True := by simp
theorem allm_cons {α : Type} (p : α → Prop) (a : α) (l : List α) : (∀ x, x ∈ a :: l → p x) = (p a ∧ ∀ x, x ∈ l → p x) := by simp
structure KT (T : World → Prop) : Prop where
  m : TP T
  tab : ∀ w, T w → Tab w
theorem tab_at {T : World → Prop} (h : KT T) (i : Int) (h0 : 0 ≤ i) (h1 : i < 13) (w : World) (hT : T w) : ∃ (v : Value) (arr : Array Value) (t : TypeId) (fr : Nat × Nat), w.heap[0]? = some (.cells arr t fr) ∧ arr[i.toNat]? = some v ∧ ∀ F, Rd F w (.i .i64 (hasT i)) v := by
  have hj : i.toNat < ([0, 7, 5, 1, 1, 0, 6, 8, 8, 32, 64, 0, 16] : List Int).length := by simp; omega
  have h2 := h.tab w hT i.toNat _ (List.getElem?_eq_getElem hj)
  unfold World.cell? at h2
  simp only at h2
  cases hq : w.heap[0]? with
  | none => rw [hq] at h2; cases h2
  | some o =>
    rw [hq] at h2
    cases o <;> simp only at h2 <;> try (cases h2; done)
    rename_i arr t fr
    refine ⟨_, arr, t, fr, rfl, by simpa using h2, fun F => ?_⟩
    simp only [Rd, hasT, List.getD, List.getElem?_eq_getElem hj, Option.getD_some]
/-! numbers that are taken one by one -/
def rowO (l : List Int) (i : Int) : Obj' := .box 81 [.d (.row [.i .i64 0] (l.map intC)), .d (.i .i64 i)]
/-- a node with a window -/
def Nd.win (n : Nd) (sz st gp lf rt : Int) : Nd := { n with size := sz, step := st, gap := gp, left := lf, right := rt }
/-- nil is a row of none -/
theorem Le.nilrow {E : Env} {s : St} (i : Nat) (e0 : List D) (h : lk s.t i = .d .nil) : Le E s ⟨(i, .d (.row e0 [])) :: s.t, s.h⟩ := fun a w η hR => ⟨η, hR.sz, hR.df, fun j => by
  show RS η _ w (lk ((i, .d (.row e0 [])) :: s.t) j) _
  simp only [lk]
  by_cases e : i = j
  · subst e
    rw [if_pos rfl]
    have := hR.tm i
    rw [h] at this
    simp only [RS] at this ⊢
    exact Rd.nil_row this
  · rw [if_neg e]; exact hR.tm j, hR.ob, hR.ge, hR.sep, hR.bel, hR.pn⟩
theorem lk_pick (t : Tm) : ∀ (ks : List Nat) (i : Nat), lk (ks.map fun k => (k, lk t k)) i = lk t i ∨ lk (ks.map fun k => (k, lk t k)) i = .any
  | [], i => .inr rfl
  | k :: r, i => by
    simp only [List.map_cons, lk]
    by_cases e : k = i
    · rw [if_pos e, e]; exact .inl rfl
    · rw [if_neg e]; exact lk_pick t r i
/-- only these slots are still known -/
theorem Le.keep {E : Env} {s : St} (ks : List Nat) : Le E s ⟨ks.map fun k => (k, lk s.t k), s.h⟩ := fun a w η hR => ⟨η, hR.same_t rfl (lk_pick s.t ks)⟩
/-! what ref14.Made makes -/
def wk : List S → List S → Prop
  | [], [] => True
  | c :: cs, c' :: cs' => (c = c' ∨ (c = .d .nil ∧ ∃ e0, c' = .d (.row e0 []))) ∧ wk cs cs'
  | _, _ => False
theorem wk_ok {η : Nat → Value} {F : Nat → Prop} {w : World} : ∀ {cs cs' : List S} {vs : List Value}, wk cs cs' → RSL η F w cs vs → RSL η F w cs' vs
  | [], [], vs, _, r => r
  | c :: cs, c' :: cs', vs, h, r => by
    simp only [wk] at h
    simp only [RSL] at r ⊢
    obtain ⟨v, l, e, h1, h2⟩ := r
    refine ⟨v, l, e, ?_, wk_ok h.2 h2⟩
    rcases h.1 with h3 | ⟨h3, e0, h4⟩
    · rw [← h3]; exact h1
    · subst h3 h4
      simp only [RS] at h1 ⊢
      exact Rd.nil_row h1
/-- an object whose nils are rows of none -/
theorem Le.wbox {E : Env} {s : St} (k : Nat) {t : TypeId} {cs : List S} (cs' : List S) (hk : lh s.h k = some (.box t cs)) (h : wk cs cs') : Le E s (s.upd k (.box t cs')) := fun a w η hR => by
  refine ⟨η, (hR.wrote k _ (.box t cs') hk rfl rfl rfl rfl (fun _ _ => rfl) fun F hs => ?_).1⟩
  obtain ⟨g, vs, h1, h2, h3⟩ := hR.ob k _ hk
  exact ⟨g, vs, h1, h2, RSL.mono hs _ _ (wk_ok h h3)⟩
/-- ways meet -/
theorem Tr.meet {E : Env} {c y : Code} {Q : Exit → St → Prop} {s : St} (J : St → Prop) (hy : ∀ s, J s → Tr E y Q s) (hx : Tr E c (thenS (fun s' => ∃ s'', Le E s' s'' ∧ J s'') Q) s) : Tr E c (thenS (Tr E y Q) Q) s :=
  hx.mono fun e s' h => by
    cases e <;> try exact h
    obtain ⟨s'', hl, hj⟩ := h
    exact Tr.le hl (hy s'' hj)
structure MadeN (n : Nd) (inn ws : List Int) (still : Bool) : Prop where
  inn : n.inn = inn ∨ n.inn = inn.take 1
  chk : n.rchk (ws.take n.inn.length) = 0
  wl : n.ws.length ≤ 4096
  bl : n.bs.length ≤ 4096
  st0 : 1 ≤ n.rStp
  st1 : n.rStp ≤ 3
  sp0 : 1 ≤ n.rSpan
  sp1 : n.rSpan ≤ 10
  post : n.post = 0
  still : still = true → rWin n.k = false ∧ n.k ≠ 5
theorem rchk_one {n : Nd} {a w : Int} (hw : 1 ≤ w ∧ w ≤ 16) (hk : inB n.k 1 12 = true) (hm : rMany n.k = false) (hi : n.inn = [a]) (hp : n.post = 0) (he : n.else0 = true) (hz : n.sized w = true) : n.rchk [w] = 0 := by
  have h1 : n.chk1 [w] = false := by
    unfold Nd.chk1
    rw [hi]
    simp only [List.all_cons, List.all_nil, Bool.and_true]
    rw [inB_iff.mpr hw]; rfl
  have h7 : n.r7 [w] = false := by unfold Nd.r7; rw [hk, hm]; rfl
  have h9 : n.r9 = false := by unfold Nd.r9; rw [hp]; rfl
  unfold Nd.rchk
  rw [h1, h7, h9, he]
  simp only [Bool.false_eq_true, if_false, Bool.not_true, rd, List.getD_cons_zero, Int.toNat_zero, hz, Nd.chkL]
  unfold rMany at hm
  simp only [Bool.or_eq_false_iff] at hm
  rw [hm.1, hm.2]
  rfl
theorem all_in {l : List Int} {lo hi a b : Int} (h : ∀ x ∈ l, lo ≤ x ∧ x < hi) (h1 : a ≤ lo) (h2 : hi ≤ b + 1) : l.all (inB · a b) = true := List.all_eq_true.2 fun x hx => inB_iff.2 (by have := h x hx; omega)
theorem madeN {n : Nd} {a w : Int} {inn ws : List Int} {st : Bool} (hin : inn.take 1 = [a]) (hws : ws.take 1 = [w]) (hw : 1 ≤ w ∧ w ≤ 16) (hi : n.inn = [a]) (hk : inB n.k 1 12 = true) (hm : rMany n.k = false) (hp : n.post = 0) (he : n.else0 = true) (hz : n.sized w = true) (wl : n.ws.length ≤ 4096) (bl : n.bs.length ≤ 4096)
    (hs : 1 ≤ n.rStp ∧ n.rStp ≤ 3 ∧ 1 ≤ n.rSpan ∧ n.rSpan ≤ 10) (hst : st = true → rWin n.k = false ∧ n.k ≠ 5) : MadeN n inn ws st :=
  ⟨.inr (by rw [hin, hi]), by rw [hi, show [a].length = 1 from rfl, hws]; exact rchk_one hw hk hm hi hp he hz, wl, bl, hs.1, hs.2.1, hs.2.2.1, hs.2.2.2, hp, hst⟩
/-! each kind that Made makes is right -/
theorem rSpan_win' (n : Nd) (sz gp : Int) (h : rFour n.k = true) (s0 : 1 ≤ sz) (s1 : sz ≤ 4) (g0 : 1 ≤ gp) (g1 : gp ≤ 3) (hs : n.size = sz) (hg : n.gap = gp) : 1 ≤ n.rSpan ∧ n.rSpan ≤ 10 := by
  have e1 : (n.k == 12) = false := four_ne _ h
  have e2 : rWin n.k = true := by rw [rWin_four, h]; rfl
  unfold Nd.rSpan
  rw [e1, e2, hs, hg]
  have hm := mul_le (sz - 1) 3 gp 3 (by omega) (by omega) (by omega) g1
  simp only [Bool.false_eq_true, if_false, Bool.not_true]
  rw [w64 (x := sz - 1) (by omega) (by omega), w64 (x := (sz - 1) * gp) (by omega) (by omega), w64 (by omega) (by omega)]
  omega
theorem sized_of {n : Nd} {v : Int} (h4 : (rFour n.k || n.k == 12) = true → 1 ≤ n.size ∧ n.size ≤ 8) (h8 : rFour n.k = true → (1 ≤ n.step ∧ n.step ≤ 4) ∧ 1 ≤ n.gap ∧ n.gap ≤ 4) (h10 : rFour n.k = true → (0 ≤ n.left ∧ n.left < n.rSpan) ∧ 0 ≤ n.right ∧ n.right < n.rSpan) (h13 : (n.k == 1 || n.k == 6) = true → 1 ≤ n.wid ∧ n.wid ≤ 16)
    (h21 : rWeighs n.k = true → ((n.ws.length : Int) = n.rWeights v ∧ (n.bs.length : Int) = (if (n.k == 2) = true then v else n.wid)) ∧ n.ws.all (inB · (-128) 127) = true ∧ n.bs.all (inB · (-16777216) 16777216) = true)
    (h27 : (0 ≤ n.mult ∧ n.mult ≤ 32767) ∧ (0 ≤ n.shift ∧ n.shift ≤ 30) ∧ -2147483648 ≤ n.low ∧ n.low ≤ n.high ∧ n.high ≤ 2147483647) : n.sized v = true := by
  have e4 : n.s4 = false := by
    unfold Nd.s4
    cases hq : (rFour n.k || n.k == 12) with
    | false => rfl
    | true => rw [inB_iff.2 (h4 hq)]; rfl
  have e8 : n.s8 = false := by
    unfold Nd.s8
    cases hq : rFour n.k with
    | false => rfl
    | true => rw [inB_iff.2 (h8 hq).1, inB_iff.2 (h8 hq).2]; rfl
  have e10 : n.s10 = false := by
    unfold Nd.s10
    cases hq : rFour n.k with
    | false => rfl
    | true =>
      obtain ⟨⟨a1, a2⟩, a3, a4⟩ := h10 hq
      rw [decide_eq_false (show ¬ n.left < 0 by omega), decide_eq_false (show ¬ n.rSpan ≤ n.left by omega), decide_eq_false (show ¬ n.right < 0 by omega), decide_eq_false (show ¬ n.rSpan ≤ n.right by omega)]; rfl
  have e13 : n.s13 = false := by
    unfold Nd.s13
    cases hq : (n.k == 1 || n.k == 6) with
    | false => rfl
    | true => rw [inB_iff.2 (h13 hq)]; rfl
  have e27 : n.s27 = true := by
    unfold Nd.s27
    obtain ⟨a, b, c1, c2, c3⟩ := h27
    rw [inB_iff.2 a, inB_iff.2 b, inB_iff.2 (show -2147483648 ≤ n.low ∧ n.low ≤ 2147483647 by omega), inB_iff.2 (show -2147483648 ≤ n.high ∧ n.high ≤ 2147483647 by omega), decide_eq_true c2]; rfl
  unfold Nd.sized
  simp only [e4, e8, e10, e13, Bool.false_eq_true, if_false]
  cases hq : rWeighs n.k with
  | false => simp only [Bool.false_eq_true, if_false]; exact e27
  | true =>
    obtain ⟨⟨a1, a2⟩, a3, a4⟩ := h21 hq
    have e21 : n.s21 v (if (n.k == 2) = true then v else n.wid) = false := by
      unfold Nd.s21
      rw [a1, a2, a3, a4]
      simp
    simp only [if_true, e21, Bool.false_eq_true, if_false]; exact e27
theorem else0_of {n : Nd} (hp : n.post = 0) (h6 : rFour n.k = false → n.step = 0 ∧ n.gap = 0 ∧ n.left = 0 ∧ n.right = 0) (h8 : rFour n.k = false → (n.k == 12) = false → n.size = 0) (h8' : (n.k == 1 || n.k == 6) = false → n.wid = 0) (h10 : rWeighs n.k = false → n.ws = [] ∧ n.bs = []) (h12 : (n.k == 10) = false → n.mult = 0 ∧ n.shift = 0) (h12' : (n.k == 9) = false → n.low = 0 ∧ n.high = 0) : n.else0 = true := by
  have e6 : n.e6 = false := by
    unfold Nd.e6
    cases hq : rFour n.k with
    | true => rfl
    | false => obtain ⟨a, b, c, d⟩ := h6 hq; rw [a, b, c, d]; rfl
  have e8 : n.e8 = false := by
    unfold Nd.e8 Nd.bw
    have a : (!rFour n.k && n.k != 12 && n.size != 0) = false := by
      cases hq : rFour n.k with
      | true => rfl
      | false => cases hq2 : (n.k == 12) with
        | true => simp [bne, hq2]
        | false => rw [h8 hq hq2]; simp
    rw [a]
    cases hq : (n.k == 1 || n.k == 6) with
    | true => rfl
    | false => rw [h8' hq]; rfl
  have e10 : n.e10 = false := by
    unfold Nd.e10
    cases hq : rWeighs n.k with
    | true => rfl
    | false => obtain ⟨a, b⟩ := h10 hq; rw [a, b]; rfl
  have e12 : n.e12 = true := by
    unfold Nd.e12 Nd.bsc Nd.bcl
    rw [hp, show (Go.bits .and .i64 0 1 == 1) = false by decide, show (Go.bits .and .i64 0 2 == 2) = false by decide, Bool.or_false, Bool.or_false]
    have a : (n.k == 10 || n.mult == 0 && n.shift == 0) = true := by
      cases hq : (n.k == 10) with
      | true => rfl
      | false => obtain ⟨a, b⟩ := h12 hq; rw [a, b]; rfl
    have b : (n.k == 9 || n.low == 0 && n.high == 0) = true := by
      cases hq : (n.k == 9) with
      | true => rfl
      | false => obtain ⟨a, b⟩ := h12' hq; rw [a, b]; rfl
    rw [a, b]; rfl
  unfold Nd.else0
  rw [e6, e8, e10, e12]; rfl
section kinds
variable {a w : Int} {inn ws : List Int} {st : Bool} (hin : inn.take 1 = [a]) (hws : ws.take 1 = [w]) (hw : 1 ≤ w ∧ w ≤ 16)
include hin hws hw
theorem made_conv {wd sz s g lf rt : Int} {W B : List Int} (d0 : 1 ≤ wd ∧ wd ≤ 3) (z0 : 1 ≤ sz ∧ sz ≤ 4) (s0 : 1 ≤ s ∧ s ≤ 3) (g0 : 1 ≤ g ∧ g ≤ 3) (l0 : 0 ≤ lf) (l1 : lf < (Nd.mk 1 [a] wd sz s g lf rt W B 0 0 0 0 0).rSpan) (r0 : 0 ≤ rt) (r1 : rt < (Nd.mk 1 [a] wd sz s g lf rt W B 0 0 0 0 0).rSpan)
    (hW : (W.length : Int) = wd * sz * w) (hW' : ∀ x ∈ W, -9 ≤ x ∧ x < 10) (hB : (B.length : Int) = wd) (hB' : ∀ x ∈ B, -50 ≤ x ∧ x < 51) : MadeN ⟨1, [a], wd, sz, s, g, lf, rt, W, B, 0, 0, 0, 0, 0⟩ inn ws false := by
  have m1 := mul_le wd 3 sz 4 (by omega) d0.2 (by omega) z0.2
  have m2 := mul_le (wd * sz) 12 w 16 m1.1 m1.2 (by omega) hw.2
  have hsp := rSpan_win' (Nd.mk 1 [a] wd sz s g lf rt W B 0 0 0 0 0) sz g rfl z0.1 z0.2 g0.1 g0.2 rfl rfl
  refine madeN hin hws hw rfl rfl rfl rfl (else0_of rfl ?_ ?_ ?_ ?_ ?_ ?_) (sized_of ?_ ?_ ?_ ?_ ?_ ?_) (by show W.length ≤ 4096; omega) (by show B.length ≤ 4096; omega) ⟨?_, ?_, hsp.1, hsp.2⟩ (fun e => by cases e)
  all_goals try (intro h; first | (cases (show (true : Bool) = false from h)) | (cases (show (false : Bool) = true from h)))
  · exact fun _ => ⟨rfl, rfl⟩
  · exact fun _ => ⟨rfl, rfl⟩
  · exact fun _ => ⟨z0.1, by show sz ≤ 8; omega⟩
  · exact fun _ => ⟨⟨s0.1, by show s ≤ 4; omega⟩, g0.1, by show g ≤ 4; omega⟩
  · exact fun _ => ⟨⟨l0, l1⟩, r0, r1⟩
  · exact fun _ => ⟨d0.1, by show wd ≤ 16; omega⟩
  · refine fun _ => ⟨⟨?_, hB⟩, all_in hW' (by omega) (by omega), all_in hB' (by omega) (by omega)⟩
    show (W.length : Int) = wrap64 (wrap64 (wd * sz) * w)
    rw [w64 (x := wd * sz) (by omega) (by omega), w64 (by omega) (by omega), hW]
  · exact show ((0 : Int) ≤ 0 ∧ (0 : Int) ≤ 32767) ∧ ((0 : Int) ≤ 0 ∧ (0 : Int) ≤ 30) ∧ (-2147483648 : Int) ≤ 0 ∧ (0 : Int) ≤ 0 ∧ (0 : Int) ≤ 2147483647 by decide
  · exact s0.1
  · exact s0.2
theorem made_depth {sz s g lf rt : Int} {W B : List Int} (z0 : 1 ≤ sz ∧ sz ≤ 4) (s0 : 1 ≤ s ∧ s ≤ 3) (g0 : 1 ≤ g ∧ g ≤ 3) (l0 : 0 ≤ lf) (l1 : lf < (Nd.mk 2 [a] 0 sz s g lf rt W B 0 0 0 0 0).rSpan) (r0 : 0 ≤ rt) (r1 : rt < (Nd.mk 2 [a] 0 sz s g lf rt W B 0 0 0 0 0).rSpan)
    (hW : (W.length : Int) = sz * w) (hW' : ∀ x ∈ W, -9 ≤ x ∧ x < 10) (hB : (B.length : Int) = w) (hB' : ∀ x ∈ B, -50 ≤ x ∧ x < 51) : MadeN ⟨2, [a], 0, sz, s, g, lf, rt, W, B, 0, 0, 0, 0, 0⟩ inn ws false := by
  have m2 := mul_le sz 4 w 16 (by omega) z0.2 (by omega) hw.2
  have hsp := rSpan_win' (Nd.mk 2 [a] 0 sz s g lf rt W B 0 0 0 0 0) sz g rfl z0.1 z0.2 g0.1 g0.2 rfl rfl
  refine madeN hin hws hw rfl rfl rfl rfl (else0_of rfl ?_ ?_ ?_ ?_ ?_ ?_) (sized_of ?_ ?_ ?_ ?_ ?_ ?_) (by show W.length ≤ 4096; omega) (by show B.length ≤ 4096; omega) ⟨?_, ?_, hsp.1, hsp.2⟩ (fun e => by cases e)
  all_goals try (intro h; first | (cases (show (true : Bool) = false from h)) | (cases (show (false : Bool) = true from h)))
  · exact fun _ => rfl
  · exact fun _ => ⟨rfl, rfl⟩
  · exact fun _ => ⟨rfl, rfl⟩
  · exact fun _ => ⟨z0.1, by show sz ≤ 8; omega⟩
  · exact fun _ => ⟨⟨s0.1, by show s ≤ 4; omega⟩, g0.1, by show g ≤ 4; omega⟩
  · exact fun _ => ⟨⟨l0, l1⟩, r0, r1⟩
  · refine fun _ => ⟨⟨?_, hB⟩, all_in hW' (by omega) (by omega), all_in hB' (by omega) (by omega)⟩
    show (W.length : Int) = wrap64 (w * sz)
    rw [w64 (by rw [Int.mul_comm]; omega) (by rw [Int.mul_comm]; omega), hW, Int.mul_comm]
  · exact show ((0 : Int) ≤ 0 ∧ (0 : Int) ≤ 32767) ∧ ((0 : Int) ≤ 0 ∧ (0 : Int) ≤ 30) ∧ (-2147483648 : Int) ≤ 0 ∧ (0 : Int) ≤ 0 ∧ (0 : Int) ≤ 2147483647 by decide
  · exact s0.1
  · exact s0.2
theorem made_dense {wd : Int} {W B : List Int} (d0 : 1 ≤ wd ∧ wd ≤ 3) (hW : (W.length : Int) = wd * w) (hW' : ∀ x ∈ W, -12 ≤ x ∧ x < 13) (hB : (B.length : Int) = wd) (hB' : ∀ x ∈ B, -5000 ≤ x ∧ x < 5001) : MadeN ⟨6, [a], wd, 0, 0, 0, 0, 0, W, B, 0, 0, 0, 0, 0⟩ inn ws st := by
  have m2 := mul_le wd 3 w 16 (by omega) d0.2 (by omega) hw.2
  refine madeN hin hws hw rfl rfl rfl rfl (else0_of rfl ?_ ?_ ?_ ?_ ?_ ?_) (sized_of ?_ ?_ ?_ ?_ ?_ ?_) (by show W.length ≤ 4096; omega) (by show B.length ≤ 4096; omega) ⟨by show (1 : Int) ≤ 1; decide, by show (1 : Int) ≤ 3; decide, by show (1 : Int) ≤ 1; decide, by show (1 : Int) ≤ 10; decide⟩ (fun _ => ⟨rfl, by show (6 : Int) ≠ 5; decide⟩)
  all_goals try (intro h; first | (cases (show (true : Bool) = false from h)) | (cases (show (false : Bool) = true from h)))
  · exact fun _ => ⟨rfl, rfl, rfl, rfl⟩
  · exact fun _ _ => rfl
  · exact fun _ => ⟨rfl, rfl⟩
  · exact fun _ => ⟨rfl, rfl⟩
  · exact fun _ => ⟨d0.1, by show wd ≤ 16; omega⟩
  · refine fun _ => ⟨⟨?_, hB⟩, all_in hW' (by omega) (by omega), all_in hB' (by omega) (by omega)⟩
    show (W.length : Int) = wrap64 (wd * w)
    rw [w64 (by omega) (by omega), hW]
  · exact show ((0 : Int) ≤ 0 ∧ (0 : Int) ≤ 32767) ∧ ((0 : Int) ≤ 0 ∧ (0 : Int) ≤ 30) ∧ (-2147483648 : Int) ≤ 0 ∧ (0 : Int) ≤ 0 ∧ (0 : Int) ≤ 2147483647 by decide
theorem made_pool {k sz s g lf rt : Int} (hk : k = 3 ∨ k = 4) (z0 : 1 ≤ sz ∧ sz ≤ 4) (s0 : 1 ≤ s ∧ s ≤ 3) (g0 : 1 ≤ g ∧ g ≤ 3) (l0 : 0 ≤ lf) (l1 : lf < (Nd.mk k [a] 0 sz s g lf rt [] [] 0 0 0 0 0).rSpan) (r0 : 0 ≤ rt) (r1 : rt < (Nd.mk k [a] 0 sz s g lf rt [] [] 0 0 0 0 0).rSpan) : MadeN ⟨k, [a], 0, sz, s, g, lf, rt, [], [], 0, 0, 0, 0, 0⟩ inn ws false := by
  have hsp := rSpan_win' (Nd.mk k [a] 0 sz s g lf rt [] [] 0 0 0 0 0) sz g (by rcases hk with rfl | rfl <;> rfl) z0.1 z0.2 g0.1 g0.2 rfl rfl
  rcases hk with rfl | rfl
  all_goals
    refine madeN hin hws hw rfl rfl rfl rfl (else0_of rfl ?_ ?_ ?_ ?_ ?_ ?_) (sized_of ?_ ?_ ?_ ?_ ?_ ?_) (Nat.zero_le _) (Nat.zero_le _) ⟨?_, ?_, hsp.1, hsp.2⟩ (fun e => by cases e)
    all_goals try (intro h; first | (cases (show (true : Bool) = false from h)) | (cases (show (false : Bool) = true from h)))
    · exact fun _ => rfl
    · exact fun _ => ⟨rfl, rfl⟩
    · exact fun _ => ⟨rfl, rfl⟩
    · exact fun _ => ⟨rfl, rfl⟩
    · exact fun _ => ⟨z0.1, by show sz ≤ 8; omega⟩
    · exact fun _ => ⟨⟨s0.1, by show s ≤ 4; omega⟩, g0.1, by show g ≤ 4; omega⟩
    · exact fun _ => ⟨⟨l0, l1⟩, r0, r1⟩
    · exact show ((0 : Int) ≤ 0 ∧ (0 : Int) ≤ 32767) ∧ ((0 : Int) ≤ 0 ∧ (0 : Int) ≤ 30) ∧ (-2147483648 : Int) ≤ 0 ∧ (0 : Int) ≤ 0 ∧ (0 : Int) ≤ 2147483647 by decide
    · exact s0.1
    · exact s0.2
theorem made_rest {k sz mu sh lo hi : Int} (hk : k = 5 ∨ k = 9 ∨ k = 10 ∨ k = 11 ∨ k = 12) (z0 : k ≠ 12 → sz = 0) (z1 : k = 12 → 1 ≤ sz ∧ sz ≤ 5) (m0 : k ≠ 10 → mu = 0 ∧ sh = 0) (m1 : k = 10 → (0 ≤ mu ∧ mu ≤ 32767) ∧ 0 ≤ sh ∧ sh ≤ 30) (l0 : k ≠ 9 → lo = 0 ∧ hi = 0) (l1 : k = 9 → -1000 ≤ lo ∧ lo ≤ hi ∧ hi ≤ 1000) (hst : st = true → k ≠ 5 ∧ k ≠ 12) : MadeN ⟨k, [a], 0, sz, 0, 0, 0, 0, [], [], mu, sh, lo, hi, 0⟩ inn ws st := by
  have hs : 1 ≤ (Nd.mk k [a] 0 sz 0 0 0 0 [] [] mu sh lo hi 0).rSpan ∧ (Nd.mk k [a] 0 sz 0 0 0 0 [] [] mu sh lo hi 0).rSpan ≤ 10 := by
    unfold Nd.rSpan
    rcases hk with rfl | rfl | rfl | rfl | rfl
    all_goals first | exact (show (1 : Int) ≤ 1 ∧ (1 : Int) ≤ 10 by decide) | (have := z1 rfl; show 1 ≤ sz ∧ sz ≤ 10; omega)
  refine madeN hin hws hw rfl ?_ ?_ rfl (else0_of rfl ?_ ?_ ?_ ?_ ?_ ?_) (sized_of ?_ ?_ ?_ ?_ ?_ ?_) (Nat.zero_le _) (Nat.zero_le _) ⟨?_, ?_, hs.1, hs.2⟩ ?_
  · rcases hk with rfl | rfl | rfl | rfl | rfl <;> rfl
  · rcases hk with rfl | rfl | rfl | rfl | rfl <;> rfl
  · exact fun _ => ⟨rfl, rfl, rfl, rfl⟩
  · exact fun _ h => z0 (by simpa using h)
  · exact fun _ => rfl
  · exact fun _ => ⟨rfl, rfl⟩
  · exact fun h => m0 (by simpa using h)
  · exact fun h => l0 (by simpa using h)
  · intro h
    have : k = 12 := by rcases hk with rfl | rfl | rfl | rfl | rfl <;> first | rfl | cases (show (false : Bool) = true from h)
    have := z1 this
    exact ⟨this.1, by show sz ≤ 8; omega⟩
  · intro h; rcases hk with rfl | rfl | rfl | rfl | rfl <;> cases (show (false : Bool) = true from h)
  · intro h; rcases hk with rfl | rfl | rfl | rfl | rfl <;> cases (show (false : Bool) = true from h)
  · intro h; rcases hk with rfl | rfl | rfl | rfl | rfl <;> cases (show (false : Bool) = true from h)
  · intro h; rcases hk with rfl | rfl | rfl | rfl | rfl <;> cases (show (false : Bool) = true from h)
  · show (0 ≤ mu ∧ mu ≤ 32767) ∧ (0 ≤ sh ∧ sh ≤ 30) ∧ -2147483648 ≤ lo ∧ lo ≤ hi ∧ hi ≤ 2147483647
    rcases Int.lt_or_le k 10 with h | h <;> rcases hk with rfl | rfl | rfl | rfl | rfl <;> simp at z0 z1 m0 m1 l0 l1 h <;> omega
  · show 1 ≤ (if rFour k = true then 0 else 1)
    rcases hk with rfl | rfl | rfl | rfl | rfl <;> decide
  · show (if rFour k = true then 0 else 1) ≤ 3
    rcases hk with rfl | rfl | rfl | rfl | rfl <;> decide
  · intro h
    obtain ⟨h1, h2⟩ := hst h
    refine ⟨?_, h1⟩
    show rWin k = false
    rcases hk with rfl | rfl | rfl | rfl | rfl <;> first | rfl | exact absurd rfl h2
end kinds
theorem made_two {k a b v w : Int} {st : Bool} (hv : 1 ≤ v ∧ v ≤ 16) (hw : 1 ≤ w ∧ w ≤ 16) (hk : (k = 7 ∧ v = w) ∨ (k = 8 ∧ v + w ≤ 16)) : MadeN ⟨k, [a, b], 0, 0, 0, 0, 0, 0, [], [], 0, 0, 0, 0, 0⟩ [a, b] [v, w] st := by
  have hk' : k = 7 ∨ k = 8 := by rcases hk with ⟨h, _⟩ | ⟨h, _⟩ <;> simp [h]
  have he : (Nd.mk k [a, b] 0 0 0 0 0 0 [] [] 0 0 0 0 0).else0 = true := else0_of rfl (fun _ => ⟨rfl, rfl, rfl, rfl⟩) (fun _ _ => rfl) (fun _ => rfl) (fun _ => ⟨rfl, rfl⟩) (fun _ => ⟨rfl, rfl⟩) (fun _ => ⟨rfl, rfl⟩)
  have hz : (Nd.mk k [a, b] 0 0 0 0 0 0 [] [] 0 0 0 0 0).sized v = true := by rcases hk' with rfl | rfl <;> rfl
  have hc : (Nd.mk k [a, b] 0 0 0 0 0 0 [] [] 0 0 0 0 0).chk1 [v, w] = false := by
    unfold Nd.chk1
    simp only [List.all_cons, List.all_nil, Bool.and_true, inB_iff.2 hv, inB_iff.2 hw]
    rfl
  have h7 : (Nd.mk k [a, b] 0 0 0 0 0 0 [] [] 0 0 0 0 0).r7 [v, w] = false := by rcases hk' with rfl | rfl <;> rfl
  have h9 : (Nd.mk k [a, b] 0 0 0 0 0 0 [] [] 0 0 0 0 0).r9 = false := rfl
  refine ⟨.inl rfl, ?_, Nat.zero_le _, Nat.zero_le _, ?_, ?_, ?_, ?_, rfl, fun _ => ?_⟩
  · show Nd.rchk _ [v, w] = 0
    unfold Nd.rchk
    rw [hc, h7, h9, he]
    simp only [Bool.false_eq_true, if_false, Bool.not_true, rd, List.getD_cons_zero, Int.toNat_zero, hz, Nd.chkL]
    rcases hk with ⟨rfl, rfl⟩ | ⟨rfl, h⟩
    · simp
    · rw [w64 (x := 0 + v) (by omega) (by omega), w64 (by omega) (by omega)]
      have : ¬ 16 < v + w := by omega
      simp [this, h]
  · rcases hk' with rfl | rfl <;> (show (1 : Int) ≤ 1; decide)
  · rcases hk' with rfl | rfl <;> (show (1 : Int) ≤ 3; decide)
  · rcases hk' with rfl | rfl <;> (show (1 : Int) ≤ 1; decide)
  · rcases hk' with rfl | rfl <;> (show (1 : Int) ≤ 10; decide)
  · rcases hk' with rfl | rfl <;> exact ⟨rfl, by simp⟩
/-- a call under a guard, where the answer is told by numbers -/
theorem CallN_g2 {α : Type} {E : Env} {ops : List Oper} {o : Oper} {s : St} {rest : List Oper} {K : St → Prop} {fx : Operand} {args : Array Operand} {ts : Array TypeId} {f : Nat} {caps xs : List S} {d : Nat} {k : Nat} {ob : Obj'} {g : Bool} (x0 : α) (Fv : α → S) (Fo : α → Obj') (Px : α → Prop) (hx0 : Fo x0 = ob)
    (C : g = true → C1 E.P E.T f k ob xs (fun r o => ∃ x, r = Fv x ∧ o = Fo x ∧ Px x)) (ho : o.op = .call { callee := .value fx, args := args, argTypes := ts }) (hd : o.dst = some d) (hf : stp (ev s fx) = .fn f caps) (c1 : g = true → stc (ev s fx)) (c2 : g = true → stcL s args.toList)
    (hxs : g = true → stpL s args.toList ++ caps = xs) (hi : lh s.h k = some ob) (hdn : d < E.n)
    (hr : ∀ x, (g = true → Px x) → (g = false → x = x0) → SQ E ops rest ⟨(d, .gd g (Fv x)) :: s.t, (s.upd k (Fo x)).h⟩ K) : CallN E ops o (some g) s rest K := by
  intro hw _ Q a w η h hK
  have hw := hw g rfl a w η h
  unfold wpList
  cases g with
  | false =>
    rw [if_neg (by rw [hw]; decide), hd]
    have := hr x0 (fun e => by cases e) (fun _ => rfl)
    rw [hx0] at this
    exact SQ_ok hK rest _ this _ _ η ((h.upd_same hi).1.put hdn (RS_gd.2 ⟨fun e => (by cases e), fun _ => rfl⟩))
  | true =>
    rw [if_pos hw]
    refine .inl (c1_step h (C rfl) ho hd hf (c1 rfl) (c2 rfl) (hxs rfl) hi hdn fun r ob' v w' η' hp hR hv _ => ?_)
    obtain ⟨x, rfl, rfl, hp⟩ := hp
    refine SQ_ok hK rest _ (hr x (fun _ => hp) (fun e => by cases e)) _ _ η' ?_
    rw [hd]
    exact hR.put hdn (RS_gd.2 ⟨fun _ => hv, fun e => by cases e⟩)
/-- how seldom a node's frames come, over inputs of these rates; below 0: they may not be -/
def Nd.rate (n : Nd) (l : List Int) : Int := if l.all (· == rd l 0) = false then -1 else if (rd l 0 == 0 && (rWin n.k || n.k == 5)) = true then -1 else if (n.k == 5) = true then 0 else wrap64 (rd l 0 * n.rStp)
theorem d4 {E : Env} {Q : Exit → St → Prop} {s : St} {id i : Nat} {ops : List Oper} (plan : Pn) (wr : List Nat) (hm : E.P.follows .mixedOrders = true) (hk : (Region.noSelect ops.toArray && pnB ops.toArray true plan (Array.replicate ops.toArray.size false) && Nat.ble plan.n ops.length) = true) (hw : aliveW s.h wr) (hp : ∀ c s, ¬ Q (.panic c) s)
    (h : ∀ K : St → Prop, (∀ s', Q .normal s' → K s') → AP E ops wr K true plan s s []) : Tr E (.region id ops.toArray true) (inBlk i Q) s :=
  Tr.draw plan wr hm hk hw hp (h _ fun _ k => k)
/-! a handle gets another number -/
def rn (k k' h : Nat) : Nat := if h = k then k' else h
mutual
def renS (k k' : Nat) : S → S
  | .own h => .own (rn k k' h)
  | .ptr h o => .ptr (rn k k' h) o
  | .eptr h z i o => .eptr (rn k k' h) z i o
  | .agg cs => .agg (renL k k' cs)
  | .fn f cs => .fn f (renL k k' cs)
  | .fps cs => .fps (renL k k' cs)
  | .mth f cs => .mth f (renL k k' cs)
  | .tup cs => .tup (renL k k' cs)
  | .gd c x => .gd c (renS k k' x)
  | x => x
def renL (k k' : Nat) : List S → List S
  | [] => []
  | c :: cs => renS k k' c :: renL k k' cs
end
def renO (k k' : Nat) : Obj' → Obj'
  | .box t cs => .box t (renL k k' cs)
  | .row t e0 es => .row t e0 es
  | .rows t ss => .rows t (renL k k' ss)
  | .mp R => .mp R
theorem renL_len (k k' : Nat) : ∀ cs : List S, (renL k k' cs).length = cs.length
  | [] => rfl
  | x :: cs => by simp only [renL, List.length_cons, renL_len k k' cs]
def renH (k k' : Nat) : Hp → Hp
  | [] => []
  | (i, o) :: r => (rn k k' i, renO k k' o) :: renH k k' r
def renT (k k' : Nat) : Tm → Tm
  | [] => []
  | (i, x) :: r => (i, renS k k' x) :: renT k k' r
def etaR (k k' : Nat) (η : Nat → Value) : Nat → Value := fun j => if j = k' then η k else η j
section
variable {k k' : Nat} {η : Nat → Value} {F : Nat → Prop} {w : World}
theorem etaR_rn {h : Nat} (hh : h ≠ k') : etaR k k' η (rn k k' h) = η h := by
  unfold etaR rn
  by_cases e : h = k
  · subst e; rw [if_pos rfl, if_pos rfl]
  · rw [if_neg e, if_neg hh]
mutual
theorem RS_ren : ∀ (x : S) (v : Value), x.has (k1 k') = false → RS η F w x v → RS (etaR k k' η) F w (renS k k' x) v
  | .any, v, _, r => by simp only [renS, RS]
  | .d x, v, _, r => by simpa only [renS, RS] using r
  | .agg cs, v, e, r => by simp only [renS, RS, S.has] at r e ⊢; obtain ⟨vs, h, r⟩ := r; exact ⟨vs, h, RSL_ren cs _ e r⟩
  | .own h, v, e, r => by simp only [renS, RS, S.has, k1, beq_eq_false_iff_ne] at r e ⊢; rw [etaR_rn e]; exact r
  | .ptr h o, v, e, r => by simp only [renS, RS, S.has, k1, beq_eq_false_iff_ne] at r e ⊢; rw [etaR_rn e]; exact r
  | .eptr h z i o, v, e, r => by simp only [renS, RS, S.has, k1, beq_eq_false_iff_ne] at r e ⊢; rw [etaR_rn e]; exact r
  | .fptr cs, v, _, r => by simpa only [renS, RS] using r
  | .fps cs, v, e, r => by simp only [renS, RS, S.has] at r e ⊢; obtain ⟨ad, arr, t, fr, e', hs, hF, hb, r⟩ := r; exact ⟨ad, arr, t, fr, e', hs, hF, hb, by rw [renL_len]; exact RSL_ren cs _ e r⟩
  | .fn f cs, v, e, r => by simp only [renS, RS, S.has] at r e ⊢; obtain ⟨vs, h, r⟩ := r; exact ⟨vs, h, RSL_ren cs _ e r⟩
  | .mth f cs, v, e, r => by simp only [renS, RS, S.has] at r e ⊢; obtain ⟨vs, h, r⟩ := r; exact ⟨vs, h, RSL_ren cs _ e r⟩
  | .tup cs, v, e, r => by simp only [renS, RS, S.has] at r e ⊢; obtain ⟨vs, h, r⟩ := r; exact ⟨vs, h, RSL_ren cs _ e r⟩
  | .gd c x, v, e, r => by simp only [renS, RS, S.has] at r e ⊢; exact ⟨fun hc => RS_ren x v e (r.1 hc), r.2⟩
theorem RSL_ren : ∀ (xs : List S) (vs : List Value), S.hasL (k1 k') xs = false → RSL η F w xs vs → RSL (etaR k k' η) F w (renL k k' xs) vs
  | [], vs, _, r => by simpa only [renL, RSL] using r
  | x :: xs, vs, e, r => by
    simp only [renL, RSL, S.hasL, Bool.or_eq_false_iff] at r e ⊢
    obtain ⟨v, l, h, h1, h2⟩ := r
    exact ⟨v, l, h, RS_ren x v e.1 h1, RSL_ren xs l e.2 h2⟩
end
end
theorem lk_renT (k k' : Nat) : ∀ (t : Tm) (i : Nat), lk (renT k k' t) i = renS k k' (lk t i)
  | [], i => by simp [renT, lk, renS]
  | (j, x) :: r, i => by
    simp only [renT, lk]
    split
    · rfl
    · exact lk_renT k k' r i
/-- nobody speaks of k' -/
def freeT (k' : Nat) : Tm → Bool
  | [] => true
  | (_, x) :: r => !x.has (k1 k') && freeT k' r
def freeH (k' : Nat) : Hp → Bool
  | [] => true
  | (i, o) :: r => !(i == k') && closedO (k1 k') o && freeH k' r
theorem freeT_lk {k' : Nat} : ∀ {t : Tm}, freeT k' t = true → ∀ i, (lk t i).has (k1 k') = false
  | [], _, i => by simp [lk, S.has]
  | (j, x) :: r, h, i => by
    simp only [freeT, Bool.and_eq_true, Bool.not_eq_true'] at h
    simp only [lk]
    split
    · exact h.1
    · exact freeT_lk h.2 i
theorem freeH_lh {k' : Nat} : ∀ {H : Hp}, freeH k' H = true → ∀ {i o}, lh H i = some o → i ≠ k' ∧ closedO (k1 k') o = true
  | [], _, i, o, hk => by simp [lh] at hk
  | (j, x) :: r, h, i, o, hk => by
    simp only [freeH, Bool.and_eq_true, Bool.not_eq_true', beq_eq_false_iff_ne] at h
    simp only [lk, lh] at hk
    split at hk
    · rename_i e; subst e; cases hk; exact h.1
    · exact freeH_lh h.2 hk
theorem lh_renH {k k' : Nat} : ∀ {H : Hp}, freeH k' H = true → ∀ {i o}, lh (renH k k' H) i = some o → ∃ j o', lh H j = some o' ∧ i = rn k k' j ∧ o = renO k k' o'
  | [], _, i, o, hk => by simp [renH, lh] at hk
  | (j, x) :: r, h, i, o, hk => by
    have h' := h
    simp only [freeH, Bool.and_eq_true, Bool.not_eq_true', beq_eq_false_iff_ne] at h
    simp only [renH, lh] at hk
    split at hk
    · rename_i e
      cases hk
      exact ⟨j, x, by simp [lh], e.symm, rfl⟩
    · rename_i e
      obtain ⟨j2, o2, h1, h2, h3⟩ := lh_renH h.2 hk
      refine ⟨j2, o2, ?_, h2, h3⟩
      simp only [lh]
      rw [if_neg (fun e2 => e (by rw [e2, ← h2])), h1]
/-- handle k gets the number k', which nobody has -/
theorem Le.ren {E : Env} {s : St} (k k' : Nat) (hp : E.pin k' = none) (ht : freeT k' s.t = true) (hh : freeH k' s.h = true) : Le E s ⟨renT k k' s.t, renH k k' s.h⟩ := fun a w η hR => by
  have hs : Sub (Fr E s.h η) w (Fr E (renH k k' s.h) (etaR k k' η)) w := fun b o hb ho => ⟨⟨hb.1, fun i o' hi e => by
    obtain ⟨j, o2, h1, rfl, _⟩ := lh_renH hh hi
    rw [etaR_rn (freeH_lh hh h1).1] at e
    exact hb.2 j o2 h1 e⟩, ho⟩
  refine ⟨etaR k k' η, hR.sz, hR.df.mono hs, fun i => ?_, fun i o hi => ?_, fun i o g hi hg => ?_, fun i i' o o' hne hi hi' g hg => ?_, hR.bel, fun i v hi => ?_⟩
  · show RS _ _ w (lk (renT k k' s.t) i) _
    rw [lk_renT]
    exact RS.mono hs _ _ (RS_ren _ _ (freeT_lk ht i) (hR.tm i))
  · obtain ⟨j, o2, h1, rfl, rfl⟩ := lh_renH hh hi
    obtain ⟨h2, h3⟩ := freeH_lh hh h1
    have := hR.ob j o2 h1
    cases o2 with
    | box t cs =>
      obtain ⟨g, vs, h4, h5, h6⟩ := this
      exact ⟨g, vs, by rw [etaR_rn h2]; exact h4, h5, RSL.mono hs _ _ (RSL_ren _ _ (by simpa [closedO] using h3) h6)⟩
    | mp R =>
      obtain ⟨g, ob, h4, h5, h6⟩ := this
      exact ⟨g, ob, by rw [etaR_rn h2]; exact h4, h5, h6⟩
    | rows t ss =>
      obtain ⟨xs, h4, h5⟩ := this
      exact ⟨xs, by rw [etaR_rn h2, renL_len]; exact h4, RSL.mono hs _ _ (RSL_ren _ _ (by simpa [closedO] using h3) h5)⟩
    | row t e0 es =>
      obtain ⟨xs, h4, h5⟩ := this
      exact ⟨xs, by rw [etaR_rn h2]; exact h4, RdE.mono hs _ _ _ _ h5⟩
  · obtain ⟨j, o2, h1, rfl, rfl⟩ := lh_renH hh hi
    rw [etaR_rn (freeH_lh hh h1).1] at hg
    exact hR.ge j o2 g h1 hg
  · obtain ⟨j, o2, h1, rfl, rfl⟩ := lh_renH hh hi
    obtain ⟨j', o3, h2, rfl, rfl⟩ := lh_renH hh hi'
    rw [etaR_rn (freeH_lh hh h1).1] at hg
    rw [etaR_rn (freeH_lh hh h2).1]
    exact hR.sep j j' o2 o3 (fun e => hne (by rw [e])) h1 h2 g hg
  · unfold etaR
    have : i ≠ k' := fun e => by subst e; rw [hp] at hi; cases hi
    rw [if_neg this]
    exact hR.pn i v hi
/-! rows of nodes, graphs -/
/-- a node's cells where nothing was set -/
def e0N : List D := [.i .i64 0, .nil, .i .i64 0, .i .i64 0, .i .i64 0, .i .i64 0, .i .i64 0, .i .i64 0, .nil, .nil, .i .i64 0, .i .i64 0, .i .i64 0, .i .i64 0, .i .i64 0]
instance : Inhabited Nd := ⟨⟨0, [], 0, 0, 0, 0, 0, 0, [], [], 0, 0, 0, 0, 0⟩⟩
def nd (ns : List Nd) (i : Int) : Nd := ns.getD i.toNat default
theorem rw_nd (ns : List Nd) (i : Int) (h0 : 0 ≤ i) (h1 : i < ns.length) : (ns.map Nd.ds).getD i.toNat [.i .i64 0, .nil, .i .i64 0, .i .i64 0, .i .i64 0, .i .i64 0, .i .i64 0, .i .i64 0, .nil, .nil, .i .i64 0, .i .i64 0, .i .i64 0, .i .i64 0, .i .i64 0] = (nd ns i).ds := by
  have h : i.toNat < ns.length := by omega
  unfold nd
  simp [List.getD, h]
def rowN (ns : List Nd) : D := .row e0N (ns.map Nd.ds)
/-- a graph's cells: its numbers, and its nodes -/
def gcs (wd lo hi out : Int) (x : S) : List S := [.d (.i .i64 wd), .d (.i .i64 lo), .d (.i .i64 hi), x, .d (.i .i64 out)]
theorem nd_mem {ns : List Nd} {i : Int} (h0 : 0 ≤ i) (h1 : i < ns.length) : nd ns i ∈ ns := by
  have h : i.toNat < ns.length := by omega
  unfold nd
  simp [List.getD, h]
theorem drop_nd {ns : List Nd} {i : Int} (h0 : 0 ≤ i) (h1 : i < ns.length) : ns.drop i.toNat = nd ns i :: ns.drop (i + 1).toNat := by
  have h : i.toNat < ns.length := by omega
  rw [show (i + 1).toNat = i.toNat + 1 by omega]
  unfold nd
  simp [List.getD, h]
/-! nil is an own row of none -/
def etaN (k' : Nat) (η : Nat → Value) : Nat → Value := fun j => if j = k' then .slice none 0 0 else η j
theorem etaN_at (k' : Nat) (η : Nat → Value) : etaN k' η k' = .slice none 0 0 := if_pos rfl
theorem etaN_ne {k' : Nat} {η : Nat → Value} {j : Nat} (h : j ≠ k') : etaN k' η j = η j := if_neg h
section
variable {E : Env} {s : St} {a : Act} {w : World} {η : Nat → Value} {k' : Nat}
theorem Rel.fresh (h : Rel E s a w η) (t : TypeId) (e0 : List D) (hp : E.pin k' = none) (ht : freeT k' s.t = true) (hh : freeH k' s.h = true) : Rel E ⟨s.t, (k', .row t e0 []) :: s.h⟩ a w (etaN k' η) ∧ Sub (Fr E s.h η) w (Fr E ((k', .row t e0 []) :: s.h) (etaN k' η)) w := by
  have hη : ∀ j, k1 k' j = false → etaN k' η j = η j := fun j hj => etaN_ne (by simpa [k1] using hj)
  have hlh : ∀ i o, lh ((k', .row t e0 []) :: s.h) i = some o → (i = k' ∧ o = .row t e0 []) ∨ (i ≠ k' ∧ lh s.h i = some o ∧ closedO (k1 k') o = true) := fun i o hi => by
    simp only [lh] at hi
    split at hi
    · rename_i e; cases hi; exact .inl ⟨e.symm, rfl⟩
    · obtain ⟨h1, h2⟩ := freeH_lh hh hi; exact .inr ⟨h1, hi, h2⟩
  have hs : Sub (Fr E s.h η) w (Fr E ((k', .row t e0 []) :: s.h) (etaN k' η)) w := fun b o hb ho => ⟨⟨hb.1, fun i o' hi e => by
    rcases hlh i o' hi with ⟨rfl, _⟩ | ⟨h1, h2, _⟩
    · rw [etaN_at] at e; cases e
    · rw [etaN_ne h1] at e; exact hb.2 i o' h2 e⟩, ho⟩
  refine ⟨⟨h.sz, h.df.mono hs, fun i => RS.turn hη _ _ (freeT_lk ht i) (RS.mono hs _ _ (h.tm i)), fun i o hi => ?_, fun i o g hi hg => ?_, fun i j o o' hne hi hj g hg => ?_, h.bel, fun i v hi => ?_⟩, hs⟩
  · rcases hlh i o hi with ⟨rfl, rfl⟩ | ⟨h1, h2, h3⟩
    · exact ⟨[], ⟨by simp, .inl ⟨etaN_at _ _, rfl⟩⟩, by simp only [RdE]⟩
    · exact ((h.ob i o h2).turn hη (etaN_ne h1) h3).mono hs fun _ _ _ hb => hb
  · rcases hlh i o hi with ⟨rfl, rfl⟩ | ⟨h1, h2, h3⟩
    · rw [etaN_at] at hg; cases hg
    · rw [etaN_ne h1] at hg; exact h.ge i o g h2 hg
  · rcases hlh i o hi with ⟨rfl, rfl⟩ | ⟨h1, h2, h3⟩
    · rw [etaN_at] at hg; cases hg
    · rcases hlh j o' hj with ⟨rfl, rfl⟩ | ⟨h4, h5, h6⟩
      · rw [etaN_at]; intro e; cases e
      · rw [etaN_ne h1] at hg; rw [etaN_ne h4]; exact h.sep i j o o' hne h2 h5 g hg
  · rw [etaN_ne (fun e => by subst e; rw [hp] at hi; cases hi)]; exact h.pn i v hi
/-- a nil in a box -/
def wo (k' : Nat) : List S → List S → Prop
  | [], [] => True
  | c :: cs, c' :: cs' => (c = c' ∨ (c = .d .nil ∧ c' = .own k')) ∧ wo k' cs cs'
  | _, _ => False
theorem wo_ok {F : Nat → Prop} (hk : η k' = .slice none 0 0) : ∀ {cs cs' : List S} {vs : List Value}, wo k' cs cs' → RSL η F w cs vs → RSL η F w cs' vs
  | [], [], vs, _, r => r
  | c :: cs, c' :: cs', vs, h, r => by
    simp only [wo] at h
    simp only [RSL] at r ⊢
    obtain ⟨v, l, e, h1, h2⟩ := r
    refine ⟨v, l, e, ?_, wo_ok hk h.2 h2⟩
    rcases h.1 with h3 | ⟨h3, h4⟩
    · rw [← h3]; exact h1
    · subst h3 h4
      simp only [RS, Rd] at h1 ⊢
      rw [h1, hk]
theorem Le.nilown (k' k : Nat) (t' : TypeId) (e0 : List D) {t : TypeId} {cs : List S} (cs' : List S) (hk : lh s.h k = some (.box t cs)) (hw : wo k' cs cs') (hp : E.pin k' = none) (ht : freeT k' s.t = true) (hh : freeH k' s.h = true) :
    Le E s ⟨s.t, ((⟨s.t, (k', .row t' e0 []) :: s.h⟩ : St).upd k (.box t cs')).h⟩ := fun a w η hR => by
  obtain ⟨h1, h2⟩ := hR.fresh t' e0 hp ht hh
  have hne : k' ≠ k := fun e => (freeH_lh hh hk).1 e.symm
  have hk2 : lh ((k', .row t' e0 []) :: s.h) k = some (.box t cs) := by simp only [lh]; rw [if_neg hne]; exact hk
  refine ⟨etaN k' η, (h1.wrote k _ (.box t cs') hk2 rfl rfl rfl rfl (fun _ _ => rfl) fun F hs => ?_).1⟩
  obtain ⟨g, vs, h3, h4, h5⟩ := h1.ob k _ hk2
  exact ⟨g, vs, h3, h4, RSL.mono hs _ _ (wo_ok (etaN_at _ _) hw h5)⟩
/-- a nil in a slot -/
theorem Le.nilslot (k' i : Nat) (t' : TypeId) (e0 : List D) (hi : lk s.t i = .d .nil) (hp : E.pin k' = none) (ht : freeT k' s.t = true) (hh : freeH k' s.h = true) :
    Le E s ⟨(i, .own k') :: s.t, (k', .row t' e0 []) :: s.h⟩ := fun a w η hR => by
  obtain ⟨h1, h2⟩ := hR.fresh t' e0 hp ht hh
  refine ⟨etaN k' η, h1.sz, h1.df, fun j => ?_, h1.ob, h1.ge, h1.sep, h1.bel, h1.pn⟩
  show RS _ _ w (lk ((i, .own k') :: s.t) j) _
  simp only [lk]
  by_cases e : i = j
  · subst e
    rw [if_pos rfl]
    have := hR.tm i
    rw [hi] at this
    simp only [RS, Rd] at this ⊢
    rw [this, etaN_at]
  · rw [if_neg e]; exact h1.tm j
end
/-! the plain law of graphs: how ref15.Made's nodes stand -/
theorem rchk_unpack {n : Nd} {l : List Int} (hc : n.rchk l = 0) : n.chk1 l = false ∧ n.r7 l = false ∧ n.r9 = false ∧ n.else0 = true ∧ n.sized (rd l 0) = true ∧ n.chkL (rd l 0) 0 l = 0 := by
  unfold Nd.rchk at hc
  cases h1 : n.chk1 l with
  | true => rw [h1] at hc; cases hc
  | false =>
    rw [h1] at hc
    simp only [Bool.false_eq_true, if_false] at hc
    cases h7 : n.r7 l with
    | true => rw [h7] at hc; cases hc
    | false =>
      rw [h7] at hc
      simp only [Bool.false_eq_true, if_false] at hc
      cases h9 : n.r9 with
      | true => rw [h9] at hc; cases hc
      | false =>
        rw [h9] at hc
        simp only [Bool.false_eq_true, if_false] at hc
        cases he : n.else0 with
        | false => rw [he] at hc; cases hc
        | true =>
          rw [he] at hc
          simp only [Bool.not_true, Bool.false_eq_true, if_false] at hc
          cases hs : n.sized (rd l 0) with
          | false => rw [hs] at hc; cases hc
          | true =>
            rw [hs] at hc
            simp only [Bool.not_true, Bool.false_eq_true, if_false] at hc
            exact ⟨rfl, rfl, rfl, rfl, rfl, hc⟩
theorem chk1_all {n : Nd} {l : List Int} (h1 : n.chk1 l = false) : ∀ x ∈ l, 1 ≤ x ∧ x ≤ 16 := by
  unfold Nd.chk1 at h1
  simp only [Bool.or_eq_false_iff, Bool.not_eq_false'] at h1
  exact fun x hx => inB_iff.mp (List.all_eq_true.mp h1.2 x hx)
theorem sumL_ge : ∀ (l : List Int) (s : Int), (∀ x ∈ l, 1 ≤ x ∧ x ≤ 16) → 0 ≤ s → s + 16 * l.length ≤ 100000 → s + l.length ≤ sumL s l := by
  intro l
  induction l with
  | nil => intro s _ h _; simp [sumL]
  | cons x l ih =>
    intro s hl h hb
    have hx := hl x (List.mem_cons_self ..)
    unfold sumL
    rw [List.length_cons] at hb ⊢
    have e : wrap64 (s + x) = s + x := w64 (by omega) (by omega)
    rw [e]
    have := ih (s + x) (fun y hy => hl y (List.mem_cons_of_mem _ hy)) (by omega) (by omega)
    omega
theorem rwide_pos {n : Nd} {l : List Int} (hc : n.rchk l = 0) : 1 ≤ n.rwide l ∧ n.rwide l ≤ 16 := by
  refine ⟨?_, (rwide_range n l).2⟩
  obtain ⟨h1, h7, h9, he, hs, hL⟩ := rchk_unpack hc
  have hall := chk1_all h1
  unfold Nd.rwide
  rw [if_neg (by simp [hc])]
  unfold Nd.r7 at h7
  simp only [Bool.or_eq_false_iff, Bool.and_eq_false_iff] at h7
  cases hw : (n.k == 1 || n.k == 6) with
  | true =>
    simp only [if_true]
    unfold Nd.sized at hs
    have h13 : n.s13 = false := by
      cases h : n.s13 with
      | false => rfl
      | true =>
        exfalso
        rw [h] at hs
        cases n.s4 <;> cases n.s8 <;> cases n.s10 <;> simp at hs
    unfold Nd.s13 at h13
    rw [hw, Bool.true_and, Bool.not_eq_false'] at h13
    have := inB_iff.mp h13
    omega
  | false =>
    simp only [Bool.false_eq_true, if_false]
    cases h11 : (n.k == 11) with
    | true => rw [if_pos rfl]; decide
    | false =>
      simp only [Bool.false_eq_true, if_false]
      cases h8 : (n.k != 8) with
      | true =>
        simp only [if_true]
        cases l with
        | nil =>
          exfalso
          rcases h7.1.2 with h | h <;> rcases h7.2 with h' | h' <;> simp_all
        | cons x l =>
          have := hall x (List.mem_cons_self ..)
          show 1 ≤ x
          omega
      | false =>
        simp only [Bool.false_eq_true, if_false]
        have h8' : n.k = 8 := bne_eq_false_iff_eq.mp h8
        have hm : rMany n.k = true := by rw [h8']; decide
        have hlen : 2 ≤ (l.length : Int) ∧ (l.length : Int) ≤ 4 := by
          rcases h7.1.2 with h | h
          · rw [hm] at h; cases h
          · exact ⟨by simpa using h.1, by simpa using h.2⟩
        have := sumL_ge l 0 hall (by omega) (by omega)
        omega
/-- a node that is right over nodes of these widths, and rates -/
structure StepN (n : Nd) (W R : List Int) (w r : Int) : Prop where
  l1 : 1 ≤ n.inn.length
  l2 : n.inn.length ≤ 2
  inn : ∀ j ∈ n.inn, 0 ≤ j ∧ j < W.length
  chk : n.rchk (n.inn.map (rd W)) = 0
  wd : w = n.rwide (n.inn.map (rd W))
  rt : r = n.rate (n.inn.map (rd R))
  same : ∀ j ∈ n.inn, rd R j = rd R (rd n.inn 0)
  still : rd R (rd n.inn 0) = 0 → rWin n.k = false ∧ n.k ≠ 5
  wl : n.ws.length ≤ 4096
  bl : n.bs.length ≤ 4096
  st0 : 1 ≤ n.rStp
  st1 : n.rStp ≤ 3
  sp0 : 1 ≤ n.rSpan
  sp1 : n.rSpan ≤ 10
  post : n.post = 0
theorem stepN_of {n : Nd} {inn ws W R : List Int} {a : Int} {st : Bool} (h : MadeN n inn ws st) (ha : 0 ≤ a ∧ a < W.length) (hst : rd R a = 0 → st = true)
    (hio : (inn = [a] ∧ ws = [rd W a]) ∨ ∃ b, inn = [a, b] ∧ ws = [rd W a, rd W b] ∧ (0 ≤ b ∧ b < W.length) ∧ rd R b = rd R a) : StepN n W R (n.rwide (ws.take n.inn.length)) (n.rate [rd R a]) := by
  have hcase : (n.inn = [a] ∧ ws.take n.inn.length = [rd W a]) ∨ ∃ b, n.inn = [a, b] ∧ ws.take n.inn.length = [rd W a, rd W b] ∧ (0 ≤ b ∧ b < W.length) ∧ rd R b = rd R a := by
    rcases hio with ⟨rfl, rfl⟩ | ⟨b, rfl, rfl, hb, hr⟩
    · rcases h.inn with e | e <;> exact .inl ⟨e, by rw [e]; rfl⟩
    · rcases h.inn with e | e
      · exact .inr ⟨b, e, by rw [e]; rfl, hb, hr⟩
      · exact .inl ⟨e, by rw [e]; rfl⟩
  have hk := h.chk
  rcases hcase with ⟨e, e2⟩ | ⟨b, e, e2, hb, hr⟩
  · rw [e2] at hk ⊢
    refine ⟨by rw [e]; simp, by rw [e]; simp, ?_, by rw [e]; exact hk, by rw [e]; rfl, by rw [e]; rfl, ?_, ?_, h.wl, h.bl, h.st0, h.st1, h.sp0, h.sp1, h.post⟩
    · rw [e]; intro j hj; simp at hj; subst hj; exact ha
    · rw [e]; intro j hj; simp at hj; subst hj; rfl
    · rw [e]; exact fun h0 => h.still (hst h0)
  · rw [e2] at hk ⊢
    refine ⟨by rw [e]; simp, by rw [e]; simp, ?_, by rw [e]; exact hk, by rw [e]; rfl, ?_, ?_, ?_, h.wl, h.bl, h.st0, h.st1, h.sp0, h.sp1, h.post⟩
    · rw [e]; intro j hj; simp at hj; rcases hj with rfl | rfl
      · exact ha
      · exact hb
    · rw [e]
      simp only [List.map_cons, List.map_nil, hr]
      unfold Nd.rate
      simp [rd]
    · rw [e]; intro j hj; simp at hj; rcases hj with rfl | rfl
      · rfl
      · exact hr
    · rw [e]; exact fun h0 => h.still (hst h0)
/-- what ref15.Made has made so far: its nodes, how wide they are, how seldom they come -/
inductive MadeL (wd : Int) : List Nd → List Int → List Int → Prop
  | base : MadeL wd [] [wd] [1]
  | step {ns : List Nd} {W R : List Int} {n : Nd} {w r : Int} : MadeL wd ns W R → StepN n W R w r → MadeL wd (ns ++ [n]) (W ++ [w]) (R ++ [r])
theorem MadeL.len {wd : Int} {ns : List Nd} {W R : List Int} (h : MadeL wd ns W R) : W.length = ns.length + 1 ∧ R.length = ns.length + 1 := by
  induction h with
  | base => exact ⟨rfl, rfl⟩
  | step _ _ ih => simp [ih.1, ih.2]
theorem MadeL.wide {wd : Int} {ns : List Nd} {W R : List Int} (hw : 1 ≤ wd ∧ wd ≤ 16) (h : MadeL wd ns W R) : ∀ x ∈ W, 1 ≤ x ∧ x ≤ 16 := by
  induction h with
  | base => intro x hx; simp at hx; subst hx; exact hw
  | step _ hs ih =>
    intro x hx
    rcases List.mem_append.1 hx with hx | hx
    · exact ih x hx
    · simp at hx; subst hx; rw [hs.wd]; exact rwide_pos hs.chk
theorem MadeL.inn {wd : Int} {ns : List Nd} {W R : List Int} (h : MadeL wd ns W R) : ∀ n ∈ ns, n.inn.length ≤ 2 ∧ ∀ j ∈ n.inn, 0 ≤ j ∧ j ≤ ns.length := by
  induction h with
  | base => intro n hn; simp at hn
  | step hM hs ih =>
    intro n hn
    rw [List.length_append, List.length_singleton]
    rcases List.mem_append.1 hn with hn | hn
    · exact ⟨(ih n hn).1, fun j hj => by have := (ih n hn).2 j hj; omega⟩
    · simp at hn; subst hn
      exact ⟨hs.l2, fun j hj => by have := hs.inn j hj; have := hM.len; omega⟩
/-! from contracts to rows -/
theorem Tab.size {w : World} (h : Tab w) : G0 ≤ w.heap.size := by
  have h0 := h 0 0 rfl
  unfold World.cell? at h0
  simp only at h0
  rcases Nat.lt_or_ge 0 w.heap.size with hl | hl
  · exact hl
  · rw [Array.getElem?_eq_none hl] at h0; cases h0
theorem KTab : KT Tab := ⟨⟨fun _ _ hb h => h.below hb, fun _ h => h.size⟩, fun _ h => h⟩
theorem Cg.calls {P : Program} {T : World → Prop} {f : Nat} {xs : List S} {R0 : S} {v0 : Value} (C : Cg P T f [] xs (fun r H => H = [] ∧ r = R0)) (hv : ∀ η F w v, RS η F w R0 v → v = v0) {w : World} (vs : List Value) (hT : T w) (hx : RSL η0 (fun _ => True) w xs vs) :
    Calls P f vs.toArray w fun e w' => e = .returned v0 ∧ Below w.heap.size w w' := by
  refine (C.2 (fun _ => True) w η0 vs hT (show In w (fun _ => True) [] η0 from ⟨fun k o hk => (by simp [lh] at hk), fun k o g hk => (by simp [lh] at hk), fun k k' o o' _ hk => (by simp [lh] at hk)⟩) hx).mono ?_
  rintro e w' ⟨r, v, Ho, η', rfl, ⟨rfl, rfl⟩, h1, h2⟩
  refine ⟨by rw [hv _ _ _ _ h1], h2.bel.below fun b ⟨k, o, hk, _⟩ => by simp [lh] at hk⟩
/-- a row of numbers that came in -/
theorem Rd_ints {w : World} {a : Option Addr} {len cap : Nat} {zs : List Int} (h : (a = none ∧ len = 0 ∧ cap = 0 ∧ zs = []) ∨ ∃ x, a = some x ∧ len ≤ cap ∧ cap ≤ maxLen ∧ zs.length = cap ∧ ∀ i, i < zs.length → w.cell? (x.add i) = some (.int .i64 (zs.getD i 0))) :
    Rd (fun _ => True) w (.row [.i .i64 0] ((zs.take len).map intC)) (.slice a len cap) := by
  simp only [Rd]
  rcases h with ⟨rfl, rfl, rfl, rfl⟩ | ⟨x, rfl, hl, hm, hz, hc⟩
  · exact ⟨none, 0, rfl, Nat.le_refl _, .inl ⟨rfl, fun _ => rfl⟩⟩
  · have hlen : ((zs.take len).map intC).length = len := by simp; omega
    refine ⟨some x, cap, by rw [hlen], by rw [hlen]; exact hl, ?_⟩
    rcases Nat.eq_zero_or_pos len with h0 | h0
    · subst h0
      exact .inl ⟨by simp, fun e => by cases e⟩
    · right
      have c0 := hc 0 (by omega)
      rw [show x.add 0 = x from if_pos rfl] at c0
      have hadd : ∀ i, x.add i = if i = 0 then x else { x with off := x.off + i, spot := none } := fun i => rfl
      unfold World.cell? at c0
      cases hq : w.heap[x.block]? with
      | none => rw [hq] at c0; cases c0
      | some o =>
        rw [hq] at c0
        cases o <;> simp only at c0 <;> try (cases c0; done)
        rename_i cs t fr
        have hsp : x.spot = none := by
          cases hs : x.spot with
          | none => rfl
          | some q => rw [hs] at c0; cases c0
        refine ⟨x, cs, t, fr, rfl, hsp, trivial, hq, RdE.of fun j e he => ?_⟩
        have hj : j < len := by
          have := (List.getElem?_eq_some_iff.1 he).1
          omega
        have hcj := hc j (by omega)
        have he2 : e = intC (zs.getD j 0) := by
          rw [List.getElem?_map, List.getElem?_take, if_pos hj] at he
          cases hz2 : zs[j]? with
          | none => rw [hz2] at he; cases he
          | some z =>
            rw [hz2] at he
            simp only [Option.map_some, Option.some.injEq] at he
            rw [← he, List.getD_eq_getElem?_getD, hz2]; rfl
        subst he2
        refine ⟨rfl, ?_⟩
        simp only [intC, RdC, and_true]
        refine ⟨_, ?_, rfl⟩
        unfold World.cell? at hcj
        rw [hadd] at hcj
        by_cases hj0 : j = 0
        · subst hj0
          rw [if_pos rfl, hq] at hcj
          simp only [hsp, Option.isSome_none, Bool.false_eq_true, if_false] at hcj
          simpa using hcj
        · rw [if_neg hj0] at hcj
          simp only [hq, Option.isSome_none, Bool.false_eq_true, if_false] at hcj
          simpa using hcj
section
variable {η : Nat → Value} {F : Nat → Prop} {w : World}
theorem RSL_nil : RSL η F w [] [] := by simp only [RSL]
theorem RSL_cons {c : S} {cs : List S} {v : Value} {r : List Value} (h : RS η F w c v) (k : RSL η F w cs r) : RSL η F w (c :: cs) (v :: r) := by
  simp only [RSL]; exact ⟨v, r, rfl, h, k⟩
theorem RS_int (k : IntKind) (n : Int) : RS η F w (.d (.i k n)) (.int k n) := by simp only [RS, Rd]
theorem RS_d {x : D} {v : Value} (h : Rd F w x v) : RS η F w (.d x) v := by simp only [RS]; exact h
theorem RS_true {v : Value} (h : RS η F w (.d (.b true)) v) : v = .bool true := by simpa only [RS, Rd] using h
theorem RS_agg {cs : List S} {vs : List Value} (h : RSL η F w cs vs) : RS η F w (.agg cs) (.agg vs.toArray) := by simp only [RS]; exact ⟨_, rfl, h⟩
end
/-- a contract without objects, whose answer is a number or a bool, in the other form -/
theorem Cg.ct {P : Program} {T : World → Prop} {f : Nat} {xs : List S} {R0 : S} (C : Cg P T f [] xs (fun r H => H = [] ∧ r = R0)) (hv : ∀ η F w v, RS η F w R0 v → ∀ η' F', RS η' F' w R0 v) : Ct P T f xs true (fun r => r = R0) :=
  ⟨C.1, fun F w vs hT hx => (C.2 F w η0 vs hT ⟨fun k o hk => (by simp [lh] at hk), fun k o g hk => (by simp [lh] at hk), fun k k' o o' _ hk => (by simp [lh] at hk)⟩ hx).mono (by
    rintro e w' ⟨r, v, Ho, η', rfl, ⟨rfl, rfl⟩, h1, h2⟩
    exact ⟨_, v, rfl, rfl, hv _ _ _ _ h1 _ _, h2.bel.below fun b ⟨k, o, hk, _⟩ => by simp [lh] at hk⟩)⟩
theorem num_ct (k : IntKind) (n : Int) : ∀ (η : Nat → Value) (F : Nat → Prop) (w : World) (v : Value), RS η F w (.d (.i k n)) v → ∀ η' F', RS η' F' w (.d (.i k n)) v := fun η F w v h η' F' => by simpa only [RS, Rd] using h
theorem bool_ct (b : Bool) : ∀ (η : Nat → Value) (F : Nat → Prop) (w : World) (v : Value), RS η F w (.d (.b b)) v → ∀ η' F', RS η' F' w (.d (.b b)) v := fun η F w v h η' F' => by simpa only [RS, Rd] using h
/-! an operation that stands where a call may stand; a value whose nils are rows of none -/
section
variable {E : Env} {ops : List Oper} {o : Oper} {s : St} {rest : List Oper} {K : St → Prop} {d : Nat}
end
/-- a contract whose answer is an own row, where the row is only read from now on -/
theorem Cg.data {P : Program} {T : World → Prop} {f : Nat} {xs : List S} {k : Nat} {t : TypeId} {e0 : List D} {es : List (List D)} (C : Cg P T f [] xs (fun r H => H = [(k, .row t e0 es)] ∧ r = .own k)) : Cg P T f [] xs (fun r H => H = [] ∧ r = .d (.row e0 es)) :=
  ⟨C.1, fun F w η vs hT hi hx => (C.2 F w η vs hT hi hx).mono (by
    rintro e w' ⟨r, v, Ho, η', rfl, ⟨rfl, rfl⟩, h1, h2⟩
    have hlk : lh [(k, Obj'.row t e0 es)] k = some (.row t e0 es) := by simp [lh]
    refine ⟨_, v, [], η, rfl, ⟨rfl, rfl⟩, ?_, ⟨fun k o hk => (by simp [lh] at hk), fun k o g hk => (by simp [lh] at hk), fun k k' o o' _ hk => (by simp [lh] at hk), fun k o hk => (by simp [lh] at hk), fun k _ => rfl, h2.bel⟩⟩
    simp only [RS] at h1 ⊢
    subst h1
    obtain ⟨xs', ho, r⟩ := h2.ob k _ hlk
    have hs : Sub (Gd w F [(k, Obj'.row t e0 es)] η') w' (Gd w F [] η) w' := fun b o hb ho => ⟨⟨hb.1, fun k o hk => by simp [lh] at hk⟩, ho⟩
    have r := RdE.mono hs _ _ _ _ r
    have hF : ∀ g, blk (η' k) = some g → Gd w F [] η g := fun g hg => ⟨by
      rcases (h2.ge k _ g hlk hg).2 with h3 | ⟨k', o', h3, _⟩
      · exact .inl h3
      · simp [lh] at h3, fun k o hk => by simp [lh] at hk⟩
    simp only [Rd]
    rcases ho.2 with ⟨hv, hn⟩ | ⟨g, cap, cur, hv, hb, hh, hc, hm, hcs, ht⟩
    · have : es = [] := List.eq_nil_of_length_eq_zero hn
      subst this
      exact ⟨none, 0, hv, Nat.le_refl _, .inl ⟨rfl, fun _ => rfl⟩⟩
    · refine ⟨_, cap, hv, hc, .inr ⟨_, cur, t, (0, 0), rfl, rfl, hF g (by rw [hv]; rfl), hh, r.congr fun j hj => ?_⟩⟩
      simp only [Nat.zero_add, List.getElem?_toArray]
      rw [← ht, List.getElem?_take, if_pos hj]
      simp)⟩
/-! ## code within a frame that may be a round of a loop over a function -/
def FR (ro : Option Nat) : Fence := { Fence.wide with round := ro }
/-- no defer statement -/
def ndf (o : Oper) : Bool := match o.op with
  | .defer _ => false
  | _ => true
section into
variable {ro : Option Nat} {n : Nat} {P : Program} {Q : Exit → Act → World → Prop}
end into
def QR (E : Env) (Q : Exit → St → Prop) : Exit → Act → World → Prop := fun e a' w' => e ≠ .outgrown ∧ ∃ s' η', Rel E s' a' w' η' ∧ Q e s'
def TrR (ro : Option Nat) (E : Env) (c : Code) (Q : Exit → St → Prop) (s : St) : Prop := ∀ n a w η, Rel E s a w η → c.wpIn (FR ro) n E.P (QR E Q) a w
section code
variable {ro : Option Nat} {E : Env} {Q : Exit → St → Prop} {s : St}
theorem TrR.exit {l : Nat} (h : Q (.exit l) s) : TrR ro E (.exit l) Q s := fun n a w η hR => wpIn_exit ⟨by simp, s, η, hR, h⟩
theorem TrR.goto {l : Nat} (h : Q (.goto l) s) : TrR ro E (.goto l) Q s := fun n a w η hR => wpIn_goto ⟨by simp, s, η, hR, h⟩
theorem TrR.ret (h : Q .ret s) : TrR ro E .ret Q s := fun n a w η hR => wpIn_ret ⟨by simp, s, η, hR, h⟩
theorem TrR.block {id : Nat} {c : Code} (h : TrR ro E c (inBlk id Q) s) : TrR ro E (.block id c) Q s := fun n a w η hR => by
  refine wpIn_block (wpIn_mono (h n a w η hR) ?_)
  rintro e a' w' ⟨h0, s', η', h1, h2⟩
  cases e <;> try exact ⟨h0, s', η', h1, h2⟩
  case exit i =>
    simp only [inBlk] at h2
    simp only [Exit.inBlock]
    split
    · rename_i e; rw [if_pos e] at h2; exact ⟨by simp, s', η', h1, h2⟩
    · rename_i e; rw [if_neg e] at h2; exact ⟨by simp, s', η', h1, h2⟩
theorem TrR.mono {c : Code} {Q' : Exit → St → Prop} (h : TrR ro E c Q s) (hq : ∀ e s, Q e s → Q' e s) : TrR ro E c Q' s := fun n a w η hR =>
  wpIn_mono (h n a w η hR) fun e a' w' ⟨h0, s', η', h1, h2⟩ => ⟨h0, s', η', h1, hq e s' h2⟩
section draw
variable {id : Nat} {ops : List Oper}
end draw
end code
/-! ## a loop over a function: its rounds, the function, the statement -/
def isL (r : Loop) : Obj → Prop := fun o => o = .loop r
def prmT : List Nat → List S → Tm → Tm
  | p :: ps, x :: xs, t => prmT ps xs ((p, x) :: t)
  | _, _, t => t
section inout
variable {E : Env} {w : World} {F : Nat → Prop} {η : Nat → Value} {Hi : Hp} (h4 : E.w0 = w) (h5 : E.F = F) (hW : E.W = fun b => ∃ k o, lh Hi k = some o ∧ blk (η k) = some b)
include h4 h5 hW
end inout
/-- what a call of yield does, at Hi's objects, with xs -/
def YC (P : Program) (T : World → Prop) (l : Nat) (w1 : World) (F0 : Nat → Prop) (η1 : Nat → Value) (Hi : Hp) (xs : List S) (post : Hp → Prop) : Prop :=
  ∀ (n : Nat) (F : Nat → Prop) (w : World) (η : Nat → Value) (vs : List Value), T w → In w F Hi η → (∀ k o, lh Hi k = some o → η k = η1 k) → SubC F0 w1 F w → RSL η F w xs vs →
    YieldAt (FR none) n P l vs.toArray w fun e w' => e = .returned (.bool true) ∧ ∃ Ho η', post Ho ∧ Out w w' F Hi Ho η η'
/-- how a round's body may end -/
def EndQ (E : Env) (ks : List Nat) (R1 : Obj → Prop) (post : Hp → Prop) : Exit → St → Prop
  | .normal, s => ∃ s', Le E s s' ∧ aliveK ks s'.h ∧ lh s'.h 9001 = some (.mp R1) ∧ closedH (nkH (keepH ks s'.h)) (keepH ks s'.h) = true ∧ post (keepH ks s'.h)
  | _, _ => False
def MidQ (ro : Option Nat) (E : Env) (body : Code) (R0 R1 : Obj → Prop) (Qe : Exit → St → Prop) : Exit → St → Prop
  | .normal, s => lh s.h 9001 = some (.mp R0) ∧ TrR ro E body Qe (s.upd 9001 (.mp R1))
  | _, _ => False
/-! ## the function that is ranged over -/
structure okH (Hi H : Hp) : Prop where
  inn : inH H H
  key : ∀ j, (lh H j).isSome = (lh Hi j).isSome
  cls : closedH (nkH H) H = true
/-- f, called with a loop's yield, calls it len times in turn, with X k at the k-th; J tells of the objects in between -/
def ItC (P : Program) (TT : World → Prop) (f : Nat) (caps : List S) (X : Nat → List S) (len : Nat) : Prop :=
  (∀ args w, (callFunc f args).run P w = .ok (.enter f args) w) ∧
  ∀ (l : Nat) (w1 : World) (F0 : Nat → Prop) (η1 : Nat → Value) (Hi : Hp) (J : Nat → Hp → Prop) (vs : List Value), TT w1 → In w1 F0 Hi η1 → (∀ k o, lh Hi k = some o → 1000 ≤ k) → η1 999 = .func (.yield l) #[] #[] → RSL η0 F0 w1 caps vs → J 0 Hi →
    (∀ k H, J k H → okH Hi H) → (∀ k H, k < len → J k H → YC P TT l w1 F0 η1 H (X k) (J (k + 1))) →
    Calls P f (Value.func (.yield l) #[] #[] :: vs).toArray w1 fun e w' => (∃ v, e = .returned v) ∧ ∃ Ho η', J len Ho ∧ Out w1 w' F0 Hi Ho η1 η'
/-- what the function that is ranged over knows of yield -/
def YE (E : Env) (H : Hp) (xs : List S) (post : Hp → Prop) : Prop := inH H H ∧ (∀ Ho, post Ho → ∀ j, (lh Ho j).isSome = (lh H j).isSome) ∧ ∃ l, E.pin 999 = some (.func (.yield l) #[] #[]) ∧
  ∀ n t a w η vs, Rel E ⟨t, H⟩ a w η → RSL η (Fr E H η) w xs vs → YieldAt (FR none) n E.P l vs.toArray w fun e w' => e = .returned (.bool true) ∧ ∃ Ho η', post Ho ∧ Out w w' (Fr E H η) H Ho η η'
def ItQ (J : Hp → Prop) : Exit → St → Prop
  | .normal, s | .ret, s => J s.h
  | _, _ => False
def cutO : Nat → List Oper → Option (List Oper × Oper × List Oper)
  | _, [] => none
  | 0, o :: r => some ([], o, r)
  | k + 1, o :: r => match cutO k r with
    | none => none
    | some (p, q, u) => some (o :: p, q, u)
/-- slots speak of live objects alone -/
def clT (p : Nat → Bool) : Tm → Bool
  | [] => true
  | (_, x) :: r => !x.has p && clT p r
/-- a box that is only read from now on -/
theorem Le.fz {E : Env} {s : St} (i k : Nat) {ty : TypeId} {cs : List S} (ds : List D) (hi : lk s.t i = .ptr k 0) (hk : lh s.h k = some (.box ty cs)) (hd : cs = ds.map S.d) : Le E s ⟨(i, .fptr ds) :: (killS (k1 k) s).t, (killS (k1 k) s).h⟩ := fun a w η hR => by
  have h1 := hR.kill (k1 k)
  have hs := hR.kill_sub (k1 k)
  obtain ⟨g, vs, h2, h3, h4⟩ := hR.ob k _ hk
  have hv := hR.tm i
  rw [hi] at hv
  simp only [RS] at hv
  obtain ⟨g', e1, e2⟩ := hv
  rw [h2] at e1
  cases e1
  refine ⟨η, h1.sz, h1.df, fun j => ?_, h1.ob, h1.ge, h1.sep, h1.bel, h1.pn⟩
  show RS η _ w (lk ((i, .fptr ds) :: (killS (k1 k) s).t) j) _
  simp only [lk]
  split
  · rename_i e; subst e
    simp only [RS]
    refine ⟨⟨g, 0, none⟩, vs, ty, (0, 0), e2, rfl, ⟨?_, fun j o hj e => ?_⟩, h3, ?_⟩
    · rcases (hR.ge k _ g hk (by rw [h2]; rfl)).1 with h | h
      · exact .inl h
      · exact .inr (.inr h)
    · replace hj : lh (killH (k1 k) (k1 k) s.h) j = some o := hj
      rw [lh_killH] at hj
      split at hj
      · cases hj
      · rename_i hne
        cases hh : lh s.h j with
        | none => rw [hh] at hj; cases hj
        | some o' => exact hR.sep k j _ o' (fun e' => hne (by simp [k1, e'])) hk hh g (by rw [h2]; rfl) e
    · refine RdC.mono hs _ _ _ (RdC.of fun j d hj => ?_)
      obtain ⟨v, h5, h6⟩ := RSL_get (hd ▸ h4) j (.d d) (by simp [hj])
      exact ⟨v, by simpa using h5, by simpa only [RS] using h6⟩
  · exact h1.tm j
/-! own rows whose elements may be own rows -/
def rwS (ds : List D) : List S := ds.map S.d
theorem rwS_len (ds : List D) : (rwS ds).length = ds.length := by simp [rwS]
theorem killC_rwS (p : Nat → Bool) : ∀ ds : List D, killC p (rwS ds) = rwS ds
  | [] => rfl
  | d :: ds => by
    have := killC_rwS p ds
    unfold rwS at this ⊢
    simp only [List.map_cons, killC, S.has, Bool.false_eq_true, if_false, this]
theorem killC_set (p : Nat → Bool) : ∀ (l : List S) (i : Nat) (x : S), killC p (l.set i x) = (killC p l).set i (if x.has p then .any else x)
  | [], _, _ => rfl
  | c :: l, 0, x => rfl
  | c :: l, i + 1, x => by simp only [List.set_cons_succ, killC, killC_set p l i x]
theorem frzL_rwS (h : Nat) (r : D) : ∀ ds : List D, frzL h r (rwS ds) = rwS ds
  | [] => rfl
  | d :: ds => by
    have := frzL_rwS h r ds
    unfold rwS at this ⊢
    simp only [List.map_cons, frzL, frzS, this]
theorem frzL_set (h : Nat) (r : D) : ∀ (l : List S) (i : Nat) (x : S), frzL h r (l.set i x) = (frzL h r l).set i (frzS h r x)
  | [], _, _ => rfl
  | c :: l, 0, x => rfl
  | c :: l, i + 1, x => by simp only [List.set_cons_succ, frzL, frzL_set h r l i x]
theorem renL_rwS (k k' : Nat) : ∀ ds : List D, renL k k' (rwS ds) = rwS ds
  | [] => rfl
  | d :: ds => by
    have := renL_rwS k k' ds
    unfold rwS at this ⊢
    simp only [List.map_cons, renL, renS, this]
theorem renL_set (k k' : Nat) : ∀ (l : List S) (i : Nat) (x : S), renL k k' (l.set i x) = (renL k k' l).set i (renS k k' x)
  | [], _, _ => rfl
  | c :: l, 0, x => rfl
  | c :: l, i + 1, x => by simp only [List.set_cons_succ, renL, renL_set k k' l i x]
theorem hasL_rwS (p : Nat → Bool) : ∀ ds : List D, S.hasL p (rwS ds) = false
  | [] => rfl
  | d :: ds => by
    have := hasL_rwS p ds
    unfold rwS at this ⊢
    simp only [List.map_cons, S.hasL, S.has, this, Bool.or_self]
theorem hasL_set (p : Nat → Bool) : ∀ (ds : List D) (i : Nat) (x : S), S.hasL p ((rwS ds).set i x) = (decide (i < ds.length) && x.has p)
  | [], i, x => by simp [rwS, S.hasL]
  | d :: ds, 0, x => by
    have := hasL_rwS p ds
    unfold rwS at this ⊢
    simp only [List.map_cons, List.set_cons_zero, S.hasL, this, Bool.or_false, List.length_cons, Nat.zero_lt_succ, decide_true, Bool.true_and]
  | d :: ds, i + 1, x => by
    have := hasL_set p ds i x
    unfold rwS at this ⊢
    simp only [List.map_cons, List.set_cons_succ, S.hasL, S.has, this, Bool.false_or, List.length_cons, Nat.add_lt_add_iff_right]
theorem rwS_set (ds : List D) (i : Nat) (d : D) : (rwS ds).set i (.d d) = rwS (ds.set i d) := by
  unfold rwS; rw [List.map_set]
theorem rwS_getD {ds : List D} {i : Nat} (h : i < ds.length) : (rwS ds).getD i .any = .d (ds.getD i .nil) := by
  unfold rwS; simp [List.getD, h]
theorem set_getD {α : Type} {l : List α} {i j : Nat} {x d : α} (hi : i < l.length) : (l.set i x).getD j d = if i = j then x else l.getD j d := by
  rw [List.getD_eq_getElem?_getD, List.getD_eq_getElem?_getD, List.getElem?_set]
  split
  · rename_i e; subst e; simp [hi]
  · rfl
section
variable {E : Env} {s : St} {η : Nat → Value} {F : Nat → Prop} {w : World}
theorem RSL_rwS {ds : List D} {vs : List Value} (r : RdE F w 1 vs.toArray 0 (ds.map fun d => [d])) (hl : vs.length = ds.length) : RSL η F w (rwS ds) vs :=
  RSL_of (by rw [rwS_len]; exact hl) fun j x hj => by
    unfold rwS at hj
    rw [List.getElem?_map] at hj
    cases hd : ds[j]? with
    | none => rw [hd] at hj; cases hj
    | some d =>
      rw [hd] at hj
      obtain rfl : S.d d = x := by simpa using hj
      obtain ⟨_, h2⟩ := r.get j [d] (by simp [hd])
      obtain ⟨v, h3, h4⟩ := h2.get 0 d rfl
      exact ⟨v, by simpa using h3, by simp only [RS]; exact h4⟩
theorem RdE_rwS {ds : List D} {vs : List Value} (r : RSL η F w (rwS ds) vs) : RdE F w 1 vs.toArray 0 (ds.map fun d => [d]) :=
  RdE.of fun j e hj => by
    rw [List.getElem?_map] at hj
    cases hd : ds[j]? with
    | none => rw [hd] at hj; cases hj
    | some d =>
      rw [hd] at hj
      obtain rfl : [d] = e := by simpa using hj
      refine ⟨rfl, RdC.of fun k d' hk => ?_⟩
      have hk0 : k = 0 := by
        have := (List.getElem?_eq_some_iff.1 hk).1
        simp at this; exact this
      subst hk0
      obtain rfl : d = d' := by simpa using hk
      obtain ⟨v, h3, h4⟩ := RSL_get r j (.d d) (by unfold rwS; simp [hd])
      exact ⟨v, by simpa using h3, by simpa only [RS] using h4⟩
theorem Le.rows (k : Nat) {t : TypeId} {e0 : List D} (ds : List D) (hk : lh s.h k = some (.row t e0 (ds.map fun d => [d]))) (h0 : e0.length = 1) : Le E s (s.upd k (.rows t (rwS ds))) := fun a w η hR => by
  refine ⟨η, (hR.wrote k _ (.rows t (rwS ds)) hk rfl rfl rfl rfl (fun _ _ => rfl) fun F hs => ?_).1⟩
  obtain ⟨xs, h1, h2⟩ := hR.ob k _ hk
  rw [h0, List.length_map] at h1
  rw [h0] at h2
  have hl : xs.length = ds.length := by have := h1.1; rw [Nat.mul_one] at this; exact this
  exact ⟨xs, by rw [rwS_len]; exact h1, RSL_rwS (RdE.mono hs _ _ _ _ h2) hl⟩
theorem Le.unrows (k : Nat) {t : TypeId} (e0 : List D) (ds : List D) (hk : lh s.h k = some (.rows t (rwS ds))) (h0 : e0.length = 1) : Le E s (s.upd k (.row t e0 (ds.map fun d => [d]))) := fun a w η hR => by
  refine ⟨η, (hR.wrote k _ (.row t e0 (ds.map fun d => [d])) hk rfl rfl rfl rfl (fun _ _ => rfl) fun F hs => ?_).1⟩
  obtain ⟨xs, h1, h2⟩ := hR.ob k _ hk
  rw [rwS_len] at h1
  exact ⟨xs, by rw [h0, List.length_map]; exact h1, by rw [h0]; exact RdE_rwS (RSL.mono hs _ _ h2)⟩
/-- a nil in a row -/
theorem Le.nilrows (k' k i : Nat) (t' : TypeId) (e0 : List D) {t : TypeId} {ss : List S} (hk : lh s.h k = some (.rows t ss)) (hi : ss[i]? = some (.d .nil)) (hp : E.pin k' = none) (ht : freeT k' s.t = true) (hh : freeH k' s.h = true) :
    Le E s ⟨s.t, ((⟨s.t, (k', .row t' e0 []) :: s.h⟩ : St).upd k (.rows t (ss.set i (.own k')))).h⟩ := fun a w η hR => by
  obtain ⟨h1, h2⟩ := hR.fresh t' e0 hp ht hh
  have hne : k' ≠ k := fun e => (freeH_lh hh hk).1 e.symm
  have hk2 : lh ((k', .row t' e0 []) :: s.h) k = some (.rows t ss) := by simp only [lh]; rw [if_neg hne]; exact hk
  refine ⟨etaN k' η, (h1.wrote k _ (.rows t (ss.set i (.own k'))) hk2 rfl rfl rfl rfl (fun _ _ => rfl) fun F hs => ?_).1⟩
  obtain ⟨xs, h3, h4⟩ := h1.ob k _ hk2
  have h5 := RSL.mono hs _ _ h4
  refine ⟨xs, by rw [List.length_set]; exact h3, RSL_of (by rw [List.length_set]; exact RSL_len h5) fun j x hj => ?_⟩
  rw [List.getElem?_set] at hj
  split at hj
  · rename_i e
    subst e
    obtain ⟨v, h6, h7⟩ := RSL_get h5 i _ hi
    have hx : S.own k' = x := by
      split at hj
      · simpa using hj
      · cases hj
    subst hx
    refine ⟨v, h6, ?_⟩
    simp only [RS, Rd] at h7 ⊢
    rw [h7, etaN_at]
  · exact RSL_get h5 j x hj
end
/-- a box that is only read from now on, whose cells speak of own rows -/
theorem Le.fzs {E : Env} {s : St} (i k : Nat) {ty : TypeId} {cs : List S} (hi : lk s.t i = .ptr k 0) (hk : lh s.h k = some (.box ty cs)) : Le E s ⟨(i, .fps cs) :: (killS (k1 k) s).t, (killS (k1 k) s).h⟩ := fun a w η hR => by
  have h1 := hR.kill (k1 k)
  have hs := hR.kill_sub (k1 k)
  obtain ⟨g, vs, h2, h3, h4⟩ := hR.ob k _ hk
  have hv := hR.tm i
  rw [hi] at hv
  simp only [RS] at hv
  obtain ⟨g', e1, e2⟩ := hv
  rw [h2] at e1
  cases e1
  refine ⟨η, h1.sz, h1.df, fun j => ?_, h1.ob, h1.ge, h1.sep, h1.bel, h1.pn⟩
  show RS η _ w (lk ((i, .fps cs) :: (killS (k1 k) s).t) j) _
  simp only [lk]
  split
  · rename_i e; subst e
    simp only [RS]
    refine ⟨⟨g, 0, none⟩, vs, ty, (0, 0), e2, rfl, ⟨?_, fun j o hj e => ?_⟩, h3, ?_⟩
    · rcases (hR.ge k _ g hk (by rw [h2]; rfl)).1 with h | h
      · exact .inl h
      · exact .inr (.inr h)
    · replace hj : lh (killH (k1 k) (k1 k) s.h) j = some o := hj
      rw [lh_killH] at hj
      split at hj
      · cases hj
      · rename_i hne
        cases hh : lh s.h j with
        | none => rw [hh] at hj; cases hj
        | some o' => exact hR.sep k j _ o' (fun e' => hne (by simp [k1, e'])) hk hh g (by rw [h2]; rfl) e
    · have h5 := RSL.mono hs _ _ h4
      rwa [List.drop_zero, List.take_of_length_le (by rw [RSL_len h4]; exact Nat.le_refl _)]
  · exact h1.tm j
/-! what a slot says to somebody who reads boxes, and rows of own rows -/
def okR (H : Hp) : S → Bool
  | .d _ => true
  | .own k => match lh H k with
    | some (.row _ _ _) => true
    | _ => false
  | _ => false
def dR (H : Hp) : S → D
  | .d x => x
  | .own k => match lh H k with
    | some (.row _ e0 es) => .row e0 es
    | _ => .nil
  | _ => .nil
def cvo (H : Hp) : S → S
  | .own k => match lh H k with
    | some (.rows _ ss) => if ss.all (okR H) = true then .d (.row [.nil] (ss.map fun x => [dR H x])) else .any
    | _ => cv H (.own k)
  | x => cv H x
def cvoL (H : Hp) : List S → List S
  | [] => []
  | c :: cs => cvo H c :: cvoL H cs
def asR : List S → Option (List D)
  | [] => some []
  | .d x :: r => match asR r with
    | some l => some (x :: l)
    | none => none
  | _ :: _ => none
def cv3 (H : Hp) : S → S
  | .ptr h o => match lh H h with
    | some (.box _ cs) => match asR (cvoL H cs) with
      | some ds => .fptr (ds.drop o)
      | none => .any
    | _ => .any
  | x => cvo H x
def cv3L (H : Hp) : List S → List S
  | [] => []
  | c :: cs => cv3 H c :: cv3L H cs
section
variable {E : Env} {s : St} {a : Act} {w : World} {η η' : Nat → Value} (h : Rel E s a w η)
include h
end
section
variable {E : Env} {ops : List Oper} {o : Oper} {s sr : St} {rest : List Oper} {K : St → Prop} {nw wr : List Nat} {AP' : St → St → List Nat → Prop} {fx : Operand} {args : Array Operand} {ts : Array TypeId} {f : Nat} {caps bs xs : List S} {d : Nat} {F : S} {Hi : Hp} {post : S → Hp → Prop}
/-- a method that is called as a value -/
theorem call_mth {a : Act} {w : World} {η : Nat → Value} (h : Rel E s a w η) (ho : o.op = .call { callee := .value fx, args := args, argTypes := ts }) (hf : stp (ev s fx) = .mth f bs) (c1 : stc (ev s fx)) (c2 : stcL s args.toList)
    (hent : ∀ args w, (callFunc f args).run E.P w = .ok (.enter f args) w) : ∃ vs : List Value, (execOp a.eval o).run E.P w = .ok (.enter f vs.toArray) w ∧ RSL η (Fr E s.h η) w (bs ++ stpL s args.toList) vs := by
  have rf := opd h hf c1
  simp only [RS] at rf
  obtain ⟨cs, hv, rc⟩ := rf
  refine ⟨cs.toList ++ args.toList.map a.eval, ?_, RSL_append rc (RSL_ev h _ c2)⟩
  unfold execOp
  have e : (cs.toList ++ args.toList.map a.eval).toArray = cs ++ args.map a.eval := by
    apply Array.ext'; simp
  rw [e]
  simp only [ho, resolve, hv, Deferred.ofValue, Sem.run_bind, Sem.run_pure, Result.andThen_ok, invoke, Array.append_empty, hent]
theorem CallN_mx (C : Cg E.P E.T f Hi xs post) (ho : o.op = .call { callee := .value fx, args := args, argTypes := ts }) (hd : o.dst = some d) (hf : stp (ev s fx) = .mth f bs) (c1 : stc (ev s fx)) (c2 : stcL s args.toList)
    (hxs : bs ++ stpL s args.toList = xs) (hi : inH s.h Hi) (hdn : d < E.n)
    (hr : ∀ r Ho, post r Ho → (∀ k, newK Hi Ho k = true → E.pin k = none) ∧ SQ E ops rest ⟨(d, r) :: (cgS s Hi Ho).t, (cgS s Hi Ho).h⟩ K) : CallN E ops o none s rest K := by
  intro _ hg Q a w η h hK
  obtain ⟨vs, h1, h2⟩ := call_mth h ho hf c1 c2 C.1
  refine wpList_plain (hg rfl) fun K' hK' => ?_
  unfold Oper.wp
  rw [h1]
  show Calls E.P f vs.toArray w _
  refine (C.2 (Fr E s.h η) w η vs h.hT (In.of h hi) (hxs ▸ h2)).mono ?_
  rintro e w' ⟨r, v, Ho, η', rfl, hp, hv, hO⟩
  obtain ⟨hn, hs⟩ := hr r Ho hp
  obtain ⟨hR, hG, _⟩ := hO.rel h hi hn
  refine hK' _ _ (SQ_ok hK rest _ hs _ _ η' ?_)
  rw [hd]
  exact hR.put hdn (RS.mono hG _ _ hv)
theorem lh_fst : ∀ {H : Hp} {k : Nat} {o : Obj'}, lh H k = some o → k ∈ H.map Prod.fst
  | [], k, o, h => by cases h
  | (i, x) :: r, k, o, h => by
    simp only [lh] at h
    split at h
    · rename_i e; subst e; simp
    · exact List.mem_cons_of_mem _ (lh_fst h)
/-- a call in a drawn region that finds its objects as they were -/
theorem CallP_co {R0 : S} (C : Cg E.P E.T f Hi xs (fun r H => H = Hi ∧ r = R0)) (ho : o.op = .call { callee := .value fx, args := args, argTypes := ts }) (hd : o.dst = some d) (hf : stp (ev s fx) = .fn f caps) (c1 : stc (ev s fx)) (c2 : stcL s args.toList)
    (hxs : stpL s args.toList ++ caps = xs) (hi : inH s.h Hi) (hwr : subL (Hi.map Prod.fst) (wr ++ nw) = true) (hdn : d < E.n) (hr : AP' ⟨(d, R0) :: s.t, s.h⟩ ⟨(d, .any) :: sr.t, sr.h⟩ nw) : CallP E ops wr o none s sr nw AP' := by
  intro Q Kc a w η h _ hg hK
  rw [if_pos (by simp [Region.wanted, hg rfl])]
  obtain ⟨vs, h1, h2⟩ := call_run h ho hf c1 c2 C.1
  unfold Oper.wp
  rw [h1]
  show Calls E.P f vs.toArray w _
  refine (C.2 (Fr E s.h η) w η vs h.hT (In.of h hi) (hxs ▸ h2)).mono ?_
  rintro e w' ⟨r, v, Ho, η', rfl, ⟨rfl, rfl⟩, hv, hO⟩
  have hη : η' = η := funext fun k => by
    cases hk : lh Ho k with
    | none => exact hO.eta k hk
    | some o2 => exact (hO.pn k o2 hk).1
  subst hη
  obtain ⟨hR, hG, hS⟩ := hO.rel h hi fun k' hk' => by rw [newK_same] at hk'; cases hk'
  have hR2 : Rel E s a w' η' := by
    have := hR.ext (h' := s.h) fun k => (cgS_same hi k).symm
    rw [show (cgS s Ho Ho).t = s.t by show killT (newK Ho Ho) s.t = s.t; rw [newK_same, killT_none]] at this
    exact this
  have hF : Sub (Fr E (cgS s Ho Ho).h η') w' (Fr E s.h η') w' := fun b o hb ho => ⟨⟨hb.1, fun k o' hk => hb.2 k o' (by rw [cgS_same hi k]; exact hk)⟩, ho⟩
  refine hK d ⟨(d, r) :: s.t, s.h⟩ v w' η' (Ho.map Prod.fst) [] hd hwr (by rw [hd]; exact hR2.put hdn (RS.mono hF _ _ (RS.mono hG _ _ hv))) ⟨hS.trans hF, fun j _ => rfl, fun j b e _ => (by cases e), hO.bel.size, fun b o2 hb hn => ?_⟩ hr
  rw [hO.bel.block b (Array.getElem?_eq_some_iff.1 hb).1 fun ⟨k', o', h3, h4⟩ => hn k' (lh_fst h3) h4]
  exact hb
end
/-! the plain law of graphs: what graph's functions compute -/
def mayN (N : Int) (n : Nd) : Bool := n.inn.all (inB · 0 N)
def mayQ (wd lo hi out N : Int) : Bool := decide (wd < 1) || decide (16 < wd) || decide (hi < lo) || decide (lo < -32768) || decide (32767 < hi) || decide (out < 1) || decide (N < out)
def mayG (wd lo hi out : Int) (ns : List Nd) : Int := if (decide ((ns.length : Int) < 1) || decide (12 < (ns.length : Int))) = true then 22 else if mayQ wd lo hi out ns.length = true then 1 else if ns.all (mayN ns.length) = true then 0 else 1
/-- may number i come next, behind o? -/
def mayO (ns : List Nd) (o : List Int) (i : Int) : Bool := !o.contains i && (nd ns (i - 1)).inn.all fun j => j == 0 || o.contains j
/-- the first that may, of m numbers from i on -/
def nextO (ns : List Nd) (o : List Int) : Nat → Int → Option Int
  | 0, _ => none
  | m + 1, i => if mayO ns o i = true then some i else nextO ns o m (i + 1)
/-- the order, as far as it goes, in k more rounds -/
def ordR (ns : List Nd) : Nat → List Int → List Int
  | 0, o => o
  | k + 1, o => match nextO ns o ns.length 1 with
    | none => ordR ns k o
    | some i => ordR ns k (o ++ [i])
/-- a node's rate, as graph.rate tells it -/
def Nd.gwin (n : Nd) : Bool := decide (1 < n.span) || decide (n.k ≤ 4) || n.k == 12
def Nd.grate (n : Nd) (l : List Int) : Int × Bool := if (l.any (· != rd l 0) || (rd l 0 == 0 && (n.gwin || n.k == 5))) = true then (0, false) else if (n.k == 5) = true then (0, true) else (wrap64 (rd l 0 * n.stp), true)
/-- what graph.look tells, walking along an order -/
def lookL (ns : List Nd) : List Int → List Int → List Int → Int × List Int × List Int
  | [], W, R => (0, W, R)
  | i :: r, W, R =>
    let n := nd ns (i - 1)
    if (n.chk (n.inn.map (rd W)) != 0) = true then (n.chk (n.inn.map (rd W)), [], [])
    else if (!(n.grate (n.inn.map (rd R))).2) = true then (15, [], [])
    else lookL ns r (W.set i.toNat (n.wide (n.inn.map (rd W)))) (R.set i.toNat (n.grate (n.inn.map (rd R))).1)
def order (ns : List Nd) : List Int := ordR ns ns.length []
/-- the error, the order, the widths, the rates -/
def lookG (wd lo hi out : Int) (ns : List Nd) : Int × List Int × List Int × List Int :=
  if (mayG wd lo hi out ns != 0) = true then (mayG wd lo hi out ns, [], [], [])
  else if (!((order ns).length == ns.length)) = true then (13, [], [], [])
  else match lookL ns (order ns) (wd :: List.replicate ns.length 0) (1 :: List.replicate ns.length 0) with
    | (e, W, R) => if (e != 0) = true then (e, [], [], []) else (0, order ns, W, R)
theorem nextO_range {ns : List Nd} {o : List Int} : ∀ {m : Nat} {i x : Int}, nextO ns o m i = some x → i ≤ x ∧ x < i + m ∧ mayO ns o x = true
  | 0, i, x, h => by cases h
  | m + 1, i, x, h => by
    unfold nextO at h
    split at h
    · rename_i hm
      cases h
      exact ⟨by omega, by omega, hm⟩
    · have := nextO_range h
      exact ⟨by omega, by omega, this.2.2⟩
theorem ordR_range {ns : List Nd} : ∀ {k : Nat} {o : List Int}, (∀ x ∈ o, 1 ≤ x ∧ x ≤ ns.length) → ∀ x ∈ ordR ns k o, 1 ≤ x ∧ x ≤ ns.length
  | 0, o, h => h
  | k + 1, o, h => by
    unfold ordR
    split
    · exact ordR_range h
    · rename_i i hi
      have := nextO_range hi
      refine ordR_range fun x hx => ?_
      rcases List.mem_append.1 hx with hx | hx
      · exact h x hx
      · simp at hx; subst hx; omega
theorem ordR_length {ns : List Nd} : ∀ (k : Nat) (o : List Int), o.length ≤ (ordR ns k o).length ∧ (ordR ns k o).length ≤ o.length + k
  | 0, o => ⟨Nat.le_refl _, Nat.le_refl _⟩
  | k + 1, o => by
    unfold ordR
    split
    · have := ordR_length (ns := ns) k o; omega
    · rename_i i hi
      have := ordR_length (ns := ns) k (o ++ [i])
      simp at this
      omega
theorem mayG_ok {wd lo hi out : Int} {ns : List Nd} (h : mayG wd lo hi out ns = 0) : 1 ≤ ns.length ∧ ns.length ≤ 12 ∧ ∀ n ∈ ns, ∀ j ∈ n.inn, 0 ≤ j ∧ j ≤ ns.length := by
  unfold mayG at h
  split at h
  · cases h
  · rename_i h1
    split at h
    · cases h
    · split at h
      · rename_i h3
        simp only [Bool.or_eq_true, decide_eq_true_eq] at h1
        refine ⟨by omega, by omega, fun n hn j hj => ?_⟩
        have := List.all_eq_true.1 h3 n hn
        unfold mayN at this
        exact inB_iff.1 (List.all_eq_true.1 this j hj)
      · cases h
end Go.Proofs.YtgomeljgbjgbkaaGreatDoor.Aw
