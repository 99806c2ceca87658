/- The abstract walk, and contracts of Go functions: each call returns what the Lean function named tells. Conditions: those that each theorem names, none else. -/
import Derived.Below
import Derived.Tactics
import Derived.KernelRfl
import Derived.RowKit3
import Derived.Deep.LoopGhost
import Derived.Laws.MakeOwn
import Derived.Laws.OwnMore
import Derived.Laws.CopyOwn
import Derived.Laws.CopyRow
import Derived.Laws.Rows
import Derived.Laws.Slices
import Derived.OrdersHeld
import Derived.WalkKit
import Derived.RangeFuncRecord
set_option linter.unusedVariables false
set_option linter.unusedSimpArgs false
set_option linter.unusedSectionVars false
namespace Go.Proofs.YtgomeljgbjgbkaaGreatDoor.Aw
open Go.RowKit
/-! ## data: what a value says, read through memory that nobody writes any more -/
inductive D where
  | i (k : IntKind) (n : Int)
  | b (x : Bool)
  | s (x : ByteArray)
  | nil
  | row (e0 : List D) (es : List (List D))
  deriving Inhabited
section reads
variable (F : Nat → Prop) (w : World)
mutual
/-- v says d, by blocks in F alone -/
def Rd : D → Value → Prop
  | .i k n, v => v = .int k n
  | .b x, v => v = .bool x
  | .s x, v => v = .string x
  | .nil, v => v = .slice none 0 0
  | .row e0 es, v => ∃ a c, v = .slice a es.length c ∧ es.length ≤ c ∧ ((es = [] ∧ (a = none → c = 0)) ∨ ∃ ad cs t fr, a = some ad ∧ ad.spot = none ∧ F ad.block ∧ w.heap[ad.block]? = some (.cells cs t fr) ∧ RdE e0.length cs ad.off es)
/-- elements of z cells lie in cs from o on -/
def RdE (z : Nat) (cs : Array Value) : Nat → List (List D) → Prop
  | _, [] => True
  | o, e :: es => e.length = z ∧ RdC cs o e ∧ RdE z cs (o + z) es
/-- cells lie in cs from o on -/
def RdC (cs : Array Value) : Nat → List D → Prop
  | _, [] => True
  | o, d :: ds => (∃ v, cs[o]? = some v ∧ Rd d v) ∧ RdC cs (o + 1) ds
end
end reads
/-- all that lies in F, in w, lies in F', in w', too -/
def Sub (F : Nat → Prop) (w : World) (F' : Nat → Prop) (w' : World) : Prop := ∀ b o, F b → w.heap[b]? = some o → F' b ∧ w'.heap[b]? = some o
theorem Sub.refl (F : Nat → Prop) (w : World) : Sub F w F w := fun _ _ h k => ⟨h, k⟩
theorem Sub.trans {F F1 F2 : Nat → Prop} {w w1 w2 : World} (h : Sub F w F1 w1) (k : Sub F1 w1 F2 w2) : Sub F w F2 w2 := fun b o hb ho => let ⟨x, y⟩ := h b o hb ho; k b o x y
section mono
variable {F F' : Nat → Prop} {w w' : World} (h : Sub F w F' w')
include h
mutual
theorem Rd.mono : ∀ (d : D) (v : Value), Rd F w d v → Rd F' w' d v
  | .i _ _, v, r => by simp only [Rd] at r ⊢; exact r
  | .b _, v, r => by simp only [Rd] at r ⊢; exact r
  | .s _, v, r => by simp only [Rd] at r ⊢; exact r
  | .nil, v, r => by simp only [Rd] at r ⊢; exact r
  | .row e0 es, v, r => by
    simp only [Rd] at r ⊢
    obtain ⟨a, c, rfl, hl, r⟩ := r
    refine ⟨a, c, rfl, hl, ?_⟩
    rcases r with r | ⟨ad, cs, t, fr, ha, hs, hF, hb, r⟩
    · exact .inl r
    · exact .inr ⟨ad, cs, t, fr, ha, hs, (h _ _ hF hb).1, (h _ _ hF hb).2, RdE.mono e0.length cs ad.off es r⟩
theorem RdE.mono (z : Nat) (cs : Array Value) : ∀ (o : Nat) (es : List (List D)), RdE F w z cs o es → RdE F' w' z cs o es
  | _, [], _ => by simp only [RdE]
  | o, e :: es, r => by
    simp only [RdE] at r ⊢
    exact ⟨r.1, RdC.mono cs o e r.2.1, RdE.mono z cs (o + z) es r.2.2⟩
theorem RdC.mono (cs : Array Value) : ∀ (o : Nat) (ds : List D), RdC F w cs o ds → RdC F' w' cs o ds
  | _, [], _ => by simp only [RdC]
  | o, d :: ds, r => by
    simp only [RdC] at r ⊢
    obtain ⟨⟨v, h1, h2⟩, r⟩ := r
    exact ⟨⟨v, h1, Rd.mono d v h2⟩, RdC.mono cs (o + 1) ds r⟩
end
end mono
/-- all cells that lie in F, in w, lie in F', in w', too -/
def SubC (F : Nat → Prop) (w : World) (F' : Nat → Prop) (w' : World) : Prop := ∀ b cs t fr, F b → w.heap[b]? = some (.cells cs t fr) → F' b ∧ w'.heap[b]? = some (.cells cs t fr)
section monoC
variable {F F' : Nat → Prop} {w w' : World} (h : SubC F w F' w')
include h
mutual
theorem Rd.monoC : ∀ (d : D) (v : Value), Rd F w d v → Rd F' w' d v
  | .i _ _, v, r => by simp only [Rd] at r ⊢; exact r
  | .b _, v, r => by simp only [Rd] at r ⊢; exact r
  | .s _, v, r => by simp only [Rd] at r ⊢; exact r
  | .nil, v, r => by simp only [Rd] at r ⊢; exact r
  | .row e0 es, v, r => by
    simp only [Rd] at r ⊢
    obtain ⟨a, c, rfl, hl, r⟩ := r
    refine ⟨a, c, rfl, hl, ?_⟩
    rcases r with r | ⟨ad, cs, t, fr, ha, hs, hF, hb, r⟩
    · exact .inl r
    · exact .inr ⟨ad, cs, t, fr, ha, hs, (h _ _ _ _ hF hb).1, (h _ _ _ _ hF hb).2, RdE.monoC e0.length cs ad.off es r⟩
theorem RdE.monoC (z : Nat) (cs : Array Value) : ∀ (o : Nat) (es : List (List D)), RdE F w z cs o es → RdE F' w' z cs o es
  | _, [], _ => by simp only [RdE]
  | o, e :: es, r => by
    simp only [RdE] at r ⊢
    exact ⟨r.1, RdC.monoC cs o e r.2.1, RdE.monoC z cs (o + z) es r.2.2⟩
theorem RdC.monoC (cs : Array Value) : ∀ (o : Nat) (ds : List D), RdC F w cs o ds → RdC F' w' cs o ds
  | _, [], _ => by simp only [RdC]
  | o, d :: ds, r => by
    simp only [RdC] at r ⊢
    obtain ⟨⟨v, h1, h2⟩, r⟩ := r
    exact ⟨⟨v, h1, Rd.monoC d v h2⟩, RdC.monoC cs (o + 1) ds r⟩
end
end monoC
section readlemmas
variable {F : Nat → Prop} {w : World}
theorem RdC.get {cs : Array Value} : ∀ {o : Nat} {ds : List D}, RdC F w cs o ds → ∀ j d, ds[j]? = some d → ∃ v, cs[o + j]? = some v ∧ Rd F w d v
  | _, [], _, j, d, h => by simp at h
  | o, x :: ds, r, 0, d, h => by
    simp only [RdC] at r
    obtain rfl : x = d := by simpa using h
    exact r.1
  | o, x :: ds, r, j + 1, d, h => by
    simp only [RdC] at r
    have := RdC.get r.2 j d (by simpa using h)
    rwa [Nat.add_assoc, Nat.add_comm 1 j] at this
theorem RdC.of {cs : Array Value} : ∀ {o : Nat} {ds : List D}, (∀ j d, ds[j]? = some d → ∃ v, cs[o + j]? = some v ∧ Rd F w d v) → RdC F w cs o ds
  | _, [], _ => by simp only [RdC]
  | o, x :: ds, r => by
    simp only [RdC]
    refine ⟨by simpa using r 0 x rfl, RdC.of fun j d h => ?_⟩
    have := r (j + 1) d (by simpa using h)
    rwa [← Nat.add_assoc, Nat.add_right_comm] at this
theorem RdC.drop {cs : Array Value} {o : Nat} {ds : List D} (r : RdC F w cs o ds) (k : Nat) : RdC F w cs (o + k) (ds.drop k) :=
  RdC.of fun j d h => by
    rw [List.getElem?_drop] at h
    have := r.get _ _ h
    rwa [← Nat.add_assoc] at this
theorem RdC.take {cs : Array Value} {o : Nat} {ds : List D} (r : RdC F w cs o ds) (k : Nat) : RdC F w cs o (ds.take k) :=
  RdC.of fun j d h => r.get j d (by
    rw [List.getElem?_take] at h
    split at h
    · exact h
    · simp at h)
theorem RdE.get {z : Nat} {cs : Array Value} : ∀ {o : Nat} {es : List (List D)}, RdE F w z cs o es → ∀ j e, es[j]? = some e → e.length = z ∧ RdC F w cs (o + j * z) e
  | _, [], _, j, e, h => by simp at h
  | o, x :: es, r, 0, e, h => by
    simp only [RdE] at r
    obtain rfl : x = e := by simpa using h
    exact ⟨r.1, by simpa using r.2.1⟩
  | o, x :: es, r, j + 1, e, h => by
    simp only [RdE] at r
    have := RdE.get r.2.2 j e (by simpa using h)
    rwa [Nat.add_assoc, Nat.add_comm z, ← Nat.succ_mul] at this
theorem RdE.of {z : Nat} {cs : Array Value} : ∀ {o : Nat} {es : List (List D)}, (∀ j e, es[j]? = some e → e.length = z ∧ RdC F w cs (o + j * z) e) → RdE F w z cs o es
  | _, [], _ => by simp only [RdE]
  | o, x :: es, r => by
    simp only [RdE]
    have h0 := r 0 x rfl
    refine ⟨h0.1, by simpa using h0.2, RdE.of fun j e h => ?_⟩
    have := r (j + 1) e (by simpa using h)
    rwa [Nat.succ_mul, Nat.add_comm (j * z), ← Nat.add_assoc] at this
theorem RdE.drop {z : Nat} {cs : Array Value} {o : Nat} {es : List (List D)} (r : RdE F w z cs o es) (k : Nat) : RdE F w z cs (o + k * z) (es.drop k) :=
  RdE.of fun j e h => by
    rw [List.getElem?_drop] at h
    have := r.get _ _ h
    rwa [Nat.add_mul, ← Nat.add_assoc] at this
theorem RdE.take {z : Nat} {cs : Array Value} {o : Nat} {es : List (List D)} (r : RdE F w z cs o es) (k : Nat) : RdE F w z cs o (es.take k) :=
  RdE.of fun j e h => r.get j e (by
    rw [List.getElem?_take] at h
    split at h
    · exact h
    · simp at h)
/-- what is said by a cell's datum fills one cell -/
theorem Rd.one {d : D} {v : Value} (r : Rd F w d v) : v.oneCell' = true ∧ v.cells = #[v] := by
  cases d <;> simp only [Rd] at r
  case row => obtain ⟨a, c, rfl, _⟩ := r; exact ⟨rfl, rfl⟩
  all_goals (subst r; exact ⟨rfl, rfl⟩)
theorem Rd.nil_row {e0 : List D} {v : Value} (r : Rd F w .nil v) : Rd F w (.row e0 []) v := by
  simp only [Rd] at r ⊢
  exact ⟨none, 0, r, Nat.le_refl _, .inl ⟨trivial, fun _ => rfl⟩⟩
end readlemmas
/-! ## what a slot holds -/
inductive S where
  | any
  | d (x : D)
  | agg (cs : List S)
  | own (h : Nat)
  | ptr (h o : Nat)
  | eptr (h z i o : Nat)
  | fptr (cs : List D)
  | fps (cs : List S)
  | fn (f : Nat) (cs : List S)
  | mth (f : Nat) (cs : List S)
  | tup (cs : List S)
  | gd (c : Bool) (x : S)
  deriving Inhabited
/-- what the function itself made, and may write -/
inductive Obj' where
  | box (t : TypeId) (cs : List S)
  | row (t : TypeId) (e0 : List D) (es : List (List D))
  | rows (t : TypeId) (ss : List S)
  | mp (R : Obj → Prop)
  deriving Inhabited
abbrev Tm := List (Nat × S)
abbrev Hp := List (Nat × Obj')
def lk : Tm → Nat → S
  | [], _ => .any
  | (i, x) :: r, j => if i = j then x else lk r j
def lh : Hp → Nat → Option Obj'
  | [], _ => none
  | (i, x) :: r, j => if i = j then some x else lh r j
structure St where
  t : Tm
  h : Hp
/-- the block of a handle's value -/
def blk : Value → Option Nat
  | .pointer (some a) => some a.block
  | .slice (some a) _ _ => some a.block
  | .map (some b) => some b
  | _ => none
section
variable (η : Nat → Value) (F : Nat → Prop) (w : World)
mutual
def RS : S → Value → Prop
  | .any, _ => True
  | .d x, v => Rd F w x v
  | .agg cs, v => ∃ vs, v = .agg vs ∧ RSL cs vs.toList
  | .own h, v => v = η h
  | .ptr h o, v => ∃ g, η h = .pointer (some ⟨g, 0, none⟩) ∧ v = .pointer (some ⟨g, o, none⟩)
  | .eptr h z i o, v => ∃ g n c, η h = .slice (some ⟨g, 0, none⟩) n c ∧ v = .pointer (some ⟨g, i * z + o, none⟩)
  | .fptr cs, v => ∃ ad arr t fr, v = .pointer (some ad) ∧ ad.spot = none ∧ F ad.block ∧ w.heap[ad.block]? = some (.cells arr t fr) ∧ RdC F w arr ad.off cs
  | .fps cs, v => ∃ ad arr t fr, v = .pointer (some ad) ∧ ad.spot = none ∧ F ad.block ∧ w.heap[ad.block]? = some (.cells arr t fr) ∧ RSL cs ((arr.toList.drop ad.off).take cs.length)
  | .fn f cs, v => ∃ vs, v = .func (.func f) #[] vs ∧ RSL cs vs.toList
  | .mth f cs, v => ∃ vs, v = .func (.func f) vs #[] ∧ RSL cs vs.toList
  | .tup cs, v => ∃ vs, v = .tuple vs ∧ RSL cs vs.toList
  | .gd c x, v => (c = true → RS x v) ∧ (c = false → v = undef)
def RSL : List S → List Value → Prop
  | [], vs => vs = []
  | c :: cs, vs => ∃ v r, vs = v :: r ∧ RS c v ∧ RSL cs r
end
end
mutual
/-- does a slot speak of a handle of p? -/
def S.has (p : Nat → Bool) : S → Bool
  | .any => false
  | .d _ => false
  | .agg cs => S.hasL p cs
  | .own k => p k
  | .ptr k _ => p k
  | .eptr k _ _ _ => p k
  | .fptr _ => false
  | .fps cs => S.hasL p cs
  | .fn _ cs => S.hasL p cs
  | .mth _ cs => S.hasL p cs
  | .tup cs => S.hasL p cs
  | .gd _ x => S.has p x
def S.hasL (p : Nat → Bool) : List S → Bool
  | [] => false
  | c :: cs => S.has p c || S.hasL p cs
end
section mono2
variable {η : Nat → Value} {F F' : Nat → Prop} {w w' : World} (h : Sub F w F' w')
include h
mutual
theorem RS.mono : ∀ (x : S) (v : Value), RS η F w x v → RS η F' w' x v
  | .any, v, r => by simp only [RS]
  | .d x, v, r => by simp only [RS] at r ⊢; exact Rd.mono h x v r
  | .agg cs, v, r => by simp only [RS] at r ⊢; obtain ⟨vs, e, r⟩ := r; exact ⟨vs, e, RSL.mono cs _ r⟩
  | .own k, v, r => by simp only [RS] at r ⊢; exact r
  | .ptr k o, v, r => by simp only [RS] at r ⊢; exact r
  | .eptr k z i o, v, r => by simp only [RS] at r ⊢; exact r
  | .fptr cs, v, r => by
    simp only [RS] at r ⊢
    obtain ⟨ad, arr, t, fr, e, hs, hF, hb, r⟩ := r
    exact ⟨ad, arr, t, fr, e, hs, (h _ _ hF hb).1, (h _ _ hF hb).2, RdC.mono h arr _ cs r⟩
  | .fps cs, v, r => by
    simp only [RS] at r ⊢
    obtain ⟨ad, arr, t, fr, e, hs, hF, hb, r⟩ := r
    exact ⟨ad, arr, t, fr, e, hs, (h _ _ hF hb).1, (h _ _ hF hb).2, RSL.mono cs _ r⟩
  | .fn f cs, v, r => by simp only [RS] at r ⊢; obtain ⟨vs, e, r⟩ := r; exact ⟨vs, e, RSL.mono cs _ r⟩
  | .mth f cs, v, r => by simp only [RS] at r ⊢; obtain ⟨vs, e, r⟩ := r; exact ⟨vs, e, RSL.mono cs _ r⟩
  | .tup cs, v, r => by simp only [RS] at r ⊢; obtain ⟨vs, e, r⟩ := r; exact ⟨vs, e, RSL.mono cs _ r⟩
  | .gd c x, v, r => by simp only [RS] at r ⊢; exact ⟨fun e => RS.mono x v (r.1 e), r.2⟩
theorem RSL.mono : ∀ (xs : List S) (vs : List Value), RSL η F w xs vs → RSL η F' w' xs vs
  | [], vs, r => by simp only [RSL] at r ⊢; exact r
  | x :: xs, vs, r => by
    simp only [RSL] at r ⊢
    obtain ⟨v, l, e, h1, h2⟩ := r
    exact ⟨v, l, e, RS.mono x v h1, RSL.mono xs l h2⟩
end
end mono2
section mono2C
variable {η : Nat → Value} {F F' : Nat → Prop} {w w' : World} (h : SubC F w F' w')
include h
mutual
theorem RS.monoC : ∀ (x : S) (v : Value), RS η F w x v → RS η F' w' x v
  | .any, v, r => by simp only [RS]
  | .d x, v, r => by simp only [RS] at r ⊢; exact Rd.monoC h x v r
  | .agg cs, v, r => by simp only [RS] at r ⊢; obtain ⟨vs, e, r⟩ := r; exact ⟨vs, e, RSL.monoC cs _ r⟩
  | .own k, v, r => by simp only [RS] at r ⊢; exact r
  | .ptr k o, v, r => by simp only [RS] at r ⊢; exact r
  | .eptr k z i o, v, r => by simp only [RS] at r ⊢; exact r
  | .fptr cs, v, r => by
    simp only [RS] at r ⊢
    obtain ⟨ad, arr, t, fr, e, hs, hF, hb, r⟩ := r
    exact ⟨ad, arr, t, fr, e, hs, (h _ _ _ _ hF hb).1, (h _ _ _ _ hF hb).2, RdC.monoC h arr _ cs r⟩
  | .fps cs, v, r => by
    simp only [RS] at r ⊢
    obtain ⟨ad, arr, t, fr, e, hs, hF, hb, r⟩ := r
    exact ⟨ad, arr, t, fr, e, hs, (h _ _ _ _ hF hb).1, (h _ _ _ _ hF hb).2, RSL.monoC cs _ r⟩
  | .fn f cs, v, r => by simp only [RS] at r ⊢; obtain ⟨vs, e, r⟩ := r; exact ⟨vs, e, RSL.monoC cs _ r⟩
  | .mth f cs, v, r => by simp only [RS] at r ⊢; obtain ⟨vs, e, r⟩ := r; exact ⟨vs, e, RSL.monoC cs _ r⟩
  | .tup cs, v, r => by simp only [RS] at r ⊢; obtain ⟨vs, e, r⟩ := r; exact ⟨vs, e, RSL.monoC cs _ r⟩
  | .gd c x, v, r => by simp only [RS] at r ⊢; exact ⟨fun e => RS.monoC x v (r.1 e), r.2⟩
theorem RSL.monoC : ∀ (xs : List S) (vs : List Value), RSL η F w xs vs → RSL η F' w' xs vs
  | [], vs, r => by simp only [RSL] at r ⊢; exact r
  | x :: xs, vs, r => by
    simp only [RSL] at r ⊢
    obtain ⟨v, l, e, h1, h2⟩ := r
    exact ⟨v, l, e, RS.monoC x v h1, RSL.monoC xs l h2⟩
end
end mono2C
section turn
variable {η η' : Nat → Value} {F : Nat → Prop} {w : World} {p : Nat → Bool} (h : ∀ j, p j = false → η' j = η j)
include h
mutual
theorem RS.turn : ∀ (x : S) (v : Value), x.has p = false → RS η F w x v → RS η' F w x v
  | .any, v, _, r => by simp only [RS]
  | .d x, v, _, r => by simp only [RS] at r ⊢; exact r
  | .agg cs, v, e, r => by simp only [RS, S.has] at r e ⊢; obtain ⟨vs, e', r⟩ := r; exact ⟨vs, e', RSL.turn cs _ e r⟩
  | .own j, v, e, r => by simp only [RS, S.has] at r e ⊢; rw [h j e]; exact r
  | .ptr j o, v, e, r => by simp only [RS, S.has] at r e ⊢; rw [h j e]; exact r
  | .eptr j z i o, v, e, r => by simp only [RS, S.has] at r e ⊢; rw [h j e]; exact r
  | .fptr cs, v, _, r => by simp only [RS] at r ⊢; exact r
  | .fps cs, v, e, r => by simp only [RS, S.has] at r e ⊢; obtain ⟨ad, arr, t, fr, e', hs, hF, hb, r⟩ := r; exact ⟨ad, arr, t, fr, e', hs, hF, hb, RSL.turn cs _ e r⟩
  | .fn f cs, v, e, r => by simp only [RS, S.has] at r e ⊢; obtain ⟨vs, e', r⟩ := r; exact ⟨vs, e', RSL.turn cs _ e r⟩
  | .mth f cs, v, e, r => by simp only [RS, S.has] at r e ⊢; obtain ⟨vs, e', r⟩ := r; exact ⟨vs, e', RSL.turn cs _ e r⟩
  | .tup cs, v, e, r => by simp only [RS, S.has] at r e ⊢; obtain ⟨vs, e', r⟩ := r; exact ⟨vs, e', RSL.turn cs _ e r⟩
  | .gd c x, v, e, r => by simp only [RS, S.has] at r e ⊢; exact ⟨fun hc => RS.turn x v e (r.1 hc), r.2⟩
theorem RSL.turn : ∀ (xs : List S) (vs : List Value), S.hasL p xs = false → RSL η F w xs vs → RSL η' F w xs vs
  | [], vs, _, r => by simp only [RSL] at r ⊢; exact r
  | x :: xs, vs, e, r => by
    simp only [RSL, S.hasL, Bool.or_eq_false_iff] at r e ⊢
    obtain ⟨v, l, e', h1, h2⟩ := r
    exact ⟨v, l, e', RS.turn x v e.1 h1, RSL.turn xs l e.2 h2⟩
end
end turn
/-- the program's variables lie below -/
def G0 : Nat := 1
/-- what is known of the program's variables -/
structure TP (T : World → Prop) : Prop where
  m : ∀ w w', Below G0 w w' → T w → T w'
  s : ∀ w, T w → G0 ≤ w.heap.size
/-- W: blocks that were handed in to be written; pin: where they are -/
structure Env where
  P : Program
  w0 : World
  F : Nat → Prop
  n : Nat
  T : World → Prop
  Tm : TP T
  T0 : T w0
  W : Nat → Prop
  hW : ∀ b, W b → G0 ≤ b
  pin : Nat → Option Value
  hpin : ∀ k, k < n → pin k = none
/-- but for the blocks of W all that there was is as it was -/
structure Bel (W : Nat → Prop) (w w' : World) : Prop where
  os : w'.os = w.os
  tape : w'.tape = w.tape
  output : w'.output = w.output
  size : w.heap.size ≤ w'.heap.size
  block : ∀ k, k < w.heap.size → ¬ W k → w'.heap[k]? = w.heap[k]?
theorem Bel.refl (W : Nat → Prop) (w : World) : Bel W w w := ⟨rfl, rfl, rfl, Nat.le_refl _, fun _ _ _ => rfl⟩
theorem Bel.trans {W : Nat → Prop} {a b c : World} (h : Bel W a b) (k : Below b.heap.size b c) : Bel W a c := ⟨k.os.trans h.os, k.tape.trans h.tape, k.output.trans h.output, Nat.le_trans h.size k.size, fun i hi hw => (k.block i (Nat.lt_of_lt_of_le hi h.size)).trans (h.block i hi hw)⟩
theorem Bel.wr {W : Nat → Prop} {a b c : World} (h : Bel W a b) (os : c.os = b.os) (tape : c.tape = b.tape) (output : c.output = b.output) (size : b.heap.size ≤ c.heap.size) (block : ∀ k, k < a.heap.size → ¬ W k → c.heap[k]? = b.heap[k]?) : Bel W a c := ⟨os.trans h.os, tape.trans h.tape, output.trans h.output, Nat.le_trans h.size size, fun i hi hw => (block i hi hw).trans (h.block i hi hw)⟩
theorem Bel.below {W : Nat → Prop} {a b : World} (h : Bel W a b) (hW : ∀ b, ¬ W b) : Below a.heap.size a b := ⟨h.os, h.tape, h.output, h.size, fun k hk => h.block k hk (hW k)⟩
/-- the blocks that nobody writes any more -/
def Fr (E : Env) (H : Hp) (η : Nat → Value) : Nat → Prop := fun b => (E.w0.heap.size ≤ b ∨ E.F b ∨ E.W b) ∧ ∀ h o, lh H h = some o → blk (η h) ≠ some b
/-- an object of the function's own as it lies in memory -/
def ROb0 (η : Nat → Value) (F : Nat → Prop) (w : World) (h : Nat) : Obj' → Prop
  | .box t cs => ∃ g vs, η h = .pointer (some ⟨g, 0, none⟩) ∧ w.heap[g]? = some (.cells vs t (0, 0)) ∧ RSL η F w cs vs.toList
  | .row t e0 es => ∃ xs, w.ownsRow 0 t e0.length (η h) es.length xs ∧ RdE F w e0.length xs.toArray 0 es
  | .rows t ss => ∃ xs, w.ownsRow 0 t 1 (η h) ss.length xs ∧ RSL η F w ss xs
  | .mp R => ∃ g o, η h = .map (some g) ∧ w.heap[g]? = some o ∧ R o
abbrev ROb (E : Env) (η : Nat → Value) (F : Nat → Prop) (w : World) (h : Nat) (o : Obj') : Prop := ROb0 η F w h o
/-- marks that loops over functions have left: blocks of deferred calls, in which there are none -/
def mkD (D : Nat) : Deferred := { target := .collected D, args := #[] }
def Marks (E : Env) (F : Nat → Prop) (w : World) (ds : List Deferred) : Prop := ∃ Ds : List Nat, ds = Ds.map mkD ∧ Ds.Nodup ∧ ∀ D ∈ Ds, E.w0.heap.size ≤ D ∧ F D ∧ w.heap[D]? = some (.deferred (some []))
theorem Marks.nil (E : Env) (F : Nat → Prop) (w : World) : Marks E F w [] := ⟨[], rfl, List.nodup_nil, fun D h => by cases h⟩
theorem Marks.mono {E : Env} {F F' : Nat → Prop} {w w' : World} {ds : List Deferred} (h : Marks E F w ds) (hs : Sub F w F' w') : Marks E F' w' ds :=
  let ⟨Ds, e, hn, h⟩ := h
  ⟨Ds, e, hn, fun D hD => ⟨(h D hD).1, hs D _ (h D hD).2.1 (h D hD).2.2⟩⟩
structure Rel (E : Env) (s : St) (a : Act) (w : World) (η : Nat → Value) : Prop where
  sz : a.tmps.size = E.n
  df : Marks E (Fr E s.h η) w a.defers
  tm : ∀ i, RS η (Fr E s.h η) w (lk s.t i) (a.tmps.getD i undef)
  ob : ∀ h o, lh s.h h = some o → ROb E η (Fr E s.h η) w h o
  ge : ∀ h o g, lh s.h h = some o → blk (η h) = some g → (E.w0.heap.size ≤ g ∨ E.W g) ∧ g < w.heap.size
  sep : ∀ h h' o o', h ≠ h' → lh s.h h = some o → lh s.h h' = some o' → ∀ g, blk (η h) = some g → blk (η h') ≠ some g
  bel : Bel E.W E.w0 w
  pn : ∀ k v, E.pin k = some v → η k = v
theorem Rel.hT {E : Env} {s : St} {a : Act} {w : World} {η : Nat → Value} (h : Rel E s a w η) : E.T w :=
  E.Tm.m _ _ ⟨h.bel.os, h.bel.tape, h.bel.output, h.bel.size, fun k hk => h.bel.block k (Nat.lt_of_lt_of_le hk (E.Tm.s _ E.T0)) fun hw => by have := E.hW k hw; omega⟩ E.T0
def killT (p : Nat → Bool) : Tm → Tm
  | [] => []
  | (i, x) :: r => (i, if x.has p then .any else x) :: killT p r
def killC (p : Nat → Bool) : List S → List S
  | [] => []
  | x :: r => (if x.has p then .any else x) :: killC p r
def killO (p : Nat → Bool) : Obj' → Obj'
  | .box t cs => .box t (killC p cs)
  | .row t e0 es => .row t e0 es
  | .rows t ss => .rows t (killC p ss)
  | .mp R => .mp R
/-- objects of q go, what speaks of handles of p is forgotten -/
def killH (p q : Nat → Bool) : Hp → Hp
  | [] => []
  | (i, x) :: r => if q i then killH p q r else (i, killO p x) :: killH p q r
theorem lk_killT (p : Nat → Bool) (t : Tm) (i : Nat) : lk (killT p t) i = if (lk t i).has p then .any else lk t i := by
  induction t with
  | nil => simp [killT, lk, S.has]
  | cons e r ih =>
    obtain ⟨j, x⟩ := e
    simp only [killT, lk]
    split
    · rfl
    · exact ih
theorem lh_killH (p q : Nat → Bool) (H : Hp) (i : Nat) : lh (killH p q H) i = if q i then none else (lh H i).map (killO p) := by
  induction H with
  | nil => simp [killH, lh]
  | cons e r ih =>
    obtain ⟨j, x⟩ := e
    simp only [killH]
    by_cases hq : q j = true
    · rw [if_pos hq, ih]
      simp only [lh]
      by_cases hj : j = i
      · subst hj; simp [hq]
      · rw [if_neg hj]
    · rw [if_neg hq]
      simp only [lh]
      by_cases hj : j = i
      · subst hj; simp [hq]
      · rw [if_neg hj, if_neg hj, ih]
theorem lh_append (A B : Hp) (i : Nat) : lh (A ++ B) i = (lh A i).or (lh B i) := by
  induction A with
  | nil => simp [lh]
  | cons e r ih =>
    obtain ⟨j, x⟩ := e
    simp only [List.cons_append, lh]
    split
    · rfl
    · exact ih
theorem killC_len (p : Nat → Bool) : ∀ cs : List S, (killC p cs).length = cs.length
  | [] => rfl
  | x :: cs => by simp only [killC, List.length_cons, killC_len p cs]
theorem RSL_killC {η : Nat → Value} {F : Nat → Prop} {w : World} (p : Nat → Bool) : ∀ {cs : List S} {vs : List Value}, RSL η F w cs vs → RSL η F w (killC p cs) vs
  | [], vs, r => by simpa only [killC] using r
  | x :: cs, vs, r => by
    simp only [killC, RSL] at r ⊢
    obtain ⟨v, l, e, h1, h2⟩ := r
    refine ⟨v, l, e, ?_, RSL_killC p h2⟩
    split
    · simp only [RS]
    · exact h1
theorem hasL_killC (p : Nat → Bool) : ∀ (cs : List S), S.hasL p (killC p cs) = false
  | [] => by simp only [killC, S.hasL]
  | x :: cs => by
    simp only [killC, S.hasL, hasL_killC p cs, Bool.or_false]
    split
    · simp only [S.has]
    · rename_i hx; simpa using hx
/-- one step of the walk: the objects of q are dropped or made anew, the rest stays -/
theorem Rel.sub {E : Env} {s : St} {a : Act} {w w' : World} {η η' : Nat → Value} (h : Rel E s a w η) (p q : Nat → Bool) (new : Hp) (hpq : ∀ j, p j = true → q j = true) (hη : ∀ j, p j = false → η' j = η j)
    (hsame : ∀ b o, w.heap[b]? = some o → (∀ k o', lh s.h k = some o' → q k = true → blk (η k) ≠ some b) → w'.heap[b]? = some o)
    (hnew : ∀ d o, lh new d = some o → q d = true ∧ ∀ g, blk (η' d) = some g → (E.w0.heap.size ≤ g ∨ E.W g) ∧ g < w'.heap.size ∧ (w.heap.size ≤ g ∨ ∃ k o', lh s.h k = some o' ∧ q k = true ∧ blk (η k) = some g)) :
    Sub (Fr E s.h η) w (Fr E (new ++ killH p q s.h) η') w' := by
  intro b o hb ho
  have hlt : b < w.heap.size := by
    rcases Nat.lt_or_ge b w.heap.size with hl | hl
    · exact hl
    · rw [Array.getElem?_eq_none hl] at ho; cases ho
  refine ⟨⟨hb.1, ?_⟩, hsame b o ho (fun k o' hk _ => hb.2 k o' hk)⟩
  intro k o' hk he
  rw [lh_append] at hk
  cases hn : lh new k with
  | some o2 =>
    obtain ⟨_, h2⟩ := hnew k o2 hn
    rcases (h2 b he).2.2 with h3 | ⟨k', o3, h3, _, h5⟩
    · omega
    · exact hb.2 k' o3 h3 h5
  | none =>
    rw [hn, Option.none_or, lh_killH] at hk
    by_cases hq : q k = true
    · rw [if_pos hq] at hk; cases hk
    · rw [if_neg hq] at hk
      have hp : p k = false := by
        cases hp : p k with
        | false => rfl
        | true => exact absurd (hpq k hp) hq
      rw [hη k hp] at he
      cases hl : lh s.h k with
      | none => rw [hl] at hk; cases hk
      | some o3 => exact hb.2 k o3 hl he
theorem Rel.next {E : Env} {s : St} {a : Act} {w w' : World} {η η' : Nat → Value} (h : Rel E s a w η) (p q : Nat → Bool) (new : Hp) (hpq : ∀ j, p j = true → q j = true) (hη : ∀ j, p j = false → η' j = η j)
    (hpn : ∀ k v, E.pin k = some v → η' k = η k) (hbel : Bel E.W E.w0 w') (hsz : w.heap.size ≤ w'.heap.size)
    (hsame : ∀ b o, w.heap[b]? = some o → (∀ k o', lh s.h k = some o' → q k = true → blk (η k) ≠ some b) → w'.heap[b]? = some o)
    (hnew : ∀ d o, lh new d = some o → q d = true ∧ ∀ g, blk (η' d) = some g → (E.w0.heap.size ≤ g ∨ E.W g) ∧ g < w'.heap.size ∧ (w.heap.size ≤ g ∨ ∃ k o', lh s.h k = some o' ∧ q k = true ∧ blk (η k) = some g))
    (hsep : ∀ d d' o o', d ≠ d' → lh new d = some o → lh new d' = some o' → ∀ g, blk (η' d) = some g → blk (η' d') ≠ some g)
    (hob : ∀ d o, lh new d = some o → ROb E η' (Fr E (new ++ killH p q s.h) η') w' d o) :
    Rel E ⟨killT p s.t, new ++ killH p q s.h⟩ a w' η' := by
  have hsub := h.sub p q new hpq hη hsame hnew
  have hp' : ∀ k, ¬ q k = true → p k = false := fun k hq => by
    cases hp : p k with
    | false => rfl
    | true => exact absurd (hpq k hp) hq
  have hold : ∀ k o, lh (new ++ killH p q s.h) k = some o → lh new k = some o ∨ (lh new k = none ∧ q k = false ∧ ∃ o', lh s.h k = some o' ∧ o = killO p o') := by
    intro k o hk
    rw [lh_append] at hk
    cases hn : lh new k with
    | some o2 => rw [hn] at hk; exact .inl (by simpa using hk)
    | none =>
      rw [hn, Option.none_or, lh_killH] at hk
      by_cases hq : q k = true
      · rw [if_pos hq] at hk; cases hk
      · rw [if_neg hq] at hk
        cases hl : lh s.h k with
        | none => rw [hl] at hk; cases hk
        | some o3 => rw [hl] at hk; exact .inr ⟨rfl, by simpa using hq, o3, rfl, by simpa using hk.symm⟩
  refine ⟨h.sz, h.df.mono hsub, ?_, ?_, ?_, ?_, hbel, fun k v hk => (hpn k v hk).trans (h.pn k v hk)⟩
  · intro i
    show RS η' _ w' (lk (killT p s.t) i) _
    rw [lk_killT]
    split
    · simp only [RS]
    · rename_i hx; exact RS.turn hη _ _ (by simpa using hx) (RS.mono hsub _ _ (h.tm i))
  · intro k o hk
    rcases hold k o hk with hn | ⟨hn, hq, o', hl, rfl⟩
    · exact hob k o hn
    · have hb := h.ob k o' hl
      have hek : η' k = η k := hη k (hp' k (by simp [hq]))
      have hblk : ∀ b ob, blk (η k) = some b → w.heap[b]? = some ob → w'.heap[b]? = some ob := fun b ob hbk ho => hsame b ob ho (fun k' o2 hk' hq' => by
        have hne : k' ≠ k := fun e => by subst e; rw [hq] at hq'; cases hq'
        intro e
        exact h.sep k' k o2 o' hne hk' hl b e hbk)
      cases o' with
      | box t cs =>
        obtain ⟨g, vs, h1, h2, h3⟩ := hb
        refine ⟨g, vs, hek.trans h1, hblk g _ (by rw [h1]; rfl) h2, ?_⟩
        exact RSL.turn hη _ _ (hasL_killC p cs) (RSL.mono hsub _ _ (RSL_killC p h3))
      | mp R =>
        obtain ⟨g, ob, h1, h2, h3⟩ := hb
        exact ⟨g, ob, hek.trans h1, hblk g _ (by rw [h1]; rfl) h2, h3⟩
      | rows t ss =>
        obtain ⟨xs, h1, h3⟩ := hb
        refine ⟨xs, ?_, RSL.turn hη _ _ (hasL_killC p ss) (RSL.mono hsub _ _ (RSL_killC p h3))⟩
        rw [hek, killC_len]
        obtain ⟨hl1, hl2⟩ := h1
        refine ⟨hl1, ?_⟩
        rcases hl2 with hl2 | ⟨g, cap, cur, e, hg, hh, r⟩
        · exact .inl hl2
        · exact .inr ⟨g, cap, cur, e, hg, hblk g _ (by rw [e]; rfl) hh, r⟩
      | row t e0 es =>
        obtain ⟨xs, h1, h3⟩ := hb
        refine ⟨xs, ?_, RdE.mono hsub _ _ _ _ h3⟩
        rw [hek]
        obtain ⟨hl1, hl2⟩ := h1
        refine ⟨hl1, ?_⟩
        rcases hl2 with hl2 | ⟨g, cap, cur, e, hg, hh, r⟩
        · exact .inl hl2
        · exact .inr ⟨g, cap, cur, e, hg, hblk g _ (by rw [e]; rfl) hh, r⟩
  · intro k o g hk hg
    rcases hold k o hk with hn | ⟨hn, hq, o', hl, rfl⟩
    · exact ⟨((hnew k o hn).2 g hg).1, ((hnew k o hn).2 g hg).2.1⟩
    · rw [hη k (hp' k (by simp [hq]))] at hg
      have := h.ge k o' g hl hg
      exact ⟨this.1, Nat.lt_of_lt_of_le this.2 hsz⟩
  · intro k k' o o' hne hk hk' g hg hg'
    rcases hold k o hk with hn | ⟨hn, hq, o1, hl, rfl⟩ <;> rcases hold k' o' hk' with hn' | ⟨hn', hq', o1', hl', rfl⟩
    · exact hsep k k' o o' hne hn hn' g hg hg'
    · rw [hη k' (hp' k' (by simp [hq']))] at hg'
      rcases ((hnew k o hn).2 g hg).2.2 with h3 | ⟨k2, o2, h3, h4, h5⟩
      · have := h.ge k' o1' g hl' hg'; omega
      · exact h.sep k2 k' o2 o1' (fun e => by subst e; rw [hq'] at h4; cases h4) h3 hl' g h5 hg'
    · rw [hη k (hp' k (by simp [hq]))] at hg
      rcases ((hnew k' o' hn').2 g hg').2.2 with h3 | ⟨k2, o2, h3, h4, h5⟩
      · have := h.ge k o1 g hl hg; omega
      · exact h.sep k2 k o2 o1 (fun e => by subst e; rw [hq] at h4; cases h4) h3 hl g h5 hg
    · rw [hη k (hp' k (by simp [hq]))] at hg
      rw [hη k' (hp' k' (by simp [hq']))] at hg'
      exact h.sep k k' o1 o1' hne hl hl' g hg hg'
theorem getD_put (a : Act) (d i : Nat) (v : Value) (hd : d < a.tmps.size) : (a.put (some d) v).tmps.getD i undef = if d = i then v else a.tmps.getD i undef := by
  simp only [Act.put, Array.getD_eq_getD_getElem?, Array.getElem?_setIfInBounds]
  by_cases h : d = i
  · subst h; simp [hd]
  · simp [h]
theorem Rel.put {E : Env} {s : St} {a : Act} {w : World} {η : Nat → Value} (h : Rel E s a w η) {d : Nat} {x : S} {v : Value} (hd : d < E.n) (hx : RS η (Fr E s.h η) w x v) : Rel E ⟨(d, x) :: s.t, s.h⟩ (a.put (some d) v) w η := by
  refine ⟨by simp [Act.put, h.sz], h.df, fun i => ?_, h.ob, h.ge, h.sep, h.bel, h.pn⟩
  rw [getD_put a d i v (by rw [h.sz]; exact hd)]
  show RS η _ w (lk ((d, x) :: s.t) i) _
  simp only [lk]
  by_cases e : d = i
  · rw [if_pos e, if_pos e]; exact hx
  · rw [if_neg e, if_neg e]; exact h.tm i
/-! ## the program's types, as the walk asks for them -/
def szT (P : Program) (t : TypeId) : Nat := ((P.info? t).map (·.size)).getD 0
def aggT (P : Program) (t : TypeId) : Bool := match P.underlying t with | some (.struct _) => true | some (.array _ _) => true | _ => false
def okT (P : Program) (t : TypeId) : Bool := (P.info? t).isSome && (P.underlying t).isSome
def kT (P : Program) (t : TypeId) : Option IntKind := match P.underlying t with | some (.int k) => some k | _ => none
def boolT (P : Program) (t : TypeId) : Bool := match P.underlying t with | some .bool => true | _ => false
def strT (P : Program) (t : TypeId) : Bool := match P.underlying t with | some .string => true | _ => false
def slT (P : Program) (t : TypeId) : Option TypeId := match P.underlying t with | some (.slice e) => some e | _ => none
def arT (P : Program) (t : TypeId) : Option (Nat × TypeId) := match P.underlying t with | some (.array n e) => some (n, e) | _ => none
def fldT (P : Program) (t : TypeId) (f : Nat) : Option (Nat × TypeId) := match P.underlying t with | some (.struct fs) => (fs[f]?).map fun x => (x.offset, x.type) | _ => none
/-! ## operands -/
def constS : Value → S
  | .int k n => .d (.i k n)
  | .bool x => .d (.b x)
  | .string x => .d (.s x)
  | .slice none 0 0 => .d .nil
  | _ => .any
def ev (s : St) : Operand → S
  | .tmp t => lk s.t t
  | .const v => constS v
  | .global _ => .any
  | .func f => .fn f []
def stp : S → S
  | .gd _ x => x
  | x => x
def stc : S → Prop
  | .gd c _ => c = true
  | _ => True
theorem RS_const {η : Nat → Value} {F : Nat → Prop} {w : World} (v : Value) : RS η F w (constS v) v := by
  unfold constS
  split <;> simp only [RS, Rd]
theorem RS_ev {E : Env} {s : St} {a : Act} {w : World} {η : Nat → Value} (h : Rel E s a w η) (x : Operand) : RS η (Fr E s.h η) w (ev s x) (a.eval x) := by
  cases x with
  | tmp t => exact h.tm t
  | const v => exact RS_const v
  | global g => simp only [ev, RS]
  | func f => simp only [ev, RS, Act.eval, RSL]; exact ⟨#[], rfl, rfl⟩
theorem RS_stp {η : Nat → Value} {F : Nat → Prop} {w : World} {x : S} {v : Value} (r : RS η F w x v) (c : stc x) : RS η F w (stp x) v := by
  cases x <;> simp only [stp] <;> try exact r
  simp only [RS, stc] at r c
  exact r.1 c
theorem RS_ev' {E : Env} {s : St} {a : Act} {w : World} {η : Nat → Value} (h : Rel E s a w η) (x : Operand) (c : stc (ev s x)) : RS η (Fr E s.h η) w (stp (ev s x)) (a.eval x) := RS_stp (RS_ev h x) c
/-- the block that a pointer points into -/
def rdB (E : Env) (s : St) (η : Nat → Value) (p : S) (b : Nat) : Prop := match p with
  | .ptr h _ => (lh s.h h).isSome = true ∧ blk (η h) = some b
  | .eptr h _ _ _ => (lh s.h h).isSome = true ∧ blk (η h) = some b
  | .fptr _ => Fr E s.h η b
  | .fps _ => Fr E s.h η b
  | _ => False
section cells
variable {η : Nat → Value} {F : Nat → Prop} {w : World}
theorem RSL_len : ∀ {cs : List S} {vs : List Value}, RSL η F w cs vs → vs.length = cs.length
  | [], vs, r => by simp only [RSL] at r; simp [r]
  | c :: cs, vs, r => by
    simp only [RSL] at r
    obtain ⟨v, l, rfl, _, r⟩ := r
    simp [RSL_len r]
theorem RSL_get : ∀ {cs : List S} {vs : List Value}, RSL η F w cs vs → ∀ (j : Nat) (x : S), cs[j]? = some x → ∃ v, vs[j]? = some v ∧ RS η F w x v
  | [], vs, r, j, x, h => by simp at h
  | c :: cs, vs, r, j, x, h => by
    simp only [RSL] at r
    obtain ⟨v, l, rfl, h1, r⟩ := r
    cases j with
    | zero => obtain rfl : c = x := by simpa using h
              exact ⟨v, rfl, h1⟩
    | succ j => exact RSL_get r j x (by simpa using h)
theorem RSL_of : ∀ {cs : List S} {vs : List Value}, vs.length = cs.length → (∀ (j : Nat) (x : S), cs[j]? = some x → ∃ v, vs[j]? = some v ∧ RS η F w x v) → RSL η F w cs vs
  | [], vs, hl, _ => by simp only [RSL]; simpa using hl
  | c :: cs, [], hl, _ => by simp at hl
  | c :: cs, v :: vs, hl, r => by
    simp only [RSL]
    refine ⟨v, vs, rfl, ?_, RSL_of (by simpa using hl) fun j x h => by simpa using r (j + 1) x (by simpa using h)⟩
    obtain ⟨u, h1, h2⟩ := r 0 c rfl
    obtain rfl : v = u := by simpa using h1
    exact h2
theorem RSL_drop {cs : List S} {vs : List Value} (r : RSL η F w cs vs) (k : Nat) : RSL η F w (cs.drop k) (vs.drop k) :=
  RSL_of (by simp [RSL_len r]) fun j x h => by rw [List.getElem?_drop] at h ⊢; exact RSL_get r _ _ h
theorem RSL_take {cs : List S} {vs : List Value} (r : RSL η F w cs vs) (k : Nat) : RSL η F w (cs.take k) (vs.take k) :=
  RSL_of (by simp [RSL_len r]) fun j x h => by
    rw [List.getElem?_take] at h ⊢
    split at h
    · rename_i hj; rw [if_pos hj]; exact RSL_get r _ _ h
    · simp at h
end cells
/-- the cells that lie where a pointer points to -/
def cellsAt (s : St) : S → List S
  | .ptr h o => match lh s.h h with
    | some (.box _ cs) => cs.drop o
    | _ => []
  | .eptr h z i o => match lh s.h h with
    | some (.row _ e0 es) => ((es.getD i e0).drop o).map .d
    | some (.rows _ ss) => [ss.getD i .any].drop o
    | _ => []
  | .fptr cs => cs.map .d
  | .fps cs => cs
  | _ => []
def okAt (s : St) : S → Prop
  | .eptr h z i o => match lh s.h h with
    | some (.row _ e0 es) => z = e0.length ∧ i < es.length
    | some (.rows _ ss) => z = 1 ∧ i < ss.length
    | _ => False
  | _ => True
theorem RSL_map_d {η : Nat → Value} {F : Nat → Prop} {w : World} {cs : List D} {arr : Array Value} {o : Nat} (r : RdC F w arr o cs) : ∀ (j : Nat) (x : S), (cs.map S.d)[j]? = some x → ∃ v, arr[o + j]? = some v ∧ RS η F w x v := by
  intro j x h
  rw [List.getElem?_map] at h
  cases hc : cs[j]? with
  | none => rw [hc] at h; cases h
  | some d =>
    rw [hc] at h
    obtain rfl : S.d d = x := by simpa using h
    simp only [RS]
    exact r.get j d hc
theorem own_row {w : World} {base : Nat} {t : TypeId} {z : Nat} {v : Value} {n : Nat} {xs : List Value} (h : w.ownsRow base t z v n xs) (hn : 0 < n) : ∃ g cap cur, v = .slice (some ⟨g, 0, none⟩) n cap ∧ base ≤ g ∧ w.heap[g]? = some (.cells cur t (0, 0)) ∧ n ≤ cap ∧ cur.size = cap * z ∧ (∀ j, j < n * z → cur[j]? = xs[j]?) := by
  obtain ⟨hl, h⟩ := h
  rcases h with ⟨_, h0⟩ | ⟨g, cap, cur, e, hb, hh, hc, hm, hs, ht⟩
  · omega
  · refine ⟨g, cap, cur, e, hb, hh, hc, hs, fun j hj => ?_⟩
    rw [← ht, List.getElem?_take, if_pos hj]
    simp
theorem fps_get {η : Nat → Value} {F : Nat → Prop} {w : World} {cs : List S} {arr : Array Value} {o : Nat} (r : RSL η F w cs ((arr.toList.drop o).take cs.length)) (j : Nat) (x : S) (hj : cs[j]? = some x) : ∃ u, arr[o + j]? = some u ∧ RS η F w x u := by
  obtain ⟨u, h1, h2⟩ := RSL_get r j x hj
  refine ⟨u, ?_, h2⟩
  rw [List.getElem?_take, if_pos (List.getElem?_eq_some_iff.1 hj).1, List.getElem?_drop] at h1
  simpa using h1
theorem fps_drop {η : Nat → Value} {F : Nat → Prop} {w : World} {cs : List S} {arr : Array Value} {o : Nat} (r : RSL η F w cs ((arr.toList.drop o).take cs.length)) (k : Nat) : RSL η F w (cs.drop k) ((arr.toList.drop (o + k)).take (cs.drop k).length) := by
  have := RSL_drop r k
  rwa [List.drop_take, List.drop_drop, ← List.length_drop] at this
theorem lies {E : Env} {s : St} {a : Act} {w : World} {η : Nat → Value} (h : Rel E s a w η) {p : S} {v : Value} (hp : RS η (Fr E s.h η) w p v) (ok : okAt s p) (hne : cellsAt s p ≠ []) :
    ∃ ad arr t fr, v = .pointer (some ad) ∧ ad.spot = none ∧ (w.heap[ad.block]? = some (.cells arr t fr) ∧ rdB E s η p ad.block) ∧ ∀ (j : Nat) (x : S), (cellsAt s p)[j]? = some x → ∃ u, arr[ad.off + j]? = some u ∧ RS η (Fr E s.h η) w x u := by
  cases p <;> simp only [cellsAt] at hne ⊢ <;> try exact absurd rfl hne
  case ptr k o =>
    cases hl : lh s.h k with
    | none => rw [hl] at hne; exact absurd rfl hne
    | some ob =>
      cases ob with
      | row t e0 es => rw [hl] at hne; exact absurd rfl hne
      | rows t ss => rw [hl] at hne; exact absurd rfl hne
      | mp _ => rw [hl] at hne; exact absurd rfl hne
      | box t cs =>
        simp only [RS] at hp
        obtain ⟨g, hg, rfl⟩ := hp
        obtain ⟨g', vs, e, hh, r⟩ := h.ob k _ hl
        rw [hg] at e
        obtain rfl : g = g' := by simpa using e
        refine ⟨_, vs, t, (0, 0), rfl, rfl, ⟨hh, by simp only [rdB, hl, Option.isSome_some, true_and]; rw [hg]; rfl⟩, fun j x hj => ?_⟩
        simp only at hj
        rw [List.getElem?_drop] at hj
        obtain ⟨u, h1, h2⟩ := RSL_get r _ _ hj
        exact ⟨u, by simpa using h1, h2⟩
  case eptr k z i o =>
    cases hl : lh s.h k with
    | none => rw [hl] at hne; exact absurd rfl hne
    | some ob =>
      cases ob with
      | box t cs => rw [hl] at hne; exact absurd rfl hne
      | mp _ => rw [hl] at hne; exact absurd rfl hne
      | rows t ss =>
        simp only [okAt, hl] at ok
        obtain ⟨rfl, hi⟩ := ok
        simp only [RS] at hp
        obtain ⟨g, n, c, hg, rfl⟩ := hp
        obtain ⟨xs, ho, r⟩ := h.ob k _ hl
        rw [hg] at ho
        obtain ⟨g', cap, cur, e, hb, hh, hc, hs, hx⟩ := own_row ho (by omega)
        have e' : g = g' := by simp only [Value.slice.injEq, Option.some.injEq, Addr.mk.injEq] at e; exact e.1.1
        subst e'
        refine ⟨_, cur, t, (0, 0), rfl, rfl, ⟨hh, by simp only [rdB, hl, Option.isSome_some, true_and]; rw [hg]; rfl⟩, fun j x hj => ?_⟩
        have hge : ss.getD i .any = ss[i] := by simp [List.getD, hi]
        simp only [hge] at hj
        have hjl : o + j < 1 := by
          have := (List.getElem?_eq_some_iff.1 hj).1
          simp only [List.length_drop, List.length_cons, List.length_nil] at this
          omega
        obtain rfl : o = 0 := by omega
        obtain rfl : j = 0 := by omega
        obtain rfl : ss[i] = x := by simpa using hj
        obtain ⟨u, h1, h2⟩ := RSL_get r i ss[i] (by simp [hi])
        refine ⟨u, ?_, h2⟩
        show cur[i * 1 + 0 + 0]? = some u
        simp only [Nat.mul_one, Nat.add_zero]
        rw [hx i (by omega)]
        exact h1
      | row t e0 es =>
        simp only [okAt, hl] at ok
        obtain ⟨hz, hi⟩ := ok
        simp only [RS] at hp
        obtain ⟨g, n, c, hg, rfl⟩ := hp
        obtain ⟨xs, ho, r⟩ := h.ob k _ hl
        rw [hg] at ho
        obtain ⟨g', cap, cur, e, hb, hh, hc, hs, hx⟩ := own_row ho (by omega)
        have e' : g = g' := by simp only [Value.slice.injEq, Option.some.injEq, Addr.mk.injEq] at e; exact e.1.1
        subst e' hz
        refine ⟨_, cur, t, (0, 0), rfl, rfl, ⟨hh, by simp only [rdB, hl, Option.isSome_some, true_and]; rw [hg]; rfl⟩, fun j x hj => ?_⟩
        have hge : es.getD i e0 = es[i] := by simp [List.getD, hi]
        obtain ⟨hle, re⟩ := r.get i es[i] (by simp [hi])
        simp only [hge] at hj
        obtain ⟨u, h1, h2⟩ := RSL_map_d (η := η) (re.drop o) j x hj
        refine ⟨u, ?_, h2⟩
        have hjl : o + j < e0.length := by
          have := (List.getElem?_eq_some_iff.1 hj).1
          simp only [List.length_map, List.length_drop] at this
          omega
        have hlt : i * e0.length + (o + j) < es.length * e0.length := by
          have : (i + 1) * e0.length ≤ es.length * e0.length := Nat.mul_le_mul_right _ hi
          rw [Nat.succ_mul] at this
          omega
        rw [Nat.zero_add, Nat.add_assoc, List.getElem?_toArray] at h1
        show cur[i * e0.length + o + j]? = some u
        rw [Nat.add_assoc, hx _ hlt]
        exact h1
  case fptr cs =>
    simp only [RS] at hp
    obtain ⟨ad, arr, t, fr, rfl, hs, hF, hh, r⟩ := hp
    exact ⟨ad, arr, t, fr, rfl, hs, ⟨hh, by simp only [rdB]; exact hF⟩, RSL_map_d r⟩
  case fps cs =>
    simp only [RS] at hp
    obtain ⟨ad, arr, t, fr, rfl, hs, hF, hh, r⟩ := hp
    exact ⟨ad, arr, t, fr, rfl, hs, ⟨hh, by simp only [rdB]; exact hF⟩, fps_get r⟩
theorem add_at {g o j : Nat} : (⟨g, o, none⟩ : Addr).add j = ⟨g, o + j, none⟩ := by
  unfold Addr.add
  split
  · rename_i h; rw [h]; rfl
  · rfl
theorem add_at' {ad : Addr} (h : ad.spot = none) (j : Nat) : ad.add j = ⟨ad.block, ad.off + j, none⟩ := by
  obtain ⟨b, o, p⟩ := ad
  simp only at h
  subst h
  exact add_at
section types
variable {P : Program} {w : World} {t : TypeId}
theorem run_und {d : TypeDesc} (h : P.underlying t = some d) : (underlying t).run P w = .ok d w := run_underlying h w
theorem run_agg (h : okT P t = true) : (isAgg t).run P w = .ok (aggT P t) w := by
  simp only [okT, Bool.and_eq_true, Option.isSome_iff_exists] at h
  obtain ⟨_, d, hd⟩ := h
  unfold isAgg aggT
  rw [Sem.run_bind, run_und hd, Result.andThen_ok, hd]
  cases d <;> rfl
theorem run_size (h : okT P t = true) : (sizeOf t).run P w = .ok (szT P t) w := by
  simp only [okT, Bool.and_eq_true, Option.isSome_iff_exists] at h
  obtain ⟨⟨i, hi⟩, _⟩ := h
  simp [sizeOf, typeInfo, hi, szT]
end types
theorem run_load_at {w : World} {ad : Addr} {arr : Array Value} {t : TypeId} {fr : Nat × Nat} {u : Value} (hs : ad.spot = none) (hh : w.heap[ad.block]? = some (.cells arr t fr)) (j : Nat) (hu : arr[ad.off + j]? = some u) : w.cell? (ad.add j) = some u := by
  rw [add_at' hs]
  simp [World.cell?, hh, hu]
def loadS (P : Program) (s : St) (t : TypeId) (p : S) : S × Prop :=
  bif aggT P t then (.agg ((cellsAt s (stp p)).take (szT P t)), okT P t = true ∧ stc p ∧ okAt s (stp p) ∧ 0 < szT P t ∧ szT P t ≤ (cellsAt s (stp p)).length)
  else ((cellsAt s (stp p)).headD .any, okT P t = true ∧ stc p ∧ okAt s (stp p) ∧ 0 < (cellsAt s (stp p)).length)
section pure
variable {E : Env} {s : St} {a : Act} {w : World} {η : Nat → Value} (h : Rel E s a w η)
include h
theorem load_ok {t : TypeId} {x : Operand} (hc : (loadS E.P s t (ev s x)).2) : ∃ v, RS η (Fr E s.h η) w (loadS E.P s t (ev s x)).1 v ∧ ∀ w', (∀ (b : Nat) (o : Obj), rdB E s η (stp (ev s x)) b → w.heap[b]? = some o → w'.heap[b]? = some o) → (Instr.loadAt t (a.eval x)).run E.P w' = .ok v w' := by
  unfold loadS at hc ⊢
  cases hag : aggT E.P t with
  | true =>
    simp only [hag, cond_true] at hc ⊢
    obtain ⟨hok, hst, hat, hsz, hle⟩ := hc
    have hne : cellsAt s (stp (ev s x)) ≠ [] := by
      intro e; rw [e] at hle; simp at hle; omega
    obtain ⟨ad, arr, t', fr, hv, hsp, ⟨hh, hrd⟩, hr⟩ := lies h (RS_ev' h x hst) hat hne
    generalize hcs : cellsAt s (stp (ev s x)) = cs at *
    have hget : ∀ j, j < cs.length → ∃ u, arr[ad.off + j]? = some u := fun j hj => by
      obtain ⟨u, h1, _⟩ := hr j cs[j] (by simp [hj]); exact ⟨u, h1⟩
    have hsize : ad.off + szT E.P t ≤ arr.size := by
      obtain ⟨u, h1⟩ := hget (szT E.P t - 1) (by omega)
      have := (Array.getElem?_eq_some_iff.1 h1).1
      omega
    refine ⟨.agg ((arr.toList.drop ad.off).take (szT E.P t)).toArray, ?_, ?_⟩
    · simp only [RS]
      refine ⟨_, rfl, RSL_of ?_ ?_⟩
      · simp; omega
      · intro j y hj
        rw [List.getElem?_take] at hj
        split at hj
        · rename_i hjz
          obtain ⟨u, h1, h2⟩ := hr j y hj
          refine ⟨u, ?_, h2⟩
          simp only [List.getElem?_take, if_pos hjz, List.getElem?_drop]
          simpa using h1
        · simp at hj
    · intro w' he
      have hl : ((arr.toList.drop ad.off).take (szT E.P t)).length = szT E.P t := by simp; omega
      have := run_loadCells_list (P := E.P) w' ad ((arr.toList.drop ad.off).take (szT E.P t)) (fun j u hj => by
        refine run_load_at hsp (he _ _ hrd hh) j ?_
        rw [List.getElem?_take] at hj
        split at hj
        · rw [List.getElem?_drop] at hj; simpa using hj
        · simp at hj)
      rw [hl] at this
      rw [hv]
      simp only [Instr.loadAt, Instr.sureAddr, loadVar, Sem.run_bind, Sem.run_pure, Result.andThen_ok, run_agg hok, hag, if_true, run_size hok, this]
  | false =>
    simp only [hag, cond_false] at hc ⊢
    obtain ⟨hok, hst, hat, hlt⟩ := hc
    have hne : cellsAt s (stp (ev s x)) ≠ [] := by
      intro e; rw [e] at hlt; simp at hlt
    obtain ⟨ad, arr, t', fr, hv, hsp, ⟨hh, hrd⟩, hr⟩ := lies h (RS_ev' h x hst) hat hne
    generalize hcs : cellsAt s (stp (ev s x)) = cs at *
    cases cs with
    | nil => exact absurd rfl hne
    | cons c cs =>
      obtain ⟨u, h1, h2⟩ := hr 0 c rfl
      refine ⟨u, h2, fun w' he => ?_⟩
      have hl : (load ad).run E.P w' = .ok u w' := by
        have := run_load_at hsp (he _ _ hrd hh) 0 h1
        rw [add_at' hsp, Nat.add_zero] at this
        have e : (⟨ad.block, ad.off, none⟩ : Addr) = ad := by obtain ⟨b, o, p⟩ := ad; simp only at hsp; subst hsp; rfl
        rw [e] at this
        simp [load, Sem.run, this]
      rw [hv]
      simp only [Instr.loadAt, Instr.sureAddr, loadVar, Sem.run_bind, Sem.run_pure, Result.andThen_ok, run_agg hok, hag, Bool.false_eq_true, if_false, hl]
end pure
def fieldAddrS (P : Program) (t f : Nat) (p : S) : S × Prop :=
  match fldT P t f with
  | none => (.any, False)
  | some (off, ft) => match stp p with
    | .ptr h o => (.ptr h (o + off), stc p ∧ okT P ft = true ∧ 0 < szT P ft)
    | .eptr h z i o => (.eptr h z i (o + off), stc p ∧ okT P ft = true ∧ 0 < szT P ft)
    | .fptr cs => (.fptr (cs.drop off), stc p ∧ okT P ft = true ∧ 0 < szT P ft)
    | .fps cs => (.fps (cs.drop off), stc p ∧ okT P ft = true ∧ 0 < szT P ft)
    | _ => (.any, False)
def partS (P : Program) (t : TypeId) (cs : List S) (off : Nat) : S × Prop :=
  bif aggT P t then (.agg ((cs.drop off).take (szT P t)), okT P t = true) else ((cs.drop off).headD .any, okT P t = true ∧ off < cs.length)
def fieldS (P : Program) (t f : Nat) (x : S) : S × Prop :=
  match fldT P t f with
  | none => (.any, False)
  | some (off, ft) => match stp x with
    | .agg cs => ((partS P ft cs off).1, stc x ∧ (partS P ft cs off).2)
    | _ => (.any, False)
def indexAddrS (P : Program) (s : St) (t : TypeId) (p ix : S) : S × Prop :=
  match stp ix with
  | .d (.i _ i) => match slT P t with
    | some e => match stp p with
      | .own h => match lh s.h h with
        | some (.row _ e0 es) => (.eptr h e0.length i.toNat 0, stc p ∧ stc ix ∧ okT P e = true ∧ szT P e = e0.length ∧ 0 ≤ i ∧ i < es.length)
        | some (.rows _ ss) => (.eptr h 1 i.toNat 0, stc p ∧ stc ix ∧ okT P e = true ∧ szT P e = 1 ∧ 0 ≤ i ∧ i < ss.length)
        | _ => (.any, False)
      | .d (.row e0 es) => (.fptr (es.getD i.toNat e0), stc p ∧ stc ix ∧ okT P e = true ∧ szT P e = e0.length ∧ 0 ≤ i ∧ i < es.length)
      | _ => (.any, False)
    | none => match arT P t with
      | some (n, e) => match stp p with
        | .ptr h o => (.ptr h (o + i.toNat * szT P e), stc p ∧ stc ix ∧ okT P e = true ∧ 0 ≤ i ∧ i < n)
        | .fptr cs => (.fptr (cs.drop (i.toNat * szT P e)), stc p ∧ stc ix ∧ okT P e = true ∧ 0 ≤ i ∧ i < n)
        | _ => (.any, False)
      | none => (.any, False)
  | _ => (.any, False)
def byteAt (x : ByteArray) (i : Int) : Int := ((x[i.toNat]?).map (fun b => (b.toNat : Int))).getD 0
def indexS (P : Program) (t : TypeId) (p ix : S) : S × Prop :=
  match stp ix with
  | .d (.i _ i) => match stp p with
    | .d (.s x) => (.d (.i .u8 (byteAt x i)), stc p ∧ stc ix ∧ strT P t = true ∧ 0 ≤ i ∧ i < x.size)
    | .agg cs => match arT P t with
      | some (n, e) => ((partS P e cs (i.toNat * szT P e)).1, stc p ∧ stc ix ∧ (partS P e cs (i.toNat * szT P e)).2 ∧ 0 ≤ i ∧ i < n)
      | none => (.any, False)
    | _ => (.any, False)
  | _ => (.any, False)
def extractS (i : Nat) (x : S) : S × Prop :=
  match stp x with
  | .tup cs => (cs.getD i .any, stc x ∧ i < cs.length)
  | _ => (.any, False)
def pickD (k : Bool) (x y : D) : S × Prop :=
  match x, y with
  | .b p, .b q => (.d (.b (bif k then p else q)), True)
  | .i kx p, .i ky q => (.d (.i kx (bif k then p else q)), kx = ky)
  | _, _ => (.any, True)
def pickS (c x y : S) : S × Prop :=
  match stp c with
  | .d (.b k) => match stp x, stp y with
    | .d p, .d q => ((pickD k p q).1, stc c ∧ (k = true → stc x) ∧ (k = false → stc y) ∧ (pickD k p q).2)
    | _, _ => (.any, stc c)
  | _ => (.any, False)
def binI (op : BinOp) (k : IntKind) (x y : Int) : D × Prop :=
  match op with
  | .add => (.i k (k.wrap (x + y)), True)
  | .sub => (.i k (k.wrap (x - y)), True)
  | .mul => (.i k (k.wrap (x * y)), True)
  | .quo => (.i k (k.wrap (x.tdiv y)), y ≠ 0)
  | .rem => (.i k (x.tmod y), y ≠ 0)
  | .and | .or | .xor | .andNot => (.i k (Go.bits op k x y), True)
  | .eql => (.b (x == y), True)
  | .neq => (.b (x != y), True)
  | .lss => (.b (decide (x < y)), True)
  | .leq => (.b (decide (x ≤ y)), True)
  | .gtr => (.b (decide (y < x)), True)
  | .geq => (.b (decide (y ≤ x)), True)
  | .shl => (.i k (k.wrap (x * 2 ^ (min y.toNat k.bits))), 0 ≤ y)
  | .shr => (.i k (x.fdiv (2 ^ (min y.toNat k.bits))), 0 ≤ y)
def isShift : BinOp → Bool
  | .shl | .shr => true
  | _ => false
def binD (P : Program) (op : BinOp) (t : TypeId) (x y : D) : S × Prop :=
  match x, y with
  | .i k m, .i k' n => (.d (binI op k m n).1, (isShift op = true ∨ k = k') ∧ (binI op k m n).2)
  | .b p, .b q => match op with
    | .eql => (.d (.b (p == q)), boolT P t = true)
    | .neq => (.d (.b (!(p == q))), boolT P t = true)
    | _ => (.any, False)
  | .s p, .s q => match op with
    | .eql => (.d (.b (p.toList == q.toList)), True)
    | .neq => (.d (.b (!(p.toList == q.toList))), True)
    | .add => (.d (.s (p ++ q)), p.size + q.size ≤ 9223372036854775807)
    | _ => (.any, False)
  | .nil, .nil => match op with
    | .eql => (.d (.b true), (slT P t).isSome = true)
    | .neq => (.d (.b false), (slT P t).isSome = true)
    | _ => (.any, False)
  | .row _ es, .nil => match op with
    | .eql => (.d (.b false), (slT P t).isSome = true ∧ es ≠ [])
    | .neq => (.d (.b true), (slT P t).isSome = true ∧ es ≠ [])
    | _ => (.any, False)
  | _, _ => (.any, False)
/-- two values of a struct, of numbers alone, are compared -/
def eqA : List S → List S → Bool
  | [], [] => true
  | .d (.i _ m) :: r, .d (.i _ n) :: q => (m == n) && eqA r q
  | _, _ => false
def cellsV : List S → Option (List Value)
  | [] => some []
  | .d (.i k n) :: r => (cellsV r).map (Value.int k n :: ·)
  | _ => none
def aggE (P : Program) (op : BinOp) (t : TypeId) (xs ys : List S) (b : Bool) : Prop := ∃ us vs, cellsV xs = some us ∧ cellsV ys = some vs ∧ ∀ (x y : Operand) (W : World), (do eqGuard op t x y (.agg us.toArray) (.agg vs.toArray); binOp op t (.agg us.toArray) (.agg vs.toArray) : Sem Value).run P W = .ok (.bool b) W
def binS (P : Program) (op : BinOp) (t : TypeId) (x y : S) : S × Prop :=
  match stp x, stp y with
  | .d p, .d q => ((binD P op t p q).1, stc x ∧ stc y ∧ (binD P op t p q).2)
  | .agg xs, .agg ys => match op with
    | .eql => (.d (.b (eqA xs ys)), stc x ∧ stc y ∧ aggE P .eql t xs ys (eqA xs ys))
    | .neq => (.d (.b (!(eqA xs ys))), stc x ∧ stc y ∧ aggE P .neq t xs ys (!(eqA xs ys)))
    | _ => (.any, False)
  | _, _ => (.any, False)
def xorV (k : IntKind) (n : Int) : Int := Go.bits .xor k (if k.signed then -1 else k.max) n
def unS (op : UnOp) (x : S) : S × Prop :=
  match stp x with
  | .d (.b p) => match op with
    | .not => (.d (.b (!p)), stc x)
    | _ => (.any, False)
  | .d (.i k n) => match op with
    | .neg => (.d (.i k (k.wrap (0 - n))), stc x)
    | .xor => (.d (.i k (xorV k n)), stc x)
    | _ => (.any, False)
  | _ => (.any, False)
def convS (P : Program) (dst : TypeId) (src : TypeId) (x : S) : S × Prop :=
  match stp x with
  | .d (.i _ n) => match kT P dst with
    | some k => (.d (.i k (k.wrap n)), stc x ∧ (P.underlying src).isSome = true)
    | none => (.any, False)
  | _ => (.any, False)
def lenS (P : Program) (s : St) (t : TypeId) (x : S) : S × Prop :=
  match stp x with
  | .own h => match lh s.h h with
    | some (.row _ _ es) => (.d (.i .i64 es.length), stc x ∧ (slT P t).isSome = true)
    | some (.rows _ ss) => (.d (.i .i64 ss.length), stc x ∧ (slT P t).isSome = true)
    | _ => (.any, False)
  | .d (.row _ es) => (.d (.i .i64 es.length), stc x ∧ (slT P t).isSome = true)
  | .d .nil => (.d (.i .i64 0), stc x ∧ (slT P t).isSome = true)
  | .d (.s b) => (.d (.i .i64 b.size), stc x ∧ strT P t = true)
  | _ => (.any, False)
def bndI (o : Option S) (dflt : Int) : Int := match o with | some x => (match stp x with | .d (.i _ i) => i | _ => 0) | none => dflt
def bndC (o : Option S) : Prop := match o with | some x => stc x ∧ (match stp x with | .d (.i _ _) => True | _ => False) | none => True
def sliceS (P : Program) (t : TypeId) (x : S) (lo hi : Option S) : S × Prop :=
  match stp x with
  | .d (.row e0 es) => match slT P t with
    | some e => (.d (.row e0 ((es.take (bndI hi es.length).toNat).drop (bndI lo 0).toNat)), stc x ∧ okT P e = true ∧ szT P e = e0.length ∧ bndC lo ∧ bndC hi ∧ 0 ≤ bndI lo 0 ∧ bndI lo 0 ≤ bndI hi es.length ∧ bndI hi es.length ≤ es.length)
    | none => (.any, False)
  | .d (.s b) => (.d (.s (b.extract (bndI lo 0).toNat (bndI hi b.size).toNat)), stc x ∧ strT P t = true ∧ bndC lo ∧ bndC hi ∧ 0 ≤ bndI lo 0 ∧ bndI lo 0 ≤ bndI hi b.size ∧ bndI hi b.size ≤ b.size)
  | _ => (.any, False)
def mmD (mx : Bool) (x y : D) : S × Prop :=
  match x, y with
  | .i k m, .i _ n => (.d (.i k (bif mx then (if n > m then n else m) else (if n < m then n else m))), True)
  | _, _ => (.any, False)
def mm2 (mx : Bool) (x y : S) : S × Prop :=
  match stp x, stp y with
  | .d p, .d q => ((mmD mx p q).1, stc x ∧ stc y ∧ (mmD mx p q).2)
  | _, _ => (.any, False)
section pure
variable {E : Env} {s : St} {a : Act} {w : World} {η : Nat → Value} (h : Rel E s a w η)
include h
theorem fieldAddr_ok {t f : Nat} {x : Operand} (hc : (fieldAddrS E.P t f (ev s x)).2) : ∃ v, RS η (Fr E s.h η) w (fieldAddrS E.P t f (ev s x)).1 v ∧ ∀ w', (Instr.fieldAt t (a.eval x) f).run E.P w' = .ok v w' := by
  unfold fieldAddrS at hc ⊢
  cases hf : fldT E.P t f with
  | none => rw [hf] at hc; exact hc.elim
  | some p =>
    obtain ⟨off, ft⟩ := p
    have hrun : ∀ ad, okT E.P ft = true → 0 < szT E.P ft → ∀ w', (Instr.fieldAt t (.pointer (some ad)) f).run E.P w' = .ok (.pointer (some (ad.add off))) w' := by
      intro ad hok hsz w'
      unfold fldT at hf
      cases hu : E.P.underlying t with
      | none => rw [hu] at hf; cases hf
      | some d =>
        rw [hu] at hf
        cases d <;> simp only [] at hf <;> try (cases hf; done)
        rename_i fs
        cases hff : fs[f]? with
        | none => rw [hff] at hf; cases hf
        | some fd =>
          rw [hff] at hf
          obtain ⟨rfl, rfl⟩ : fd.offset = off ∧ fd.type = ft := by simpa using hf
          have hs := run_size (P := E.P) (w := w') hok
          simp only [Instr.fieldAt, Sem.run_bind, run_und hu, Result.andThen_ok, hff, Instr.sureAddr, Sem.run_pure, fieldPlace, hs]
          rw [if_neg (by omega)]
          rfl
    rw [hf] at hc
    simp only at hc ⊢
    generalize hx : ev s x = y at *
    cases hy : stp y <;> simp only [hy] at hc ⊢ <;> try exact hc.elim
    case ptr k o =>
      have r := RS_ev' h x (by rw [hx]; exact hc.1)
      rw [hx, hy] at r
      simp only [RS] at r
      obtain ⟨g, hg, hv⟩ := r
      refine ⟨_, ?_, by rw [hv]; exact hrun _ hc.2.1 hc.2.2⟩
      simp only [RS]
      exact ⟨g, hg, by rw [add_at]⟩
    case eptr k z i o =>
      have r := RS_ev' h x (by rw [hx]; exact hc.1)
      rw [hx, hy] at r
      simp only [RS] at r
      obtain ⟨g, n, c, hg, hv⟩ := r
      refine ⟨_, ?_, by rw [hv]; exact hrun _ hc.2.1 hc.2.2⟩
      simp only [RS]
      exact ⟨g, n, c, hg, by rw [add_at, Nat.add_assoc]⟩
    case fptr cs =>
      have r := RS_ev' h x (by rw [hx]; exact hc.1)
      rw [hx, hy] at r
      simp only [RS] at r
      obtain ⟨ad, arr, t', fr, hv, hs, hF, hh, r⟩ := r
      refine ⟨_, ?_, by rw [hv]; exact hrun _ hc.2.1 hc.2.2⟩
      simp only [RS]
      exact ⟨_, arr, t', fr, rfl, by rw [add_at' hs], by rw [add_at' hs]; exact hF, by rw [add_at' hs]; exact hh, by rw [add_at' hs]; exact r.drop off⟩
    case fps cs =>
      have r := RS_ev' h x (by rw [hx]; exact hc.1)
      rw [hx, hy] at r
      simp only [RS] at r
      obtain ⟨ad, arr, t', fr, hv, hs, hF, hh, r⟩ := r
      refine ⟨_, ?_, by rw [hv]; exact hrun _ hc.2.1 hc.2.2⟩
      simp only [RS]
      exact ⟨_, arr, t', fr, rfl, by rw [add_at' hs], by rw [add_at' hs]; exact hF, by rw [add_at' hs]; exact hh, by rw [add_at' hs]; exact fps_drop r off⟩
theorem part_ok {t : TypeId} {cs : List S} {vs : Array Value} {off : Nat} (r : RSL η (Fr E s.h η) w cs vs.toList) (hc : (partS E.P t cs off).2) : ∃ v, RS η (Fr E s.h η) w (partS E.P t cs off).1 v ∧ ∀ w', (part t vs off).run E.P w' = .ok v w' := by
  unfold partS at hc ⊢
  cases hag : aggT E.P t with
  | true =>
    simp only [hag, cond_true] at hc ⊢
    refine ⟨.agg (vs.extract off (off + szT E.P t)), ?_, ?_⟩
    · simp only [RS]
      refine ⟨_, rfl, ?_⟩
      have e : (vs.extract off (off + szT E.P t)).toList = (vs.toList.drop off).take (szT E.P t) := by
        simp [List.take_drop]
      rw [e]
      exact RSL_take (RSL_drop r off) _
    · intro w'
      simp only [part, Sem.run_bind, run_agg hc, hag, Result.andThen_ok, if_true, run_size hc, Sem.run_pure]
  | false =>
    simp only [hag, cond_false] at hc ⊢
    obtain ⟨hok, hlt⟩ := hc
    obtain ⟨v, h1, h2⟩ := RSL_get r off cs[off] (by simp [hlt])
    refine ⟨v, ?_, ?_⟩
    · have : (cs.drop off).headD .any = cs[off] := by
        rw [List.drop_eq_getElem_cons hlt]; rfl
      rw [this]; exact h2
    · intro w'
      have h1' : vs[off]? = some v := by simpa using h1
      simp only [part, Sem.run_bind, run_agg hok, hag, Result.andThen_ok, Bool.false_eq_true, if_false, h1', Sem.run_pure]
theorem field_ok {t f : Nat} {x : Operand} (hc : (fieldS E.P t f (ev s x)).2) : ∃ v, RS η (Fr E s.h η) w (fieldS E.P t f (ev s x)).1 v ∧ ∀ w', (Instr.field t (a.eval x) f).run E.P w' = .ok v w' := by
  unfold fieldS at hc ⊢
  cases hf : fldT E.P t f with
  | none => rw [hf] at hc; exact hc.elim
  | some p =>
    obtain ⟨off, ft⟩ := p
    rw [hf] at hc
    simp only at hc ⊢
    generalize hx : ev s x = y at *
    cases hy : stp y <;> simp only [hy] at hc ⊢ <;> try exact hc.elim
    case agg cs =>
      have r := RS_ev' h x (by rw [hx]; exact hc.1)
      rw [hx, hy] at r
      simp only [RS] at r
      obtain ⟨vs, hv, r⟩ := r
      obtain ⟨v, h1, h2⟩ := part_ok h r hc.2
      refine ⟨v, h1, ?_⟩
      unfold fldT at hf
      cases hu : E.P.underlying t with
      | none => rw [hu] at hf; cases hf
      | some d =>
        rw [hu] at hf
        cases d <;> simp only [] at hf <;> try (cases hf; done)
        rename_i fs
        cases hff : fs[f]? with
        | none => rw [hff] at hf; cases hf
        | some fd =>
          rw [hff] at hf
          obtain ⟨rfl, rfl⟩ : fd.offset = off ∧ fd.type = ft := by simpa using hf
          intro w'
          rw [hv]
          simp only [Instr.field, Sem.run_bind, run_und hu, Result.andThen_ok, hff, asAgg, Sem.run_pure, h2]
theorem indexAddr_ok {t : TypeId} {x y : Operand} (hc : (indexAddrS E.P s t (ev s x) (ev s y)).2) : ∃ v, RS η (Fr E s.h η) w (indexAddrS E.P s t (ev s x) (ev s y)).1 v ∧ ∀ w', (Instr.indexAt t (a.eval x) (a.eval y)).run E.P w' = .ok v w' := by
  unfold indexAddrS at hc ⊢
  generalize hY : ev s y = q at *
  cases hq : stp q <;> simp only [hq] at hc ⊢ <;> try exact hc.elim
  case d dd =>
    cases dd <;> simp only at hc ⊢ <;> try exact hc.elim
    case i ki i =>
      have ry : stc q → a.eval y = .int ki i := fun hs => by
        have r := RS_ev' h y (by rw [hY]; exact hs)
        rw [hY, hq] at r
        simpa only [RS, Rd] using r
      cases hsl : slT E.P t with
      | some e =>
        simp only [hsl] at hc ⊢
        have hu : E.P.underlying t = some (.slice e) := by
          unfold slT at hsl
          cases hu : E.P.underlying t with
          | none => rw [hu] at hsl; cases hsl
          | some d =>
            rw [hu] at hsl
            cases d <;> simp only [] at hsl <;> try (cases hsl; done)
            obtain rfl : _ = e := by simpa using hsl
            rfl
        have hrun : ∀ (ad : Addr) (len cap : Nat), okT E.P e = true → 0 ≤ i → i < (len : Int) → ∀ w', (Instr.indexAt t (.slice (some ad) len cap) (.int ki i)).run E.P w' = .ok (.pointer (some (ad.add (i.toNat * szT E.P e)))) w' := by
          intro ad len cap hok h0 h1 w'
          have hs := run_size (P := E.P) (w := w') hok
          simp only [Instr.indexAt, asIntOf, Sem.run_bind, Sem.run_pure, Result.andThen_ok, run_und hu, if_pos (And.intro h0 h1), hs]
        generalize hX : ev s x = y' at *
        cases hy : stp y' <;> simp only [hy] at hc ⊢ <;> try exact hc.elim
        case own k =>
          cases hl : lh s.h k with
          | none => rw [hl] at hc; exact hc.elim
          | some ob =>
            cases ob with
            | box _ _ => rw [hl] at hc; exact hc.elim
            | mp _ => rw [hl] at hc; exact hc.elim
            | rows t' ss =>
              simp only [hl] at hc ⊢
              obtain ⟨c1, c2, hok, hsz, h0, h1⟩ := hc
              have r := RS_ev' h x (by rw [hX]; exact c1)
              rw [hX, hy] at r
              simp only [RS] at r
              obtain ⟨xs, ho, _⟩ := h.ob k _ hl
              obtain ⟨g, cap, cur, e', hb, hh, _⟩ := own_row ho (by omega)
              refine ⟨_, ?_, by rw [r, e', ry c2]; exact hrun _ _ _ hok h0 h1⟩
              simp only [RS]
              exact ⟨g, _, _, e', by rw [add_at, hsz]; simp⟩
            | row t' e0 es =>
              simp only [hl] at hc ⊢
              obtain ⟨c1, c2, hok, hsz, h0, h1⟩ := hc
              have r := RS_ev' h x (by rw [hX]; exact c1)
              rw [hX, hy] at r
              simp only [RS] at r
              obtain ⟨xs, ho, _⟩ := h.ob k _ hl
              obtain ⟨g, cap, cur, e', hb, hh, _⟩ := own_row ho (by omega)
              refine ⟨_, ?_, by rw [r, e', ry c2]; exact hrun _ _ _ hok h0 h1⟩
              simp only [RS]
              exact ⟨g, _, _, e', by rw [add_at, hsz]; simp⟩
        case d dd =>
          cases dd <;> simp only at hc ⊢ <;> try exact hc.elim
          case row e0 es =>
            obtain ⟨c1, c2, hok, hsz, h0, h1⟩ := hc
            have r := RS_ev' h x (by rw [hX]; exact c1)
            rw [hX, hy] at r
            simp only [RS, Rd] at r
            obtain ⟨av, c, hv, hlc, r⟩ := r
            have hlt : i.toNat < es.length := by omega
            rcases r with r | ⟨ad, cs, t', fr, ha, hs, hF, hh, r⟩
            · simp [r.1] at hlt
            · refine ⟨_, ?_, by rw [hv, ha, ry c2]; exact hrun _ _ _ hok h0 h1⟩
              simp only [RS]
              refine ⟨ad.add (i.toNat * szT E.P e), cs, t', fr, rfl, by rw [add_at' hs], by rw [add_at' hs]; exact hF, by rw [add_at' hs]; exact hh, ?_⟩
              rw [add_at' hs]
              obtain ⟨_, r⟩ := r.get i.toNat es[i.toNat] (by simp [hlt])
              rw [hsz]
              simpa [List.getD, hlt] using r
      | none =>
        simp only [hsl] at hc ⊢
        cases har : arT E.P t with
        | none => rw [har] at hc; exact hc.elim
        | some p =>
          obtain ⟨n, e⟩ := p
          simp only [har] at hc ⊢
          have hu : E.P.underlying t = some (.array n e) := by
            unfold arT at har
            cases hu : E.P.underlying t with
            | none => rw [hu] at har; cases har
            | some d =>
              rw [hu] at har
              cases d <;> simp only [] at har <;> try (cases har; done)
              obtain ⟨rfl, rfl⟩ : _ = n ∧ _ = e := by simpa using har
              rfl
          have hrun : ∀ ad, okT E.P e = true → 0 ≤ i → i < (n : Int) → ∀ w', (Instr.indexAt t (.pointer (some ad)) (.int ki i)).run E.P w' = .ok (.pointer (some (ad.add (i.toNat * szT E.P e)))) w' := by
            intro ad hok h0 h1 w'
            have hs := run_size (P := E.P) (w := w') hok
            simp only [Instr.indexAt, asIntOf, Sem.run_bind, Sem.run_pure, Result.andThen_ok, run_und hu, Instr.sureAddr, if_pos (And.intro h0 h1), hs]
          generalize hX : ev s x = y' at *
          cases hy : stp y' <;> simp only [hy] at hc ⊢ <;> try exact hc.elim
          case ptr k o =>
            have r := RS_ev' h x (by rw [hX]; exact hc.1)
            rw [hX, hy] at r
            simp only [RS] at r
            obtain ⟨g, hg, hv⟩ := r
            refine ⟨_, ?_, by rw [hv, ry hc.2.1]; exact hrun _ hc.2.2.1 hc.2.2.2.1 hc.2.2.2.2⟩
            simp only [RS]
            exact ⟨g, hg, by rw [add_at]⟩
          case fptr cs =>
            have r := RS_ev' h x (by rw [hX]; exact hc.1)
            rw [hX, hy] at r
            simp only [RS] at r
            obtain ⟨ad, arr, t', fr, hv, hs, hF, hh, r⟩ := r
            refine ⟨_, ?_, by rw [hv, ry hc.2.1]; exact hrun _ hc.2.2.1 hc.2.2.2.1 hc.2.2.2.2⟩
            simp only [RS]
            exact ⟨_, arr, t', fr, rfl, by rw [add_at' hs], by rw [add_at' hs]; exact hF, by rw [add_at' hs]; exact hh, by rw [add_at' hs]; exact r.drop _⟩
end pure
theorem binI_run (P : Program) (op : BinOp) (t : TypeId) (x y : Operand) (k k' : IntKind) (m n : Int) (c3 : isShift op = true ∨ k = k') (c4 : (binI op k m n).2) (F : Nat → Prop) (w : World) :
    ∃ v, Rd F w (binI op k m n).1 v ∧ ∀ W, (do eqGuard op t x y (.int k m) (.int k' n); binOp op t (.int k m) (.int k' n) : Sem Value).run P W = .ok v W := by
  have hg : ∀ W, (eqGuard op t x y (.int k m) (.int k' n)).run P W = .ok () W := by
    intro W
    cases op <;> simp [eqGuard]
  cases op
  case shl =>
    simp only [binI] at c4
    refine ⟨_, by simp only [binI, Rd]; rfl, fun W => ?_⟩
    rw [Sem.run_bind, hg, Result.andThen_ok]
    simp only [binOp, Op.shift]
    rw [if_neg (by omega)]
    rfl
  case shr =>
    simp only [binI] at c4
    refine ⟨_, by simp only [binI, Rd]; rfl, fun W => ?_⟩
    rw [Sem.run_bind, hg, Result.andThen_ok]
    simp only [binOp, Op.shift]
    rw [if_neg (by omega)]
    rfl
  all_goals
    obtain rfl : k = k' := by simpa [isShift] using c3
    simp only [binI] at c4
    refine ⟨_, by simp only [binI, Rd]; rfl, fun W => ?_⟩
    rw [Sem.run_bind, hg, Result.andThen_ok]
    simp only [binOp, ne_eq, not_true_eq_false, if_false]
  case quo => simp only [Op.intDiv]; rw [if_neg c4]; rfl
  case rem => simp only [Op.intDiv]; rw [if_neg c4]; rfl
  all_goals rfl
theorem depth_succ : ∃ n, Op.maxDepth = n + 1 := ⟨9999, rfl⟩
theorem eq_bool {P : Program} {W : World} {t : TypeId} (hu : P.underlying t = some .bool) (p q : Bool) : (Op.equal t (.bool p) (.bool q)).run P W = .ok (p == q) W := by
  obtain ⟨n, hn⟩ := depth_succ
  simp only [Op.equal, hn, Op.equalIn, Sem.run_bind, run_und hu, Result.andThen_ok, Sem.run_pure]
theorem eq_nil {P : Program} {W : World} {t e : TypeId} (hu : P.underlying t = some (.slice e)) : (Op.equal t (.slice none 0 0) (.slice none 0 0)).run P W = .ok true W := by
  obtain ⟨n, hn⟩ := depth_succ
  simp only [Op.equal, hn, Op.equalIn, Sem.run_bind, run_und hu, Result.andThen_ok, Sem.run_pure, Option.isNone_none]
theorem eq_row {P : Program} {W : World} {t e : TypeId} (hu : P.underlying t = some (.slice e)) (ad : Addr) (l c : Nat) : (Op.equal t (.slice (some ad) l c) (.slice none 0 0)).run P W = .ok false W := by
  obtain ⟨n, hn⟩ := depth_succ
  simp only [Op.equal, hn, Op.equalIn, Sem.run_bind, run_und hu, Result.andThen_ok, Sem.run_pure]
section pure
variable {E : Env} {s : St} {a : Act} {w : World} {η : Nat → Value} (h : Rel E s a w η)
include h
theorem opd {x : Operand} {y : S} (hx : stp (ev s x) = y) (c : stc (ev s x)) : RS η (Fr E s.h η) w y (a.eval x) := hx ▸ RS_ev' h x c
theorem index_ok {t : TypeId} {x y : Operand} (hc : (indexS E.P t (ev s x) (ev s y)).2) : ∃ v, RS η (Fr E s.h η) w (indexS E.P t (ev s x) (ev s y)).1 v ∧ ∀ w', (Instr.index t (a.eval x) (a.eval y)).run E.P w' = .ok v w' := by
  unfold indexS at hc ⊢
  cases hq : stp (ev s y) <;> simp only [hq] at hc ⊢ <;> try exact hc.elim
  case d dd =>
    cases dd <;> simp only at hc ⊢ <;> try exact hc.elim
    case i ki i =>
      have ry : stc (ev s y) → a.eval y = .int ki i := fun hs => by simpa only [RS, Rd] using opd h hq hs
      cases hy : stp (ev s x) <;> simp only [hy] at hc ⊢ <;> try exact hc.elim
      case d d2 =>
        cases d2 <;> simp only at hc ⊢ <;> try exact hc.elim
        case s b =>
          obtain ⟨c1, c2, hs, h0, h1⟩ := hc
          have rx : a.eval x = .string b := by simpa only [RS, Rd] using opd h hy c1
          have hu : E.P.underlying t = some .string := by
            unfold strT at hs
            cases hu : E.P.underlying t with
            | none => rw [hu] at hs; cases hs
            | some d => rw [hu] at hs; cases d <;> first | rfl | cases hs
          have hlt : i.toNat < b.size := by omega
          refine ⟨_, by simp only [RS, Rd]; rfl, fun w' => ?_⟩
          have hb : b[i.toNat]? = some b[i.toNat] := by simp [hlt]
          rw [rx, ry c2]
          simp only [Instr.index, asIntOf, Sem.run_bind, Sem.run_pure, Result.andThen_ok, run_und hu, if_pos h0, hb, byteAt, Option.map_some, Option.getD_some]
      case agg cs =>
        cases har : arT E.P t with
        | none => rw [har] at hc; exact hc.elim
        | some p =>
          obtain ⟨n, e⟩ := p
          simp only [har] at hc ⊢
          obtain ⟨c1, c2, hp, h0, h1⟩ := hc
          have hu : E.P.underlying t = some (.array n e) := by
            unfold arT at har
            cases hu : E.P.underlying t with
            | none => rw [hu] at har; cases har
            | some d =>
              rw [hu] at har
              cases d <;> simp only [] at har <;> try (cases har; done)
              obtain ⟨rfl, rfl⟩ : _ = n ∧ _ = e := by simpa using har
              rfl
          have r := opd h hy c1
          simp only [RS] at r
          obtain ⟨vs, hv, r⟩ := r
          obtain ⟨v, h2, h3⟩ := part_ok h r hp
          refine ⟨v, h2, fun w' => ?_⟩
          have hok : okT E.P e = true := by
            unfold partS at hp
            cases hag : aggT E.P e <;> simp only [hag, cond_true, cond_false] at hp
            · exact hp.1
            · exact hp
          have hs := run_size (P := E.P) (w := w') hok
          rw [hv, ry c2]
          simp only [Instr.index, asIntOf, Sem.run_bind, Sem.run_pure, Result.andThen_ok, run_und hu, if_pos (And.intro h0 h1), hs, h3]
theorem extract_ok {i : Nat} {x : Operand} (hc : (extractS i (ev s x)).2) : ∃ v, RS η (Fr E s.h η) w (extractS i (ev s x)).1 v ∧ ∀ w', (Instr.extract (a.eval x) i).run E.P w' = .ok v w' := by
  unfold extractS at hc ⊢
  cases hy : stp (ev s x) <;> simp only [hy] at hc ⊢ <;> try exact hc.elim
  case tup cs =>
    have r := opd h hy hc.1
    simp only [RS] at r
    obtain ⟨vs, hv, r⟩ := r
    obtain ⟨v, h1, h2⟩ := RSL_get r i cs[i] (by simp [hc.2])
    refine ⟨v, by simpa [List.getD, hc.2] using h2, fun w' => ?_⟩
    have h1' : vs[i]? = some v := by simpa using h1
    rw [hv]
    simp only [Instr.extract, h1', Sem.run_pure]
theorem pick_ok {c x y : Operand} (hc : (pickS (ev s c) (ev s x) (ev s y)).2) : ∃ v, RS η (Fr E s.h η) w (pickS (ev s c) (ev s x) (ev s y)).1 v ∧ ∀ w', (do pure (.value (if ← asBool (a.eval c) then a.eval x else a.eval y)) : Sem Next).run E.P w' = .ok (.value v) w' := by
  unfold pickS at hc ⊢
  cases hk : stp (ev s c) <;> simp only [hk] at hc ⊢ <;> try exact hc.elim
  case d dd =>
    cases dd <;> simp only at hc ⊢ <;> try exact hc.elim
    case b k =>
      have hrun : stc (ev s c) → ∀ w', (do pure (.value (if ← asBool (a.eval c) then a.eval x else a.eval y)) : Sem Next).run E.P w' = .ok (.value (if k then a.eval x else a.eval y)) w' := fun hs w' => by
        have : a.eval c = .bool k := by simpa only [RS, Rd] using opd h hk hs
        rw [this]
        simp only [asBool, Sem.run_bind, Sem.run_pure, Result.andThen_ok]
      cases hx : stp (ev s x) <;> simp only [hx] at hc ⊢ <;> try exact ⟨_, by simp only [RS], hrun hc⟩
      case d p =>
        cases hy : stp (ev s y) <;> simp only [hy] at hc ⊢ <;> try exact ⟨_, by simp only [RS], hrun hc⟩
        case d q =>
          obtain ⟨c0, c1, c2, c3⟩ := hc
          refine ⟨_, ?_, hrun c0⟩
          have rx : k = true → Rd (Fr E s.h η) w p (a.eval x) := fun e => by simpa only [RS] using opd h hx (c1 e)
          have ry : k = false → Rd (Fr E s.h η) w q (a.eval y) := fun e => by simpa only [RS] using opd h hy (c2 e)
          cases p <;> cases q <;> simp only [pickD, RS, Rd] at c3 rx ry ⊢
          all_goals (cases k <;> simp_all)
omit h in
theorem cellsV_ok : ∀ (xs : List S) (us : List Value), cellsV xs = some us → ∀ vs, RSL η (Fr E s.h η) w xs vs → vs = us
  | [], us, e, vs, r => by
    simp only [cellsV, Option.some.injEq] at e
    simp only [RSL] at r
    rw [r, ← e]
  | x :: xs, us, e, vs, r => by
    simp only [RSL] at r
    obtain ⟨v, q, rfl, rx, rq⟩ := r
    unfold cellsV at e
    split at e
    · rename_i h1; cases h1
    · rename_i h1
      cases h1
      rename_i k n r'
      cases hc : cellsV xs with
      | none => rw [hc] at e; cases e
      | some us' =>
        rw [hc] at e
        simp only [Option.map_some, Option.some.injEq] at e
        have := cellsV_ok xs us' hc _ rq
        simp only [RS, Rd] at rx
        rw [← e, rx, this]
    · cases e
theorem bin_ok {op : BinOp} {t : TypeId} {x y : Operand} (hc : (binS E.P op t (ev s x) (ev s y)).2) : ∃ v, RS η (Fr E s.h η) w (binS E.P op t (ev s x) (ev s y)).1 v ∧ ∀ w', (do eqGuard op t x y (a.eval x) (a.eval y); binOp op t (a.eval x) (a.eval y) : Sem Value).run E.P w' = .ok v w' := by
  unfold binS at hc ⊢
  cases hx : stp (ev s x) <;> simp only [hx] at hc ⊢ <;> try exact hc.elim
  all_goals (cases hy : stp (ev s y) <;> simp only [hy] at hc ⊢ <;> try exact hc.elim)
  case agg.agg xs ys =>
    have key : ∀ (b : Bool), stc (ev s x) → stc (ev s y) → aggE E.P op t xs ys b → ∀ w', (do eqGuard op t x y (a.eval x) (a.eval y); binOp op t (a.eval x) (a.eval y) : Sem Value).run E.P w' = .ok (.bool b) w' := by
      rintro b c1 c2 ⟨us, vs, e1, e2, hr⟩ w'
      have rx : RS η (Fr E s.h η) w (.agg xs) (a.eval x) := opd h hx c1
      have ry : RS η (Fr E s.h η) w (.agg ys) (a.eval y) := opd h hy c2
      simp only [RS] at rx ry
      obtain ⟨xv, ex, rx⟩ := rx
      obtain ⟨yv, ey, ry⟩ := ry
      have f1 := cellsV_ok xs us e1 _ rx
      have f2 := cellsV_ok ys vs e2 _ ry
      rw [ex, ey, show xv = us.toArray from Array.ext' f1, show yv = vs.toArray from Array.ext' f2]
      exact hr x y w'
    cases op <;> simp only at hc ⊢ <;> try exact hc.elim
    all_goals exact ⟨_, by simp only [RS, Rd], key _ hc.1 hc.2.1 hc.2.2⟩
  rename_i p q
  obtain ⟨c1, c2, hc⟩ := hc
  have rx : Rd (Fr E s.h η) w p (a.eval x) := by simpa only [RS] using opd h hx c1
  have ry : Rd (Fr E s.h η) w q (a.eval y) := by simpa only [RS] using opd h hy c2
  have hsl : (slT E.P t).isSome = true → ∃ e, E.P.underlying t = some (.slice e) := fun hb => by
    unfold slT at hb
    cases hu : E.P.underlying t with
    | none => rw [hu] at hb; cases hb
    | some d => rw [hu] at hb; cases d <;> first | exact ⟨_, rfl⟩ | cases hb
  have hbo : boolT E.P t = true → E.P.underlying t = some .bool := fun hb => by
    unfold boolT at hb
    cases hu : E.P.underlying t with
    | none => rw [hu] at hb; cases hb
    | some d => rw [hu] at hb; cases d <;> first | rfl | cases hb
  cases p <;> cases q <;> simp only [binD] at hc ⊢ <;> try exact hc.elim
  case i.i k m k' n =>
    simp only [Rd] at rx ry
    rw [rx, ry]
    obtain ⟨v, h1, h2⟩ := binI_run E.P op t x y k k' m n hc.1 hc.2 (Fr E s.h η) w
    exact ⟨v, by simpa only [RS] using h1, h2⟩
  case b.b p q =>
    simp only [Rd] at rx ry
    rw [rx, ry]
    cases op <;> simp only at hc ⊢ <;> try exact hc.elim
    all_goals
      refine ⟨_, by simp only [RS, Rd]; rfl, fun w' => ?_⟩
      simp [eqGuard, binOp, eq_bool (hbo hc)]
  case s.s p q =>
    simp only [Rd] at rx ry
    rw [rx, ry]
    cases op <;> simp only at hc ⊢ <;> try exact hc.elim
    all_goals
      refine ⟨_, by simp only [RS, Rd]; rfl, fun w' => ?_⟩
    · have : ¬ ((p.size + q.size : Nat) : Int) > IntKind.i64.max := by
        show ¬ ((p.size + q.size : Nat) : Int) > 9223372036854775807
        omega
      simp only [eqGuard, binOp, Op.stringOp, Sem.run_bind]
      rw [if_neg this]
      rfl
    · simp [eqGuard, binOp, Op.stringOp]
    · simp [eqGuard, binOp, Op.stringOp]
  case nil.nil =>
    simp only [Rd] at rx ry
    rw [rx, ry]
    cases op <;> simp only at hc ⊢ <;> try exact hc.elim
    all_goals
      obtain ⟨e, hu⟩ := hsl hc
      refine ⟨_, by simp only [RS, Rd]; rfl, fun w' => ?_⟩
      simp [eqGuard, binOp, eq_nil hu]
  case row.nil e0 es =>
    simp only [Rd] at rx ry
    obtain ⟨av, c, rx, _, r⟩ := rx
    rw [rx, ry]
    cases op <;> simp only at hc ⊢ <;> try exact hc.elim
    all_goals
      obtain ⟨e, hu⟩ := hsl hc.1
      rcases r with r | ⟨ad, _, _, _, rfl, _⟩
      · exact absurd r.1 hc.2
      refine ⟨_, by simp only [RS, Rd]; rfl, fun w' => ?_⟩
      simp [eqGuard, binOp, eq_row hu]
theorem un_ok {op : UnOp} {x : Operand} (hc : (unS op (ev s x)).2) : ∃ v, RS η (Fr E s.h η) w (unS op (ev s x)).1 v ∧ ∀ w', (Op.unary op (a.eval x)).run E.P w' = .ok v w' := by
  unfold unS at hc ⊢
  cases hx : stp (ev s x) <;> simp only [hx] at hc ⊢ <;> try exact hc.elim
  case d dd =>
    cases dd <;> simp only at hc ⊢ <;> try exact hc.elim
    case b p =>
      cases op <;> simp only at hc ⊢ <;> try exact hc.elim
      have rx : a.eval x = .bool p := by simpa only [RS, Rd] using opd h hx hc
      exact ⟨_, by simp only [RS, Rd]; rfl, fun w' => by rw [rx]; rfl⟩
    case i k n =>
      cases op <;> simp only at hc ⊢ <;> try exact hc.elim
      all_goals
        have rx : a.eval x = .int k n := by simpa only [RS, Rd] using opd h hx hc
        exact ⟨_, by simp only [RS, Rd]; rfl, fun w' => by rw [rx]; rfl⟩
theorem conv_ok {src dst : TypeId} {x : Operand} (hc : (convS E.P dst src (ev s x)).2) : ∃ v, RS η (Fr E s.h η) w (convS E.P dst src (ev s x)).1 v ∧ ∀ w', (convert src dst (a.eval x)).run E.P w' = .ok v w' := by
  unfold convS at hc ⊢
  cases hx : stp (ev s x) <;> simp only [hx] at hc ⊢ <;> try exact hc.elim
  case d dd =>
    cases dd <;> simp only at hc ⊢ <;> try exact hc.elim
    case i k0 n =>
      cases hk : kT E.P dst with
      | none => rw [hk] at hc; exact hc.elim
      | some k =>
        simp only [hk] at hc ⊢
        obtain ⟨c1, c2⟩ := hc
        have rx : a.eval x = .int k0 n := by simpa only [RS, Rd] using opd h hx c1
        obtain ⟨ds, hds⟩ := Option.isSome_iff_exists.1 c2
        have hu : E.P.underlying dst = some (.int k) := by
          unfold kT at hk
          cases hu : E.P.underlying dst with
          | none => rw [hu] at hk; cases hk
          | some d =>
            rw [hu] at hk
            cases d <;> simp only [] at hk <;> try (cases hk; done)
            obtain rfl : _ = k := by simpa using hk
            rfl
        refine ⟨_, by simp only [RS, Rd]; rfl, fun w' => ?_⟩
        rw [rx]
        simp only [convert, Sem.run_bind, run_und hds, run_und hu, Result.andThen_ok, Conv.intToInt, Sem.run_pure]
theorem len_ok {t ty : TypeId} {x : Operand} (hc : (lenS E.P s t (ev s x)).2) : ∃ v, RS η (Fr E s.h η) w (lenS E.P s t (ev s x)).1 v ∧ ∀ w', (Builtin.len_ #[t] ty #[a.eval x]).run E.P w' = .ok v w' := by
  have hsl : (slT E.P t).isSome = true → ∃ e, E.P.underlying t = some (.slice e) := fun hb => by
    unfold slT at hb
    cases hu : E.P.underlying t with
    | none => rw [hu] at hb; cases hb
    | some d => rw [hu] at hb; cases d <;> first | exact ⟨_, rfl⟩ | cases hb
  unfold lenS at hc ⊢
  cases hx : stp (ev s x) <;> simp only [hx] at hc ⊢ <;> try exact hc.elim
  case own k =>
    cases hl : lh s.h k with
    | none => rw [hl] at hc; exact hc.elim
    | some ob =>
      cases ob with
      | box _ _ => rw [hl] at hc; exact hc.elim
      | mp _ => rw [hl] at hc; exact hc.elim
      | rows t' ss =>
        simp only [hl] at hc ⊢
        obtain ⟨e, hu⟩ := hsl hc.2
        have r := opd h hx hc.1
        simp only [RS] at r
        obtain ⟨xs, ho, _⟩ := h.ob k _ hl
        refine ⟨_, by simp only [RS, Rd]; rfl, fun w' => ?_⟩
        have hv : ∃ aa cc, a.eval x = .slice aa ss.length cc := by
          rw [r]
          rcases ho.2 with ⟨h1, h2⟩ | ⟨g, cap, cur, e', _⟩
          · exact ⟨_, _, by rw [h1, h2]⟩
          · exact ⟨_, _, e'⟩
        obtain ⟨aa, cc, hv⟩ := hv
        rw [hv]
        simp [Builtin.len_, run_und hu, goInt]
      | row t' e0 es =>
        simp only [hl] at hc ⊢
        obtain ⟨e, hu⟩ := hsl hc.2
        have r := opd h hx hc.1
        simp only [RS] at r
        obtain ⟨xs, ho, _⟩ := h.ob k _ hl
        refine ⟨_, by simp only [RS, Rd]; rfl, fun w' => ?_⟩
        have hv : ∃ aa cc, a.eval x = .slice aa es.length cc := by
          rw [r]
          rcases ho.2 with ⟨h1, h2⟩ | ⟨g, cap, cur, e', _⟩
          · exact ⟨_, _, by rw [h1, h2]⟩
          · exact ⟨_, _, e'⟩
        obtain ⟨aa, cc, hv⟩ := hv
        rw [hv]
        simp [Builtin.len_, run_und hu, goInt]
  case d dd =>
    cases dd <;> simp only at hc ⊢ <;> try exact hc.elim
    case s b =>
      have rx : a.eval x = .string b := by simpa only [RS, Rd] using opd h hx hc.1
      have hu : E.P.underlying t = some .string := by
        have hs := hc.2
        unfold strT at hs
        cases hu : E.P.underlying t with
        | none => rw [hu] at hs; cases hs
        | some d => rw [hu] at hs; cases d <;> first | rfl | cases hs
      exact ⟨_, by simp only [RS, Rd]; rfl, fun w' => by rw [rx]; simp [Builtin.len_, run_und hu, goInt]⟩
    case nil =>
      have rx : a.eval x = .slice none 0 0 := by simpa only [RS, Rd] using opd h hx hc.1
      obtain ⟨e, hu⟩ := hsl hc.2
      exact ⟨_, by simp only [RS, Rd]; rfl, fun w' => by rw [rx]; simp [Builtin.len_, run_und hu, goInt]⟩
    case row e0 es =>
      have rx := opd h hx hc.1
      simp only [RS, Rd] at rx
      obtain ⟨av, c, rx, _⟩ := rx
      obtain ⟨e, hu⟩ := hsl hc.2
      exact ⟨_, by simp only [RS, Rd]; rfl, fun w' => by rw [rx]; simp [Builtin.len_, run_und hu, goInt]⟩
theorem mm_ok (mx : Bool) {x y : S} {u v : Value} (hx : RS η (Fr E s.h η) w x u) (hy : RS η (Fr E s.h η) w y v) (hc : (mm2 mx x y).2) : ∃ r, RS η (Fr E s.h η) w (mm2 mx x y).1 r ∧ ∀ w', (if mx then Builtin.max2 u v else Builtin.min2 u v).run E.P w' = .ok r w' := by
  unfold mm2 at hc ⊢
  cases h1 : stp x <;> simp only [h1] at hc ⊢ <;> try exact hc.elim
  cases h2 : stp y <;> simp only [h2] at hc ⊢ <;> try exact hc.elim
  rename_i p q
  have e1 : Rd (Fr E s.h η) w p u := by simpa only [h1, RS] using RS_stp hx hc.1
  have e2 : Rd (Fr E s.h η) w q v := by simpa only [h2, RS] using RS_stp hy hc.2.1
  have hc := hc.2.2
  cases p <;> cases q <;> simp only [mmD] at hc ⊢ <;> try exact hc.elim
  simp only [Rd] at e1 e2
  subst e1 e2
  cases mx <;> exact ⟨_, by simp only [RS, Rd]; rfl, fun w' => by simp [Builtin.max2, Builtin.min2]⟩
end pure
/-! ## structs and arrays that are built -/
def zeroC (P : Program) (t : TypeId) : Option (List S) := ((P.info? t).bind (·.zero)).map fun v => v.cells.toList.map constS
def placesT (P : Program) (t : TypeId) : Option (List (Nat × Nat)) :=
  match P.underlying t with
  | some (.struct fs) => fs.toList.mapM fun f => (P.info? f.type).map fun i => (f.offset, i.size)
  | some (.array n e) => (P.info? e).map fun i => (List.range n).map fun j => (j * i.size, i.size)
  | _ => none
def solid : S → Bool
  | .d _ => true
  | .own _ => true
  | .ptr _ _ => true
  | .eptr _ _ _ _ => true
  | .fptr _ => true
  | .fps _ => true
  | .fn _ _ => true
  | .mth _ _ => true
  | _ => false
def cellsS : S → List S
  | .agg cs => cs
  | x => [x]
def okCells : S → Bool
  | .agg cs => cs.all solid
  | x => solid x
def splS (l : List S) (o : Nat) (cs : List S) : List S := l.take o ++ (cs ++ l.drop (o + cs.length))
def fillS (pl : List (Nat × Nat)) : List S → List (Nat × S) → Option (List S)
  | cells, [] => some cells
  | cells, (i, x) :: r => match pl[i]? with
    | none => none
    | some (off, size) => if okCells x = true ∧ (cellsS x).length = size ∧ off + size ≤ cells.length then fillS pl (splS cells off (cellsS x)) r else none
section
variable {η : Nat → Value} {F : Nat → Prop} {w : World}
theorem solid_one {x : S} {v : Value} (hs : solid x = true) (r : RS η F w x v) (hη : ∀ h, x = .own h → (η h).oneCell' = true) : v.oneCell' = true ∧ v.cells = #[v] := by
  cases x <;> simp only [solid] at hs <;> try (cases hs; done)
  case d x => simp only [RS] at r; exact r.one
  case own h =>
    simp only [RS] at r
    subst r
    have := hη h rfl
    generalize η h = v at *
    cases v <;> simp_all [Value.oneCell', Value.cells]
  case ptr h o => simp only [RS] at r; obtain ⟨_, _, rfl⟩ := r; exact ⟨rfl, rfl⟩
  case eptr h z i o => simp only [RS] at r; obtain ⟨_, _, _, _, rfl⟩ := r; exact ⟨rfl, rfl⟩
  case fptr cs => simp only [RS] at r; obtain ⟨_, _, _, _, rfl, _⟩ := r; exact ⟨rfl, rfl⟩
  case fps cs => simp only [RS] at r; obtain ⟨_, _, _, _, rfl, _⟩ := r; exact ⟨rfl, rfl⟩
  case fn f cs => simp only [RS] at r; obtain ⟨_, rfl, _⟩ := r; exact ⟨rfl, rfl⟩
  case mth f cs => simp only [RS] at r; obtain ⟨_, rfl, _⟩ := r; exact ⟨rfl, rfl⟩
end
/-- the handles' values fill one cell each -/
theorem Rel.one {E : Env} {s : St} {a : Act} {w : World} {η : Nat → Value} (h : Rel E s a w η) {k : Nat} {o : Obj'} (hk : lh s.h k = some o) : (η k).oneCell' = true := by
  have := h.ob k o hk
  cases o with
  | box t cs => obtain ⟨g, vs, e, _⟩ := this; rw [e]; rfl
  | mp R => obtain ⟨g, ob, e, _⟩ := this; rw [e]; rfl
  | rows t ss =>
    obtain ⟨xs, ⟨_, hx⟩, _⟩ := this
    rcases hx with ⟨e, _⟩ | ⟨g, cap, cur, e, _⟩ <;> rw [e] <;> rfl
  | row t e0 es =>
    obtain ⟨xs, ⟨_, hx⟩, _⟩ := this
    rcases hx with ⟨e, _⟩ | ⟨g, cap, cur, e, _⟩ <;> rw [e] <;> rfl
/-- handles that stand in a slot's cells are alive -/
def alive (H : Hp) : S → Prop
  | .own h => (lh H h).isSome = true
  | _ => True
def aliveL (H : Hp) : List S → Prop
  | [] => True
  | c :: cs => alive H c ∧ aliveL H cs
def okS (H : Hp) (x : S) : Prop := okCells x = true ∧ aliveL H (cellsS x)
theorem one_of {E : Env} {s : St} {a : Act} {w : World} {η : Nat → Value} (h : Rel E s a w η) {x : S} (ha : alive s.h x) : ∀ k, x = .own k → (η k).oneCell' = true := by
  intro k e
  subst e
  simp only [alive] at ha
  obtain ⟨o, ho⟩ := Option.isSome_iff_exists.1 ha
  exact h.one ho
theorem cells_ok {E : Env} {s : St} {a : Act} {w : World} {η : Nat → Value} (h : Rel E s a w η) {F : Nat → Prop} {x : S} {v : Value} (r : RS η F w x v) (ok : okS s.h x) : RSL η F w (cellsS x) v.cells.toList ∧ ∀ u ∈ v.cells.toList, u.oneCell' = true := by
  obtain ⟨hk, ha⟩ := ok
  have hall : ∀ (cs : List S) (vs : List Value), RSL η F w cs vs → cs.all solid = true → aliveL s.h cs → ∀ u ∈ vs, u.oneCell' = true := by
    intro cs
    induction cs with
    | nil => intro vs r _ _ u hu; simp only [RSL] at r; subst r; cases hu
    | cons c cs ih =>
      intro vs r hs hal u hu
      simp only [RSL, List.all_cons, Bool.and_eq_true, aliveL] at r hs hal
      obtain ⟨v, l, rfl, h1, h2⟩ := r
      rcases List.mem_cons.1 hu with rfl | hu
      · exact (solid_one hs.1 h1 (one_of h hal.1)).1
      · exact ih l h2 hs.2 hal.2 u hu
  have hsingle : solid x = true → cellsS x = [x] → RSL η F w (cellsS x) v.cells.toList ∧ ∀ u ∈ v.cells.toList, u.oneCell' = true := by
    intro hs e
    rw [e] at ha ⊢
    obtain ⟨h1, h2⟩ := solid_one hs r (one_of h ha.1)
    rw [h2]
    refine ⟨?_, fun u hu => by simp at hu; subst hu; exact h1⟩
    simp only [RSL]
    exact ⟨v, [], rfl, r, rfl⟩
  cases x <;> simp only [okCells] at hk <;> try exact hsingle hk rfl
  case agg cs =>
    simp only [RS] at r
    obtain ⟨vs, rfl, r⟩ := r
    exact ⟨r, hall cs _ r hk ha⟩
theorem spl_get {α : Type} (l : List α) (o : Nat) (cs : List α) (hle : o + cs.length ≤ l.length) (j : Nat) : (l.take o ++ (cs ++ l.drop (o + cs.length)))[j]? = if o ≤ j ∧ j < o + cs.length then cs[j - o]? else l[j]? := by
  by_cases h1 : j < o
  · rw [List.getElem?_append_left (by simp; omega), if_neg (by omega), List.getElem?_take, if_pos h1]
  · rw [List.getElem?_append_right (by simp; omega)]
    have e : (l.take o).length = o := by simp; omega
    rw [e]
    by_cases h2 : j < o + cs.length
    · rw [List.getElem?_append_left (by omega), if_pos (by omega)]
    · rw [List.getElem?_append_right (by omega), if_neg (by omega), List.getElem?_drop]
      congr 1; omega
theorem spl_len {α : Type} (l : List α) (o : Nat) (cs : List α) (hle : o + cs.length ≤ l.length) : (l.take o ++ (cs ++ l.drop (o + cs.length))).length = l.length := by simp; omega
theorem RSL_spl {η : Nat → Value} {F : Nat → Prop} {w : World} {l cs : List S} {vs us : List Value} (r : RSL η F w l vs) (q : RSL η F w cs us) (o : Nat) (hle : o + cs.length ≤ l.length) : RSL η F w (splS l o cs) (vs.take o ++ (us ++ vs.drop (o + us.length))) := by
  have hl := RSL_len r
  have hq := RSL_len q
  refine RSL_of ?_ fun j x hj => ?_
  · rw [spl_len vs o us (by omega)]
    unfold splS
    rw [spl_len l o cs hle]
    exact hl
  · unfold splS at hj
    rw [spl_get l o cs hle] at hj
    rw [spl_get vs o us (by omega), hq]
    split
    · rename_i hh; rw [if_pos hh] at hj; exact RSL_get q _ _ hj
    · rename_i hh; rw [if_neg hh] at hj; exact RSL_get r _ _ hj
theorem foldl_set (off : Nat) : ∀ (vs : List Value) (k : Nat) (cells : Array Value), off + k + vs.length ≤ cells.size →
    ((vs.zipIdx k).foldl (fun cs (c : Value × Nat) => cs.setIfInBounds (off + c.2) c.1) cells).toList = cells.toList.take (off + k) ++ (vs ++ cells.toList.drop (off + k + vs.length))
  | [], k, cells, _ => by simp
  | v :: vs, k, cells, h => by
    rw [List.zipIdx_cons, List.foldl_cons]
    simp only [List.length_cons] at h
    rw [foldl_set off vs (k + 1) _ (by simp; omega)]
    apply List.ext_getElem?
    intro j
    have e1 := spl_get cells.toList (off + k) (v :: vs) (by simp; omega) j
    have e2 := spl_get (cells.setIfInBounds (off + k) v).toList (off + (k + 1)) vs (by simp; omega) j
    rw [show off + (k + 1) + vs.length = off + k + (v :: vs).length by simp; omega] at e2 ⊢
    rw [e1, e2]
    simp only [Array.toList_setIfInBounds, List.getElem?_set, List.length_cons, Array.length_toList]
    by_cases hj : off + k = j
    · subst hj
      rw [if_neg (by omega), if_pos (by omega)]
      simp; omega
    · by_cases hj2 : off + k ≤ j ∧ j < off + k + (vs.length + 1)
      · rw [if_pos hj2, if_pos (by omega)]
        rw [show j - (off + k) = (j - (off + (k + 1))) + 1 by omega, List.getElem?_cons_succ]
      · rw [if_neg hj2, if_neg (by omega), if_neg hj]
theorem fill_ok {E : Env} {s : St} {a : Act} {w : World} {η : Nat → Value} (h : Rel E s a w η) {F : Nat → Prop} (place : Nat → Option (Nat × Nat)) (pl : List (Nat × Nat)) (hp : ∀ i p, pl[i]? = some p → place i = some p) :
    ∀ (parts : List (Nat × S)) (vparts : List (Nat × Value)) (cells : List S) (vcells : Array Value) (out : List S), RSL η F w cells vcells.toList → parts.length = vparts.length → (∀ (j : Nat) (p : Nat × S), parts[j]? = some p → ∃ v, vparts[j]? = some (p.1, v) ∧ RS η F w p.2 v ∧ aliveL s.h (cellsS p.2)) →
      fillS pl cells parts = some out → ∃ vout, Instr.fill place vcells vparts = some vout ∧ RSL η F w out vout.toList
  | [], vparts, cells, vcells, out, r, hl, _, hf => by
    obtain rfl : vparts = [] := by simpa using hl.symm
    simp only [fillS, Option.some.injEq] at hf
    subst hf
    exact ⟨vcells, rfl, r⟩
  | (i, x) :: parts, vparts, cells, vcells, out, r, hl, hv, hf => by
    cases vparts with
    | nil => simp at hl
    | cons q vparts =>
      obtain ⟨v, e, rx, hal⟩ := hv 0 (i, x) rfl
      obtain rfl : q = (i, v) := by simpa using e
      simp only [fillS] at hf
      cases hpi : pl[i]? with
      | none => rw [hpi] at hf; cases hf
      | some p =>
        obtain ⟨off, size⟩ := p
        rw [hpi] at hf
        simp only at hf
        split at hf
        · rename_i hc
          obtain ⟨h1, h2, h3⟩ := hc
          have rc : RSL η F w (cellsS x) v.cells.toList := (cells_ok h rx ⟨h1, hal⟩).1
          have hlen := RSL_len rc
          have hlen' : v.cells.size = size := by simpa [h2] using hlen
          have hcl := RSL_len r
          have hcl' : vcells.size = cells.length := by simpa using hcl
          have hfold : (v.cells.zipIdx.foldl (fun cs (c : Value × Nat) => cs.setIfInBounds (off + c.2) c.1) vcells).toList = vcells.toList.take off ++ (v.cells.toList ++ vcells.toList.drop (off + v.cells.toList.length)) := by
            have := foldl_set off v.cells.toList 0 vcells (by simp; omega)
            rw [← Array.foldl_toList, Array.toList_zipIdx]
            simpa using this
          have r' := RSL_spl r rc off (by omega)
          rw [← hfold] at r'
          obtain ⟨vout, h4, h5⟩ := fill_ok h place pl hp parts vparts _ _ out r' (by simpa using hl) (fun j p hj => by simpa using hv (j + 1) p (by simpa using hj)) hf
          refine ⟨vout, ?_, h5⟩
          simp only [Instr.fill, hp i _ hpi]
          rw [if_neg (by simp; omega)]
          exact h4
        · cases hf
def builtS (P : Program) (H : Hp) (t : TypeId) (parts : List (Nat × S)) : S × Prop :=
  match zeroC P t, placesT P t with
  | some z, some pl => match fillS pl z parts with
    | some cs => (.agg cs, ∀ p ∈ parts, aliveL H (cellsS p.2))
    | none => (.any, False)
  | _, _ => (.any, False)
theorem RSL_const {η : Nat → Value} {F : Nat → Prop} {w : World} : ∀ (vs : List Value), RSL η F w (vs.map constS) vs
  | [] => by simp only [List.map_nil, RSL]
  | v :: vs => by
    simp only [List.map_cons, RSL]
    exact ⟨v, vs, rfl, RS_const v, RSL_const vs⟩
theorem built_ok {E : Env} {s : St} {a : Act} {w : World} {η : Nat → Value} (h : Rel E s a w η) {t : TypeId} {parts : Array (Nat × Operand)} (hc : (builtS E.P s.h t (parts.toList.map fun p => (p.1, ev s p.2))).2) :
    ∃ v, RS η (Fr E s.h η) w (builtS E.P s.h t (parts.toList.map fun p => (p.1, ev s p.2))).1 v ∧ ∀ w', (Instr.build t (parts.map fun (i, x) => (i, a.eval x))).run E.P w' = .ok v w' := by
  unfold builtS at hc ⊢
  cases hz : zeroC E.P t with
  | none => rw [hz] at hc; exact hc.elim
  | some z =>
    cases hpl : placesT E.P t with
    | none => rw [hz, hpl] at hc; exact hc.elim
    | some pl =>
      rw [hz, hpl] at hc
      simp only at hc ⊢
      cases hf : fillS pl z (parts.toList.map fun p => (p.1, ev s p.2)) with
      | none => rw [hf] at hc; exact hc.elim
      | some cs =>
        rw [hf] at hc
        simp only at hc ⊢
        unfold zeroC at hz
        cases hi : E.P.info? t with
        | none => rw [hi] at hz; cases hz
        | some it =>
          rw [hi] at hz
          cases hzz : it.zero with
          | none => simp [hzz] at hz
          | some zv =>
            obtain rfl : zv.cells.toList.map constS = z := by simpa [hzz] using hz
            have hvp : ∀ (j : Nat) (p : Nat × S), (parts.toList.map fun p => (p.1, ev s p.2))[j]? = some p → ∃ v, (parts.map fun (i, x) => (i, a.eval x)).toList[j]? = some (p.1, v) ∧ RS η (Fr E s.h η) w p.2 v ∧ aliveL s.h (cellsS p.2) := by
              intro j p hj
              have hm := hc p (List.mem_of_getElem? hj)
              rw [List.getElem?_map] at hj
              cases hq : parts.toList[j]? with
              | none => rw [hq] at hj; cases hj
              | some q =>
                rw [hq] at hj
                obtain rfl : (q.1, ev s q.2) = p := by simpa using hj
                refine ⟨a.eval q.2, ?_, RS_ev h q.2, hm⟩
                simp only [Array.toList_map, List.getElem?_map, hq, Option.map_some]
            have key := fun place (hp : ∀ i p, pl[i]? = some p → place i = some p) => fill_ok (w := w) (F := Fr E s.h η) h place pl hp _ (parts.map fun (i, x) => (i, a.eval x)).toList _ zv.cells cs (RSL_const _) (by simp) hvp hf
            have hrun : ∀ cells, E.P.built t (parts.map fun (i, x) => (i, a.eval x)).toList = some cells → RSL η (Fr E s.h η) w cs cells.toList → ∃ v, RS η (Fr E s.h η) w (.agg cs) v ∧ ∀ w', (Instr.build t (parts.map fun (i, x) => (i, a.eval x))).run E.P w' = .ok v w' := fun cells hb r => by
              refine ⟨.agg cells, ?_, fun w' => run_build w' t _ cells hb⟩
              simp only [RS]
              exact ⟨cells, rfl, r⟩
            unfold placesT at hpl
            cases hu : E.P.underlying t with
            | none => rw [hu] at hpl; cases hpl
            | some d =>
              rw [hu] at hpl
              cases d <;> simp only at hpl <;> try (cases hpl; done)
              case array n e =>
                cases hie : E.P.info? e with
                | none => rw [hie] at hpl; cases hpl
                | some ie =>
                  rw [hie] at hpl
                  obtain rfl : (List.range n).map (fun j => (j * ie.size, ie.size)) = pl := by simpa using hpl
                  obtain ⟨vout, h1, h2⟩ := key (fun i => some (i * ie.size, ie.size)) (fun i p hip => by
                    rw [List.getElem?_map] at hip
                    cases hr : (List.range n)[i]? with
                    | none => rw [hr] at hip; cases hip
                    | some k =>
                      rw [hr] at hip
                      obtain rfl : i = k := by
                        have := List.getElem?_eq_some_iff.1 hr
                        simpa using this.2
                      simpa using hip)
                  refine hrun vout ?_ h2
                  simp only [Program.built, hi, hu, hzz, hie]
                  exact h1
              case struct fs =>
                obtain ⟨vout, h1, h2⟩ := key (pl.toArray[·]?) (fun i p hip => by simpa using hip)
                refine hrun vout ?_ h2
                simp only [Program.built, hi, hu, hzz, hpl]
                exact h1
theorem bnd_run {E : Env} {s : St} {a : Act} {w w' : World} {η : Nat → Value} (h : Rel E s a w η) {x : Operand} (dflt : Int) (hc : bndC (some (ev s x))) {y : Nat} {code : BoundsCode} (h0 : 0 ≤ bndI (some (ev s x)) dflt) (h1 : bndI (some (ev s x)) dflt ≤ y) :
    (Instr.sliceBound (a.eval x) y code).run E.P w' = .ok (bndI (some (ev s x)) dflt).toNat w' := by
  simp only [bndC, bndI] at hc h0 h1 ⊢
  obtain ⟨c1, c2⟩ := hc
  cases hx : stp (ev s x) <;> simp only [hx] at c2 h0 h1 ⊢
  case d dd =>
    cases dd <;> simp only at c2 h0 h1 ⊢
    case i k i =>
      have rx : a.eval x = .int k i := by simpa only [RS, Rd] using opd h hx c1
      rw [rx]
      simp only [Instr.sliceBound, asIntOf, Sem.run_bind, Sem.run_pure, Result.andThen_ok, if_pos (And.intro h0 h1)]
theorem bounds_run {E : Env} {s : St} {a : Act} {w w' : World} {η : Nat → Value} (h : Rel E s a w η) {lo hi : Option Operand} (isS : Bool) (len cap : Nat) (hlc : len ≤ cap) (cl : bndC (lo.map (ev s))) (ch : bndC (hi.map (ev s)))
    (h0 : 0 ≤ bndI (lo.map (ev s)) 0) (h1 : bndI (lo.map (ev s)) 0 ≤ bndI (hi.map (ev s)) len) (h2 : bndI (hi.map (ev s)) len ≤ len) :
    (Instr.sliceBounds isS len cap (lo.map a.eval) (hi.map a.eval) none).run E.P w' = .ok ((bndI (lo.map (ev s)) 0).toNat, (bndI (hi.map (ev s)) len).toNat, cap) w' := by
  cases hi with
  | none =>
    cases lo with
    | none => simp [Instr.sliceBounds, bndI]
    | some l =>
      simp only [Option.map_some, Option.map_none] at *
      have hb : bndI none (len : Int) = len := rfl
      rw [hb] at h1 h2 ⊢
      have := fun code => bnd_run (w' := w') h (x := l) 0 cl (y := len) (code := code) h0 h1
      simp [Instr.sliceBounds, this]
  | some hh =>
    have hhi := fun code => bnd_run (w' := w') h (x := hh) len ch (y := cap) (code := code) (by simp only [Option.map_some] at h1; omega) (by simp only [Option.map_some] at h2; omega)
    cases lo with
    | none =>
      simp only [Option.map_some, Option.map_none] at *
      simp [Instr.sliceBounds, hhi, bndI]
    | some l =>
      simp only [Option.map_some] at *
      have := fun code => bnd_run (w' := w') h (x := l) 0 cl (y := (bndI (some (ev s hh)) len).toNat) (code := code) h0 (by omega)
      simp [Instr.sliceBounds, hhi, this]
theorem slice_ok {E : Env} {s : St} {a : Act} {w : World} {η : Nat → Value} (h : Rel E s a w η) {t : TypeId} {x : Operand} {lo hi : Option Operand} (hc : (sliceS E.P t (ev s x) (lo.map (ev s)) (hi.map (ev s))).2) :
    ∃ v, RS η (Fr E s.h η) w (sliceS E.P t (ev s x) (lo.map (ev s)) (hi.map (ev s))).1 v ∧ ∀ w', (Instr.sliceAt t (a.eval x) (lo.map a.eval) (hi.map a.eval) none).run E.P w' = .ok v w' := by
  unfold sliceS at hc ⊢
  cases hx : stp (ev s x) <;> simp only [hx] at hc ⊢ <;> try exact hc.elim
  case d dd =>
    cases dd <;> simp only at hc ⊢ <;> try exact hc.elim
    case s b =>
      obtain ⟨c1, hs, cl, ch, h0, h1, h2⟩ := hc
      have rx : a.eval x = .string b := by simpa only [RS, Rd] using opd h hx c1
      have hu : E.P.underlying t = some .string := by
        unfold strT at hs
        cases hu : E.P.underlying t with
        | none => rw [hu] at hs; cases hs
        | some d => rw [hu] at hs; cases d <;> first | rfl | cases hs
      refine ⟨_, by simp only [RS, Rd]; rfl, fun w' => ?_⟩
      rw [rx]
      have := bounds_run (w' := w') h (lo := lo) (hi := hi) false b.size b.size (Nat.le_refl _) cl ch h0 h1 h2
      simp [Instr.sliceAt, Instr.slice, run_und hu, this]
    case row e0 es =>
      cases hsl : slT E.P t with
      | none => rw [hsl] at hc; exact hc.elim
      | some e =>
        simp only [hsl] at hc ⊢
        obtain ⟨c1, hok, hsz, cl, ch, h0, h1, h2⟩ := hc
        have hu : E.P.underlying t = some (.slice e) := by
          unfold slT at hsl
          cases hu : E.P.underlying t with
          | none => rw [hu] at hsl; cases hsl
          | some d =>
            rw [hu] at hsl
            cases d <;> simp only [] at hsl <;> try (cases hsl; done)
            obtain rfl : _ = e := by simpa using hsl
            rfl
        have rx := opd h hx c1
        simp only [RS, Rd] at rx
        obtain ⟨av, c, rx, hlc, r⟩ := rx
        have hb := fun w' => bounds_run (w' := w') h (lo := lo) (hi := hi) true es.length c hlc cl ch h0 h1 h2
        generalize bndI (lo.map (ev s)) 0 = l at *
        generalize bndI (hi.map (ev s)) (es.length : Int) = hh at *
        refine ⟨.slice (if c = l.toNat then av else av.map (·.add (l.toNat * szT E.P e))) (hh.toNat - l.toNat) (c - l.toNat), ?_, ?_⟩
        · simp only [RS, Rd]
          have hlen : ((es.take hh.toNat).drop l.toNat).length = hh.toNat - l.toNat := by simp; omega
          refine ⟨_, _, by rw [hlen], by omega, ?_⟩
          by_cases hlt : l.toNat < hh.toNat
          · rcases r with r | ⟨ad, cs, t', fr, rfl, hs, hF, hh', r⟩
            · have := r.1; subst this; simp at h2; omega
            · refine .inr ⟨ad.add (l.toNat * szT E.P e), cs, t', fr, by rw [if_neg (by omega)]; rfl, by rw [add_at' hs], by rw [add_at' hs]; exact hF, by rw [add_at' hs]; exact hh', ?_⟩
              rw [add_at' hs, hsz]
              exact (r.take hh.toNat).drop l.toNat
          · refine .inl ⟨List.eq_nil_of_length_eq_zero (by omega), fun hn => ?_⟩
            rcases r with ⟨rfl, r⟩ | ⟨ad, cs, t', fr, rfl, _⟩
            · split at hn
              · omega
              · have := r (by simpa using hn); omega
            · split at hn <;> cases hn
        · intro w'
          rw [rx]
          have hs := run_size (P := E.P) (w := w') hok
          simp [Instr.sliceAt, Instr.slice, run_und hu, hb, hs]
def mmS (mx : Bool) : S → List S → S × Prop
  | x, [] => (x, True)
  | x, y :: r => ((mmS mx (mm2 mx x y).1 r).1, (mm2 mx x y).2 ∧ (mmS mx (mm2 mx x y).1 r).2)
theorem mmS_ok {E : Env} {s : St} {a : Act} {w : World} {η : Nat → Value} (h : Rel E s a w η) (mx : Bool) : ∀ (ys : List Operand) (x : S) (u : Value), RS η (Fr E s.h η) w x u → (mmS mx x (ys.map (ev s))).2 →
    ∃ v, RS η (Fr E s.h η) w (mmS mx x (ys.map (ev s))).1 v ∧ ∀ w', ((ys.map a.eval).foldlM (if mx then Builtin.max2 else Builtin.min2) u).run E.P w' = .ok v w'
  | [], x, u, hx, _ => ⟨u, hx, fun _ => rfl⟩
  | y :: ys, x, u, hx, hc => by
    simp only [List.map_cons, mmS] at hc ⊢
    obtain ⟨r, h1, h2⟩ := mm_ok h mx hx (RS_ev h y) hc.1
    obtain ⟨v, h3, h4⟩ := mmS_ok h mx ys _ r h1 hc.2
    refine ⟨v, h3, fun w' => ?_⟩
    have h2 := h2 w'
    have h4 := h4 w'
    cases mx <;> (rw [List.foldlM_cons, Sem.run_bind]; simp only [Bool.false_eq_true, if_false, if_true] at h2 h4 ⊢; rw [h2, Result.andThen_ok]; exact h4)
/-! ## an operation that only reads -/
def pe (P : Program) (s : St) : Op → Option (S × Prop)
  | .move x => some (stp (ev s x), stc (ev s x))
  | .assign x => some (stp (ev s x), stc (ev s x))
  | .pick c x y => some (pickS (ev s c) (ev s x) (ev s y))
  | .load t p => some (loadS P s t (ev s p))
  | .binOp op t x y _ => some (binS P op t (ev s x) (ev s y))
  | .unOp op _ x => some (unS op (ev s x))
  | .convert src dst x => some (convS P dst src (ev s x))
  | .makeFunc fn fi cap => match fn with
    | .func f => match fi.toList with
      | [] => some (.fn f (cap.toList.map (ev s)), True)
      | x :: r => match cap.toList with
        | [] => some (.mth f ((x :: r).map (ev s)), True)
        | _ => none
    | _ => none
  | .slice t x lo hi mx => match mx with
    | none => some (sliceS P t (ev s x) (lo.map (ev s)) (hi.map (ev s)))
    | some _ => none
  | .nilCheck x => match stp (ev s x) with
    | .ptr h o => some (.ptr h o, stc (ev s x))
    | .fptr cs => some (.fptr cs, stc (ev s x))
    | .fps cs => some (.fps cs, stc (ev s x))
    | _ => none
  | .fieldAddr t x f => some (fieldAddrS P t f (ev s x))
  | .field t x f => some (fieldS P t f (ev s x))
  | .indexAddr t x i => match x with
    | .global _ => none
    | _ => some (indexAddrS P s t (ev s x) (ev s i))
  | .index t x i => some (indexS P t (ev s x) (ev s i))
  | .extract x i => some (extractS i (ev s x))
  | .build t parts => some (builtS P s.h t (parts.toList.map fun p => (p.1, ev s p.2)))
  | .call c => match c.callee with
    | .builtin b => match b with
      | .len => match c.args.toList with
        | [x] => match c.argTypes.toList with
          | [t] => some (lenS P s t (ev s x))
          | _ => none
        | _ => none
      | .max => match c.args.toList with
        | x :: ys => some (mmS true (ev s x) (ys.map (ev s)))
        | _ => none
      | .min => match c.args.toList with
        | x :: ys => some (mmS false (ev s x) (ys.map (ev s)))
        | _ => none
      | _ => none
    | _ => none
  | _ => none
/-- the block that an operation loads from -/
def loadB (E : Env) (s : St) (η : Nat → Value) (op : Op) (b : Nat) : Prop := match op with
  | .load _ p => rdB E s η (stp (ev s p)) b
  | _ => False
/-- it loads the same there -/
def Same (E : Env) (s : St) (η : Nat → Value) (op : Op) (w w' : World) : Prop := ∀ (b : Nat) (o : Obj), loadB E s η op b → w.heap[b]? = some o → w'.heap[b]? = some o
theorem pe_ok {E : Env} {s : St} {a : Act} {w : World} {η : Nat → Value} (h : Rel E s a w η) {o : Oper} {r : S × Prop} (hr : pe E.P s o.op = some r) (hc : r.2) :
    ∃ v, RS η (Fr E s.h η) w r.1 v ∧ ∀ w', Same E s η o.op w w' → (execOp a.eval o).run E.P w' = .ok (.value v) w' := by
  have lift : ∀ (w' : World) (m : Sem Value) (v : Value), m.run E.P w' = .ok v w' → ((do pure (.value (← m))) : Sem Next).run E.P w' = .ok (.value v) w' := fun w' m v hm => by
    rw [Sem.run_bind, hm, Result.andThen_ok]; rfl
  unfold execOp
  cases ho : o.op <;> rw [ho] at hr <;> simp only [pe] at hr ⊢ <;> try (cases hr; done)
  case move x => cases hr; exact ⟨_, RS_ev' h x hc, fun _ _ => rfl⟩
  case assign x => cases hr; exact ⟨_, RS_ev' h x hc, fun _ _ => rfl⟩
  case pick c x y => cases hr; obtain ⟨v, h1, h2⟩ := pick_ok h hc; exact ⟨v, h1, fun w' _ => h2 w'⟩
  case load t p => cases hr; obtain ⟨v, h1, h2⟩ := load_ok h hc; exact ⟨v, h1, fun w' he => lift w' _ _ (h2 w' he)⟩
  case binOp op t x y ty => cases hr; obtain ⟨v, h1, h2⟩ := bin_ok h hc; exact ⟨v, h1, fun w' _ => lift w' _ _ (h2 w')⟩
  case unOp op t x => cases hr; obtain ⟨v, h1, h2⟩ := un_ok h hc; exact ⟨v, h1, fun w' _ => lift w' _ _ (h2 w')⟩
  case convert src dst x => cases hr; obtain ⟨v, h1, h2⟩ := conv_ok h hc; exact ⟨v, h1, fun w' _ => lift w' _ _ (h2 w')⟩
  case makeFunc fn fi cap =>
    cases fn <;> simp only at hr <;> try (cases hr; done)
    rename_i f
    cases hfi : fi.toList with
    | cons y0 r0 =>
      rw [hfi] at hr
      cases hca : cap.toList with
      | cons _ _ => rw [hca] at hr; cases hr
      | nil =>
        rw [hca] at hr
        cases hr
        have e : cap = #[] := by cases cap; simp at hca; simp [hca]
        subst e
        refine ⟨.func (.func f) (fi.map a.eval) #[], ?_, fun w' _ => by simp [Instr.makeFunc]⟩
        simp only [RS]
        refine ⟨_, rfl, RSL_of (by rw [← hfi]; simp) fun j x hj => ?_⟩
        rw [← hfi, List.getElem?_map] at hj
        cases hq : fi.toList[j]? with
        | none => rw [hq] at hj; cases hj
        | some q =>
          rw [hq] at hj
          obtain rfl : ev s q = x := by simpa using hj
          exact ⟨a.eval q, by simp only [Array.toList_map, List.getElem?_map, hq, Option.map_some], RS_ev h q⟩
    | nil =>
      rw [hfi] at hr
      cases hr
      have e : fi = #[] := by cases fi; simp at hfi; simp [hfi]
      subst e
      refine ⟨.func (.func f) #[] (cap.map a.eval), ?_, fun w' _ => by simp [Instr.makeFunc]⟩
      simp only [RS]
      refine ⟨_, rfl, RSL_of (by simp) fun j x hj => ?_⟩
      rw [List.getElem?_map] at hj
      cases hq : cap.toList[j]? with
      | none => rw [hq] at hj; cases hj
      | some q =>
        rw [hq] at hj
        obtain rfl : ev s q = x := by simpa using hj
        exact ⟨a.eval q, by simp only [Array.toList_map, List.getElem?_map, hq, Option.map_some], RS_ev h q⟩
  case slice t x lo hi mx =>
    cases mx <;> simp only at hr <;> cases hr
    obtain ⟨v, h1, h2⟩ := slice_ok h hc
    exact ⟨v, h1, fun w' _ => lift w' _ _ (h2 w')⟩
  case nilCheck x =>
    cases hx : stp (ev s x) <;> rw [hx] at hr <;> simp only at hr <;> try (cases hr; done)
    case ptr k o =>
      cases hr
      have q := opd h hx hc
      simp only [RS] at q
      obtain ⟨g, h1, h2⟩ := q
      exact ⟨_, by simp only [RS]; exact ⟨g, h1, rfl⟩, fun w' _ => by rw [h2]; rfl⟩
    case fptr cs =>
      cases hr
      have q := opd h hx hc
      simp only [RS] at q
      obtain ⟨ad, arr, t, fr, h1, h2⟩ := q
      exact ⟨_, by simp only [RS]; exact ⟨ad, arr, t, fr, rfl, h2⟩, fun w' _ => by rw [h1]; rfl⟩
    case fps cs =>
      cases hr
      have q := opd h hx hc
      simp only [RS] at q
      obtain ⟨ad, arr, t, fr, h1, h2⟩ := q
      exact ⟨_, by simp only [RS]; exact ⟨ad, arr, t, fr, rfl, h2⟩, fun w' _ => by rw [h1]; rfl⟩
  case fieldAddr t x f => cases hr; obtain ⟨v, h1, h2⟩ := fieldAddr_ok h hc; exact ⟨v, h1, fun w' _ => lift w' _ _ (h2 w')⟩
  case field t x f => cases hr; obtain ⟨v, h1, h2⟩ := field_ok h hc; exact ⟨v, h1, fun w' _ => lift w' _ _ (h2 w')⟩
  case indexAddr t x i =>
    cases x <;> simp only at hr <;> try (cases hr; done)
    all_goals (cases hr; obtain ⟨v, h1, h2⟩ := indexAddr_ok h hc; exact ⟨v, h1, fun w' _ => lift w' _ _ (h2 w')⟩)
  case index t x i => cases hr; obtain ⟨v, h1, h2⟩ := index_ok h hc; exact ⟨v, h1, fun w' _ => lift w' _ _ (h2 w')⟩
  case extract x i => cases hr; obtain ⟨v, h1, h2⟩ := extract_ok h hc; exact ⟨v, h1, fun w' _ => lift w' _ _ (h2 w')⟩
  case build t parts => cases hr; obtain ⟨v, h1, h2⟩ := built_ok h hc; exact ⟨v, h1, fun w' _ => lift w' _ _ (h2 w')⟩
  case call c =>
    obtain ⟨callee, args, argTypes⟩ := c
    cases callee <;> simp only at hr <;> try (cases hr; done)
    rename_i b
    obtain ⟨args⟩ := args
    obtain ⟨argTypes⟩ := argTypes
    cases b <;> simp only at hr <;> try (cases hr; done)
    case len =>
      match args, argTypes, hr with
      | [x], [t], hr =>
        cases hr
        obtain ⟨v, h1, h2⟩ := len_ok (ty := o.type) h hc
        refine ⟨v, h1, fun w' _ => ?_⟩
        simp only [resolve, Sem.run_bind, Sem.run_pure, Result.andThen_ok, invoke, builtin, List.map_toArray, List.map_cons, List.map_nil, h2 w']
    case max =>
      match args, hr with
      | x :: ys, hr =>
        cases hr
        obtain ⟨v, h1, h2⟩ := mmS_ok h true ys _ _ (RS_ev h x) hc
        refine ⟨v, h1, fun w' _ => ?_⟩
        have h2 := h2 w'
        simp only [if_true] at h2
        simp only [resolve, Sem.run_bind, Sem.run_pure, Result.andThen_ok, invoke, builtin, List.map_toArray, List.map_cons, Builtin.max_, h2]
    case min =>
      match args, hr with
      | x :: ys, hr =>
        cases hr
        obtain ⟨v, h1, h2⟩ := mmS_ok h false ys _ _ (RS_ev h x) hc
        refine ⟨v, h1, fun w' _ => ?_⟩
        have h2 := h2 w'
        simp only [Bool.false_eq_true, if_false] at h2
        simp only [resolve, Sem.run_bind, Sem.run_pure, Result.andThen_ok, invoke, builtin, List.map_toArray, List.map_cons, Builtin.min_, h2]
/-! ## operations that make or write memory -/
def k1 (d : Nat) : Nat → Bool := fun j => j == d
def k2 (d e : Nat) : Nat → Bool := fun j => j == d || j == e
def killS (p : Nat → Bool) (s : St) : St := ⟨killT p s.t, killH p p s.h⟩
def St.add (s : St) (d : Nat) (o : Obj') : St := ⟨s.t, (d, o) :: s.h⟩
def dropH (h : Nat) : Hp → Hp
  | [] => []
  | (i, x) :: r => if i = h then dropH h r else (i, x) :: dropH h r
def St.upd (s : St) (h : Nat) (o : Obj') : St := ⟨s.t, (h, o) :: dropH h s.h⟩
mutual
theorem has_none : ∀ x : S, S.has (fun _ => false) x = false
  | .any => rfl
  | .d _ => rfl
  | .agg cs => by simp only [S.has]; exact hasL_none cs
  | .own _ => rfl
  | .ptr _ _ => rfl
  | .eptr _ _ _ _ => rfl
  | .fptr _ => rfl
  | .fps cs => by simp only [S.has]; exact hasL_none cs
  | .fn _ cs => by simp only [S.has]; exact hasL_none cs
  | .mth _ cs => by simp only [S.has]; exact hasL_none cs
  | .tup cs => by simp only [S.has]; exact hasL_none cs
  | .gd _ x => by simp only [S.has]; exact has_none x
theorem hasL_none : ∀ cs : List S, S.hasL (fun _ => false) cs = false
  | [] => rfl
  | c :: cs => by simp only [S.hasL, has_none c, hasL_none cs, Bool.or_false]
end
theorem killT_none : ∀ t : Tm, killT (fun _ => false) t = t
  | [] => rfl
  | (i, x) :: r => by simp only [killT, has_none, Bool.false_eq_true, if_false, killT_none r]
theorem killC_none : ∀ t : List S, killC (fun _ => false) t = t
  | [] => rfl
  | x :: r => by simp only [killC, has_none, Bool.false_eq_true, if_false, killC_none r]
theorem killO_none : ∀ o : Obj', killO (fun _ => false) o = o
  | .box t cs => by simp only [killO, killC_none]
  | .row t e0 es => rfl
  | .rows t ss => by simp only [killO, killC_none]
  | .mp R => rfl
theorem killH_drop (h : Nat) : ∀ H : Hp, killH (fun _ => false) (k1 h) H = dropH h H
  | [] => rfl
  | (i, x) :: r => by simp only [killH, dropH, k1, beq_iff_eq, killO_none, killH_drop h r]
/-- a new object at handle d: d's elder one is forgotten -/
theorem Rel.made {E : Env} {s : St} {a : Act} {w w' : World} {η : Nat → Value} (h : Rel E s a w η) (d : Nat) (hdp : E.pin d = none) (v : Value) (o : Obj') (hb : Below w.heap.size w w') (hv : ∀ g, blk v = some g → w.heap.size ≤ g ∧ g < w'.heap.size)
    (hob : ∀ F, Sub (Fr E s.h η) w F w' → ROb E (fun j => if j = d then v else η j) F w' d o) :
    Rel E ((killS (k1 d) s).add d o) a w' (fun j => if j = d then v else η j) ∧ Sub (Fr E s.h η) w (Fr E ((killS (k1 d) s).add d o).h (fun j => if j = d then v else η j)) w' := by
  have hbase := h.bel.size
  have hη : ∀ j, k1 d j = false → (fun j => if j = d then v else η j) j = η j := fun j hj => by
    simp only [k1, beq_eq_false_iff_ne] at hj
    simp [hj]
  have hsame : ∀ (b : Nat) (o : Obj), w.heap[b]? = some o → (∀ k o', lh s.h k = some o' → k1 d k = true → blk (η k) ≠ some b) → w'.heap[b]? = some o := fun b o hb' _ => by
    rw [hb.block b (Array.getElem?_eq_some_iff.1 hb').1]; exact hb'
  have hnew : ∀ d' o', lh [(d, o)] d' = some o' → k1 d d' = true ∧ ∀ g, blk ((fun j => if j = d then v else η j) d') = some g → (E.w0.heap.size ≤ g ∨ E.W g) ∧ g < w'.heap.size ∧ (w.heap.size ≤ g ∨ ∃ k o', lh s.h k = some o' ∧ k1 d k = true ∧ blk (η k) = some g) := fun d' o' hd => by
    simp only [lh] at hd
    split at hd
    · rename_i e; subst e
      refine ⟨by simp [k1], fun g hg => ?_⟩
      simp only [if_true] at hg
      have := hv g hg
      exact ⟨.inl (by omega), this.2, .inl this.1⟩
    · cases hd
  refine ⟨?_, h.sub (w' := w') (η' := fun j => if j = d then v else η j) (k1 d) (k1 d) [(d, o)] (fun _ e => e) hη hsame hnew⟩
  exact h.next (w' := w') (η' := fun j => if j = d then v else η j) (k1 d) (k1 d) [(d, o)] (fun _ e => e) hη (fun k v hk => by
    have : k ≠ d := fun e => by subst e; rw [hdp] at hk; cases hk
    simp [this]) (below_w h.bel hb) hb.size hsame hnew
    (fun d1 d2 o1 o2 hne h1 h2 => by
      simp only [lh] at h1 h2
      split at h1 <;> split at h2 <;> simp_all)
    (fun d' o' hd => by
      have hs := h.sub (w' := w') (η' := fun j => if j = d then v else η j) (k1 d) (k1 d) [(d, o)] (fun _ e => e) hη hsame hnew
      simp only [lh] at hd
      split at hd
      · rename_i e; subst e
        obtain rfl : o = o' := by simpa using hd
        exact hob _ hs
      · cases hd)
where
  below_w {W : Nat → Prop} {a b c : World} (h : Bel W a b) (k : Below b.heap.size b c) : Bel W a c := h.trans k
theorem below_w {W : Nat → Prop} {a b c : World} (h : Bel W a b) (k : Below b.heap.size b c) : Bel W a c := h.trans k
theorem made_alloc (w : World) (o : Obj) : Below w.heap.size w (w.alloc o) := (Below.refl _ w).alloc (Nat.le_refl _) o
/-- an object is written -/
theorem Rel.wrote {E : Env} {s : St} {a : Act} {w w' : World} {η : Nat → Value} (h : Rel E s a w η) (k : Nat) (o o' : Obj') (hk : lh s.h k = some o) (hsz : w'.heap.size = w.heap.size) (ht : w'.tape = w.tape) (hos : w'.os = w.os) (hout : w'.output = w.output)
    (hsame : ∀ b, blk (η k) ≠ some b → w'.heap[b]? = w.heap[b]?)
    (hob : ∀ F, Sub (Fr E s.h η) w F w' → ROb E η F w' k o') : Rel E (s.upd k o') a w' η ∧ Sub (Fr E s.h η) w (Fr E (s.upd k o').h η) w' := by
  have hη : ∀ j, (fun _ : Nat => false) j = false → η j = η j := fun _ _ => rfl
  have hsame' : ∀ (b : Nat) (o : Obj), w.heap[b]? = some o → (∀ j o', lh s.h j = some o' → k1 k j = true → blk (η j) ≠ some b) → w'.heap[b]? = some o := fun b o hb hn => by
    rw [hsame b (hn k _ hk (by simp [k1]))]; exact hb
  have hnew : ∀ d' oo, lh [(k, o')] d' = some oo → k1 k d' = true ∧ ∀ g, blk (η d') = some g → (E.w0.heap.size ≤ g ∨ E.W g) ∧ g < w'.heap.size ∧ (w.heap.size ≤ g ∨ ∃ j o', lh s.h j = some o' ∧ k1 k j = true ∧ blk (η j) = some g) := fun d' oo hd => by
    simp only [lh] at hd
    split at hd
    · rename_i e; subst e
      refine ⟨by simp [k1], fun g hg => ?_⟩
      have := h.ge k o g hk hg
      exact ⟨this.1, by omega, .inr ⟨k, o, hk, by simp [k1], hg⟩⟩
    · cases hd
  have hbel : Bel E.W E.w0 w' := h.bel.wr hos ht hout (by omega) fun b hb hw => hsame b fun e => by
    rcases (h.ge k o b hk e).1 with h1 | h1
    · omega
    · exact hw h1
  have := h.next (w' := w') (η' := η) (fun _ => false) (k1 k) [(k, o')] (fun _ e => by cases e) hη (fun _ _ _ => rfl) hbel (by omega) hsame' hnew
    (fun d1 d2 o1 o2 hne h1 h2 => by
      simp only [lh] at h1 h2
      split at h1 <;> split at h2 <;> simp_all)
    (fun d' oo hd => by
      have hs := h.sub (w' := w') (η' := η) (fun _ => false) (k1 k) [(k, o')] (fun _ e => by cases e) hη hsame' hnew
      simp only [lh] at hd
      split at hd
      · rename_i e; subst e
        obtain rfl : o' = oo := by simpa using hd
        exact hob _ hs
      · cases hd)
  have hs := h.sub (w' := w') (η' := η) (fun _ => false) (k1 k) [(k, o')] (fun _ e => by cases e) hη hsame' hnew
  rw [killT_none, killH_drop] at this
  rw [killH_drop] at hs
  exact ⟨this, hs⟩
/-! ### box, alloc -/
def boxS (s : St) (d : Nat) (t : TypeId) (x : S) : S × St × Prop := (.ptr d 0, s.add d (.box t (cellsS x)), okS s.h x)
theorem RS_eta {η η' : Nat → Value} {F F' : Nat → Prop} {w w' : World} {d : Nat} (hη : ∀ j, k1 d j = false → η' j = η j) (hs : Sub F w F' w') {cs : List S} {vs : List Value} (hh : S.hasL (k1 d) cs = false) (r : RSL η F w cs vs) : RSL η' F' w' cs vs :=
  RSL.turn hη _ _ hh (RSL.mono hs _ _ r)
theorem eta_k1 {η : Nat → Value} {d : Nat} {v : Value} : ∀ j, k1 d j = false → (fun j => if j = d then v else η j) j = η j := fun j hj => by
  simp only [k1, beq_eq_false_iff_ne] at hj
  simp [hj]
theorem hasL_cellsS (p : Nat → Bool) (x : S) (h : x.has p = false) : S.hasL p (cellsS x) = false := by
  cases x <;> simp only [cellsS, S.hasL, S.has, Bool.or_false] at h ⊢ <;> exact h
theorem killS_has (p : Nat → Bool) (s : St) (x : Operand) : (ev (killS p s) x).has p = false := by
  cases x with
  | tmp t =>
    simp only [ev, killS, lk_killT]
    split
    · rfl
    · rename_i h; simpa using h
  | const v => simp only [ev]; unfold constS; split <;> rfl
  | global g => rfl
  | func f => rfl
/-- what is forgotten of d does not matter to the rest -/
theorem Rel.kill {E : Env} {s : St} {a : Act} {w : World} {η : Nat → Value} (h : Rel E s a w η) (p : Nat → Bool) : Rel E (killS p s) a w η :=
  h.next (w' := w) (η' := η) p p [] (fun _ e => e) (fun _ _ => rfl) (fun _ _ _ => rfl) h.bel (Nat.le_refl _) (fun b o hb _ => hb) (fun d o hd => by simp [lh] at hd) (fun d d' o o' _ hd => by simp [lh] at hd) (fun d o hd => by simp [lh] at hd)
theorem Rel.kill_sub {E : Env} {s : St} {a : Act} {w : World} {η : Nat → Value} (h : Rel E s a w η) (p : Nat → Bool) : Sub (Fr E s.h η) w (Fr E (killS p s).h η) w :=
  h.sub (w' := w) (η' := η) p p [] (fun _ e => e) (fun _ _ => rfl) (fun b o hb _ => hb) (fun d o hd => by simp [lh] at hd)
theorem kill_kill (d : Nat) (s : St) : killS (k1 d) (killS (k1 d) s) = killS (k1 d) s := by
  have e1 : killT (k1 d) (killT (k1 d) s.t) = killT (k1 d) s.t := by
    generalize s.t = t
    induction t with
    | nil => rfl
    | cons e r ih =>
      obtain ⟨i, x⟩ := e
      simp only [killT, ih]
      by_cases hx : x.has (k1 d) = true
      · simp [hx, S.has]
      · simp [hx]
  have e3 : ∀ cs, killC (k1 d) (killC (k1 d) cs) = killC (k1 d) cs := fun cs => by
    induction cs with
    | nil => rfl
    | cons x r ih =>
      simp only [killC, ih]
      by_cases hx : x.has (k1 d) = true
      · simp [hx, S.has]
      · simp [hx]
  have e2 : killH (k1 d) (k1 d) (killH (k1 d) (k1 d) s.h) = killH (k1 d) (k1 d) s.h := by
    generalize s.h = H
    induction H with
    | nil => rfl
    | cons e r ih =>
      obtain ⟨i, x⟩ := e
      simp only [killH]
      by_cases hi : k1 d i = true
      · rw [if_pos hi]; exact ih
      · rw [if_neg hi]
        simp only [killH]
        rw [if_neg hi, ih]
        congr 2
        cases x <;> simp only [killO, e3]
  simp only [killS, e1, e2]
theorem box_ok {E : Env} {s : St} {a : Act} {w : World} {η : Nat → Value} (h : Rel E s a w η) (d : Nat) (hdp : E.pin d = none) (t : TypeId) (x : Operand) (hc : (boxS (killS (k1 d) s) d t (ev (killS (k1 d) s) x)).2.2) :
    ∃ v w' η', (Instr.box t (a.eval x)).run E.P w = .ok v w' ∧ Below w.heap.size w w' ∧ Rel E (boxS (killS (k1 d) s) d t (ev (killS (k1 d) s) x)).2.1 a w' η' ∧ RS η' (Fr E (boxS (killS (k1 d) s) d t (ev (killS (k1 d) s) x)).2.1.h η') w' (.ptr d 0) v ∧ ((∀ j, j ≠ d → η' j = η j) ∧ ∀ b, blk (η' d) = some b → w.heap.size ≤ b) ∧ Sub (Fr E s.h η) w (Fr E (boxS (killS (k1 d) s) d t (ev (killS (k1 d) s) x)).2.1.h η') w' := by
  have hk := h.kill (k1 d)
  simp only [boxS] at hc ⊢
  have hx := killS_has (k1 d) s x
  obtain ⟨r, _⟩ := cells_ok hk (RS_ev hk x) hc
  generalize ev (killS (k1 d) s) x = y at *
  have hmade := hk.made (w' := w.alloc (.cells (a.eval x).cells t)) d hdp (.pointer (some ⟨w.heap.size, 0, none⟩)) (.box t (cellsS y)) (made_alloc w _) (fun g hg => ?_) (fun F hs => ?_)
  rw [kill_kill] at hmade
  refine ⟨.pointer (some ⟨w.heap.size, 0, none⟩), w.alloc (.cells (a.eval x).cells t), fun j => if j = d then .pointer (some ⟨w.heap.size, 0, none⟩) else η j, by rfl, made_alloc w _, hmade.1, ?_, ⟨fun j hj => by simp [hj], fun b hb => by simp [blk] at hb; omega⟩, (h.kill_sub _).trans hmade.2⟩
  rotate_left
  · obtain rfl : w.heap.size = g := by simpa [blk] using hg
    exact ⟨Nat.le_refl _, by simp⟩
  · refine ⟨w.heap.size, (a.eval x).cells, by simp, heap_alloc_new w _, ?_⟩
    exact RS_eta eta_k1 hs (hasL_cellsS _ _ hx) r
  · simp only [RS]
    exact ⟨w.heap.size, by simp, rfl⟩
def allocS (P : Program) (s : St) (d : Nat) (t : TypeId) : S × St × Prop :=
  match zeroC P t with
  | some z => (.ptr d 0, s.add d (.box t z), True)
  | none => (.any, s, False)
theorem alloc_ok {E : Env} {s : St} {a : Act} {w : World} {η : Nat → Value} (h : Rel E s a w η) (d : Nat) (hdp : E.pin d = none) (t : TypeId) (hc : (allocS E.P (killS (k1 d) s) d t).2.2) :
    ∃ v w' η', (Instr.alloc t true (.tuple #[])).run E.P w = .ok v w' ∧ Below w.heap.size w w' ∧ Rel E (allocS E.P (killS (k1 d) s) d t).2.1 a w' η' ∧ RS η' (Fr E (allocS E.P (killS (k1 d) s) d t).2.1.h η') w' (allocS E.P (killS (k1 d) s) d t).1 v ∧ ((∀ j, j ≠ d → η' j = η j) ∧ ∀ b, blk (η' d) = some b → w.heap.size ≤ b) ∧ Sub (Fr E s.h η) w (Fr E (allocS E.P (killS (k1 d) s) d t).2.1.h η') w' := by
  have hk := h.kill (k1 d)
  unfold allocS at hc ⊢
  cases hz : zeroC E.P t with
  | none => rw [hz] at hc; exact hc.elim
  | some z =>
    simp only
    unfold zeroC at hz
    cases hi : E.P.info? t with
    | none => rw [hi] at hz; cases hz
    | some it =>
      rw [hi] at hz
      cases hzz : it.zero with
      | none => simp [hzz] at hz
      | some zv =>
        obtain rfl : zv.cells.toList.map constS = z := by simpa [hzz] using hz
        have hmade := hk.made (w' := w.alloc (.cells zv.cells t)) d hdp (.pointer (some ⟨w.heap.size, 0, none⟩)) (.box t (zv.cells.toList.map constS)) (made_alloc w _) (fun g hg => by
          obtain rfl : w.heap.size = g := by simpa [blk] using hg
          exact ⟨Nat.le_refl _, by simp⟩) (fun F hs => ⟨w.heap.size, zv.cells, by simp, heap_alloc_new w _, RSL_const _⟩)
        rw [kill_kill] at hmade
        refine ⟨.pointer (some ⟨w.heap.size, 0, none⟩), w.alloc (.cells zv.cells t), fun j => if j = d then .pointer (some ⟨w.heap.size, 0, none⟩) else η j, ?_, made_alloc w _, hmade.1, ?_, ⟨fun j hj => by simp [hj], fun b hb => by simp [blk] at hb; omega⟩, (h.kill_sub _).trans hmade.2⟩
        · simp [Instr.alloc, zeroValue, typeInfo, hi, hzz, newVar, newRow, go_sem]
        · simp only [RS]
          exact ⟨w.heap.size, by simp, rfl⟩
/-! ### rows of the function's own: made, appended to, written, frozen -/
def zD : Value → Option D
  | .int k n => some (.i k n)
  | .bool b => some (.b b)
  | .string x => some (.s x)
  | .slice none 0 0 => some .nil
  | _ => none
def zeroD (P : Program) (t : TypeId) : Option (List D) := ((P.info? t).bind (·.zero)).bind fun v => v.cells.toList.mapM zD
def byT (P : Program) (t : TypeId) : Nat := ((P.info? t).map (·.bytes)).getD 0
theorem zD_ok {F : Nat → Prop} {w : World} {v : Value} {d : D} (h : zD v = some d) : Rd F w d v := by
  unfold zD at h
  split at h <;> first | (injection h with h; subst h; simp only [Rd]; done) | cases h
theorem zDs_ok : ∀ (vs : List Value) (ds : List D), vs.mapM zD = some ds → ds.length = vs.length ∧ ∀ (F : Nat → Prop) (w : World) (j : Nat) (d : D), ds[j]? = some d → ∃ v, vs[j]? = some v ∧ Rd F w d v
  | [], ds, h => by
    simp at h; subst h
    exact ⟨rfl, fun F w j d hj => by simp at hj⟩
  | v :: vs, ds, h => by
    simp only [List.mapM_cons, Option.bind_eq_bind, Option.pure_def] at h
    cases hv : zD v with
    | none => simp [hv] at h
    | some d0 =>
      cases hr : vs.mapM zD with
      | none => simp [hv, hr] at h
      | some ds' =>
        simp [hv, hr] at h
        subst h
        obtain ⟨h1, h2⟩ := zDs_ok vs ds' hr
        refine ⟨by simp [h1], fun F w j d hj => ?_⟩
        cases j with
        | zero => obtain rfl : d0 = d := by simpa using hj
                  exact ⟨v, rfl, zD_ok hv⟩
        | succ j => simpa using h2 F w j d (by simpa using hj)
/-- what is known of an element's type -/
structure ElT (P : Program) (t e : TypeId) (e0 : List D) (i : TypeInfo) (z : Value) : Prop where
  ht : P.underlying t = some (.slice e)
  hi : P.info? e = some i
  hz : i.zero = some z
  hs : i.size = e0.length
  hzs : z.cells.size = e0.length
  rd : ∀ (F : Nat → Prop) (w : World) (j : Nat) (d : D), e0[j]? = some d → ∃ v, z.cells.toList[j]? = some v ∧ Rd F w d v
theorem elT {P : Program} {t e : TypeId} {e0 : List D} (h1 : slT P t = some e) (h2 : zeroD P e = some e0) (h3 : szT P e = e0.length) : ∃ i z, ElT P t e e0 i z := by
  have hu : P.underlying t = some (.slice e) := by
    unfold slT at h1
    cases hu : P.underlying t with
    | none => rw [hu] at h1; cases h1
    | some d =>
      rw [hu] at h1
      cases d <;> simp only [] at h1 <;> try (cases h1; done)
      obtain rfl : _ = e := by simpa using h1
      rfl
  unfold zeroD at h2
  cases hi : P.info? e with
  | none => rw [hi] at h2; cases h2
  | some i =>
    rw [hi] at h2
    cases hz : i.zero with
    | none => simp [hz] at h2
    | some z =>
      have h2' : z.cells.toList.mapM zD = some e0 := by simpa [hz] using h2
      obtain ⟨h4, h5⟩ := zDs_ok _ _ h2'
      have hs : i.size = e0.length := by simpa [szT, hi] using h3
      exact ⟨i, z, hu, hi, hz, hs, by simpa using h4.symm, h5⟩
theorem RdE.cell {F : Nat → Prop} {w : World} {z : Nat} {cs : Array Value} {o : Nat} {es : List (List D)} (r : RdE F w z cs o es) (j : Nat) (hj : j < es.length * z) : ∃ v d, cs[o + j]? = some v ∧ Rd F w d v := by
  have hz : 0 < z := by
    rcases Nat.eq_zero_or_pos z with h | h
    · subst h; simp at hj
    · exact h
  have hq : j / z < es.length := (Nat.div_lt_iff_lt_mul hz).2 hj
  obtain ⟨h1, h2⟩ := r.get (j / z) es[j / z] (by simp [hq])
  have hm : j % z < es[j / z].length := by rw [h1]; exact Nat.mod_lt _ hz
  obtain ⟨v, h3, h4⟩ := h2.get (j % z) es[j / z][j % z] (by simp [hm])
  refine ⟨v, _, ?_, h4⟩
  rw [← h3]
  congr 1
  have := Nat.div_add_mod j z
  rw [Nat.mul_comm] at this
  omega
theorem RdC.congr {F : Nat → Prop} {w : World} {cs cs' : Array Value} {o o' : Nat} {ds : List D} (r : RdC F w cs o ds) (h : ∀ j, j < ds.length → cs'[o' + j]? = cs[o + j]?) : RdC F w cs' o' ds :=
  RdC.of fun j d hj => by
    obtain ⟨v, h1, h2⟩ := r.get j d hj
    exact ⟨v, by rw [h j (List.getElem?_eq_some_iff.1 hj).1]; exact h1, h2⟩
theorem RdE.congr {F : Nat → Prop} {w : World} {z : Nat} {cs cs' : Array Value} {o o' : Nat} {es : List (List D)} (r : RdE F w z cs o es) (h : ∀ j, j < es.length * z → cs'[o' + j]? = cs[o + j]?) : RdE F w z cs' o' es :=
  RdE.of fun j e hj => by
    obtain ⟨h1, h2⟩ := r.get j e hj
    refine ⟨h1, h2.congr fun k hk => ?_⟩
    have hlt : j < es.length := (List.getElem?_eq_some_iff.1 hj).1
    have : (j + 1) * z ≤ es.length * z := Nat.mul_le_mul_right _ hlt
    rw [Nat.succ_mul] at this
    rw [Nat.add_assoc, Nat.add_assoc]
    exact h _ (by omega)
theorem RdE_append {F : Nat → Prop} {w : World} {z : Nat} {xs ys : List Value} {es es' : List (List D)} (h1 : RdE F w z xs.toArray 0 es) (hl : xs.length = es.length * z) (h2 : RdE F w z ys.toArray 0 es') : RdE F w z (xs ++ ys).toArray 0 (es ++ es') :=
  RdE.of fun j e hj => by
    rw [List.getElem?_append] at hj
    split at hj
    · rename_i hlt
      obtain ⟨h3, h4⟩ := h1.get j e hj
      refine ⟨h3, h4.congr fun k hk => ?_⟩
      have : (j + 1) * z ≤ es.length * z := Nat.mul_le_mul_right _ hlt
      rw [Nat.succ_mul] at this
      simp only [List.getElem?_toArray]
      rw [List.getElem?_append_left (by omega)]
    · rename_i hge
      obtain ⟨h3, h4⟩ := h2.get (j - es.length) e hj
      refine ⟨h3, h4.congr fun k hk => ?_⟩
      have : es.length * z ≤ j * z := Nat.mul_le_mul_right _ (by omega)
      simp only [List.getElem?_toArray]
      rw [List.getElem?_append_right (by omega)]
      congr 1
      rw [Nat.sub_mul]
      omega
/-- a row of the function's own that was made -/
theorem Rel.row {E : Env} {s : St} {a : Act} {w w' : World} {η : Nat → Value} (h : Rel E s a w η) (d : Nat) (hdp : E.pin d = none) (e : TypeId) (e0 : List D) (es : List (List D)) (v : Value) (xs : List Value) (hb : Below w.heap.size w w') (hv : ∀ g, blk v = some g → w.heap.size ≤ g ∧ g < w'.heap.size)
    (ho : w'.ownsRow 0 e e0.length v es.length xs) (hr : ∀ F, Sub (Fr E s.h η) w F w' → RdE F w' e0.length xs.toArray 0 es) :
    Rel E ((killS (k1 d) s).add d (.row e e0 es)) a w' (fun j => if j = d then v else η j) ∧ Sub (Fr E s.h η) w (Fr E ((killS (k1 d) s).add d (.row e e0 es)).h (fun j => if j = d then v else η j)) w' := by
  refine h.made d hdp v _ hb hv fun F hs => ⟨xs, ?_, hr F hs⟩
  simpa using ho
def makeS (P : Program) (s : St) (d : Nat) (t : TypeId) (l c : S) : S × St × Prop :=
  match stp l with
  | .d (.i _ i) => match stp c with
    | .d (.i _ j) => match slT P t with
      | some e => match zeroD P e with
        | some e0 => (.own d, s.add d (.row e e0 (List.replicate i.toNat e0)), stc l ∧ stc c ∧ szT P e = e0.length ∧ 0 < e0.length ∧ i = j ∧ 0 ≤ i ∧ i ≤ maxLen ∧ byT P e * i.toNat ≤ 281474976710656)
        | none => (.any, s, False)
      | none => (.any, s, False)
    | _ => (.any, s, False)
  | _ => (.any, s, False)
theorem make_ok {E : Env} {s0 s : St} {a : Act} {w : World} {η : Nat → Value} (d : Nat) (hdp : E.pin d = none) (hs0 : s = killS (k1 d) s0) (h0 : Rel E s0 a w η) (t : TypeId) (x y : Operand) (hc : (makeS E.P s d t (ev s x) (ev s y)).2.2) :
    ∃ v w' η', (Instr.makeSlice t (a.eval x) (a.eval y)).run E.P w = .ok v w' ∧ Below w.heap.size w w' ∧ Rel E (makeS E.P s d t (ev s x) (ev s y)).2.1 a w' η' ∧ RS η' (Fr E (makeS E.P s d t (ev s x) (ev s y)).2.1.h η') w' (makeS E.P s d t (ev s x) (ev s y)).1 v ∧ ((∀ j, j ≠ d → η' j = η j) ∧ ∀ b, blk (η' d) = some b → w.heap.size ≤ b) ∧ Sub (Fr E s0.h η) w (Fr E (makeS E.P s d t (ev s x) (ev s y)).2.1.h η') w' := by
  have h : Rel E s a w η := hs0 ▸ h0.kill (k1 d)
  have hk0 : Sub (Fr E s0.h η) w (Fr E s.h η) w := hs0 ▸ h0.kill_sub (k1 d)
  have hkk : killS (k1 d) s = s := by rw [hs0, kill_kill]
  unfold makeS at hc ⊢
  cases hx : stp (ev s x) <;> simp only [hx] at hc ⊢ <;> try exact hc.elim
  case d dx =>
    cases dx <;> simp only at hc ⊢ <;> try exact hc.elim
    case i ki i =>
      cases hy : stp (ev s y) <;> simp only [hy] at hc ⊢ <;> try exact hc.elim
      case d dy =>
        cases dy <;> simp only at hc ⊢ <;> try exact hc.elim
        case i kj j =>
          cases hsl : slT E.P t with
          | none => rw [hsl] at hc; exact hc.elim
          | some e =>
            simp only [hsl] at hc ⊢
            cases hz : zeroD E.P e with
            | none => rw [hz] at hc; exact hc.elim
            | some e0 =>
              simp only [hz] at hc ⊢
              obtain ⟨c1, c2, hsz, hpos, rfl, hi0, him, hby⟩ := hc
              have rx : a.eval x = .int ki i := by simpa only [RS, Rd] using opd h hx c1
              have ry : a.eval y = .int kj i := by simpa only [RS, Rd] using opd h hy c2
              obtain ⟨it, z, T⟩ := elT hsl hz hsz
              obtain ⟨n, rfl⟩ : ∃ n : Nat, i = n := ⟨i.toNat, by omega⟩
              rw [rx, ry]
              have hby' : it.bytes * n ≤ 281474976710656 := by simpa [byT, T.hi] using hby
              obtain ⟨w', h1, h2, h3⟩ := run_make_full (P := E.P) w 0 t e it z e0.length T.ht T.hi T.hz T.hs ki kj n hby' (by omega) (Nat.zero_le _)
              have hB : Below w.heap.size w w' := ⟨h3.os, h3.tape, h3.output, h3.size, fun k hk => h3.block k hk (by simp)⟩
              have hlt := (h2.lt w.heap.size rfl).2
              have hR := h.row (w' := w') d hdp e e0 (List.replicate n e0) (.slice (some ⟨w.heap.size, 0, none⟩) n n) _ hB (fun g hg => by
                obtain rfl : w.heap.size = g := by simpa [blk] using hg
                exact ⟨Nat.le_refl _, hlt⟩) (by simpa using h2) (fun F _ => RdE.of fun j ee hj => by
                have hjn : j < n := by
                  have := (List.getElem?_eq_some_iff.1 hj).1
                  simpa using this
                obtain rfl : e0 = ee := by simpa [hjn] using hj
                refine ⟨rfl, RdC.of fun k d hk => ?_⟩
                obtain ⟨v, hv1, hv2⟩ := T.rd F w' k d hk
                refine ⟨v, ?_, hv2⟩
                have hkl := (List.getElem?_eq_some_iff.1 hk).1
                have hlt : j * e0.length + k < n * e0.length := by
                  have : (j + 1) * e0.length ≤ n * e0.length := Nat.mul_le_mul_right _ hjn
                  rw [Nat.succ_mul] at this; omega
                have hmod : (j * e0.length + k) % e0.length = k := by rw [Nat.add_comm, Nat.add_mul_mod_self_right, Nat.mod_eq_of_lt hkl]
                have hv1' : z.cells[k]? = some v := by simpa using hv1
                have hkz : k < z.cells.size := by rw [T.hzs]; exact hkl
                simp only [madeCells, List.getElem?_toArray, Array.toList_map, Array.toList_range, List.getElem?_map, List.getElem?_range hlt, Nat.zero_add, Option.map_some, T.hzs, hmod]
                rw [getElem!_pos z.cells k hkz, (Array.getElem?_eq_some_iff.1 hv1').2])
              rw [hkk] at hR
              have hR' : Rel E (s.add d (.row e e0 (List.replicate n e0))) a w' (fun j => if j = d then .slice (some ⟨w.heap.size, 0, none⟩) n n else η j) := hR.1
              refine ⟨_, w', _, h1, hB, by simpa using hR', ?_, ⟨fun j hj => by simp [hj], fun b hb => by simp [blk] at hb; omega⟩, by simpa using hk0.trans hR.2⟩
              simp only [RS, if_true]
def dcells : S → Option (List D)
  | .agg cs => cs.mapM fun | .d x => some x | _ => none
  | .d x => some [x]
  | _ => none
theorem dcells_ok {E : Env} {s : St} {a : Act} {w : World} {η : Nat → Value} (h : Rel E s a w η) {F : Nat → Prop} {x : S} {v : Value} {ds : List D} (hd : dcells x = some ds) (r : RS η F w x v) : RdC F w v.cells 0 ds ∧ v.cells.size = ds.length ∧ ∀ u ∈ v.cells.toList, u.oneCell' = true := by
  cases x <;> simp only [dcells] at hd <;> try (cases hd; done)
  case d x =>
    obtain rfl : [x] = ds := by simpa using hd
    simp only [RS] at r
    have := r.one
    rw [this.2]
    refine ⟨?_, rfl, fun u hu => by simp at hu; subst hu; exact this.1⟩
    simp only [RdC]
    exact ⟨⟨v, rfl, r⟩, trivial⟩
  case agg cs =>
    simp only [RS] at r
    obtain ⟨vs, rfl, r⟩ := r
    have key : ∀ (cs : List S) (ds : List D) (us : List Value), (cs.mapM fun | .d x => some x | _ => none) = some ds → RSL η F w cs us → us.length = ds.length ∧ ∀ (j : Nat) (d : D), ds[j]? = some d → ∃ u, us[j]? = some u ∧ Rd F w d u := by
      intro cs
      induction cs with
      | nil => intro ds us h1 h2; simp at h1; subst h1; simp only [RSL] at h2; subst h2; exact ⟨rfl, fun j d hj => by simp at hj⟩
      | cons c cs ih =>
        intro ds us h1 h2
        simp only [RSL] at h2
        obtain ⟨u, l, rfl, h3, h4⟩ := h2
        cases c <;> simp only [List.mapM_cons, Option.bind_eq_bind, Option.pure_def] at h1 <;> try (simp at h1; done)
        rename_i x
        cases hr : (cs.mapM fun | S.d x => some x | _ => none) with
        | none => simp [hr] at h1
        | some ds' =>
          simp [hr] at h1
          subst h1
          obtain ⟨h5, h6⟩ := ih ds' l hr h4
          refine ⟨by simp [h5], fun j d hj => ?_⟩
          cases j with
          | zero => obtain rfl : x = d := by simpa using hj
                    exact ⟨u, rfl, by simpa only [RS] using h3⟩
          | succ j => simpa using h6 j d (by simpa using hj)
    obtain ⟨h1, h2⟩ := key cs ds _ hd r
    have hv : (Value.agg vs).cells = vs := rfl
    rw [hv]
    refine ⟨RdC.of fun j d hj => ?_, by simpa using h1, fun u hu => ?_⟩
    · obtain ⟨u, h3, h4⟩ := h2 j d hj
      exact ⟨u, by simpa using h3, h4⟩
    · obtain ⟨j, hj⟩ := List.getElem?_of_mem hu
      have hlt : j < ds.length := by
        have := (List.getElem?_eq_some_iff.1 hj).1
        omega
      obtain ⟨u', h3, h4⟩ := h2 j ds[j] (by simp [hlt])
      rw [hj] at h3
      obtain rfl : u = u' := by simpa using h3
      exact h4.one.1
/-! ### a row is frozen: from now on it is only read -/
mutual
def frzS (h : Nat) (r : D) : S → S
  | .any => .any
  | .d x => .d x
  | .agg cs => .agg (frzL h r cs)
  | .own k => if k = h then .d r else .own k
  | .ptr k o => if k = h then .any else .ptr k o
  | .eptr k z i o => if k = h then .any else .eptr k z i o
  | .fptr cs => .fptr cs
  | .fps cs => .fps (frzL h r cs)
  | .fn f cs => .fn f (frzL h r cs)
  | .mth f cs => .mth f (frzL h r cs)
  | .tup cs => .tup (frzL h r cs)
  | .gd c x => .gd c (frzS h r x)
def frzL (h : Nat) (r : D) : List S → List S
  | [] => []
  | c :: cs => frzS h r c :: frzL h r cs
end
theorem frzL_len (h : Nat) (r : D) : ∀ cs : List S, (frzL h r cs).length = cs.length
  | [] => rfl
  | x :: cs => by simp only [frzL, List.length_cons, frzL_len h r cs]
def frzT (h : Nat) (r : D) : Tm → Tm
  | [] => []
  | (i, x) :: t => (i, frzS h r x) :: frzT h r t
def frzO (h : Nat) (r : D) : Obj' → Obj'
  | .box t cs => .box t (frzL h r cs)
  | .row t e0 es => .row t e0 es
  | .rows t ss => .rows t (frzL h r ss)
  | .mp R => .mp R
def frzH (h : Nat) (r : D) : Hp → Hp
  | [] => []
  | (i, x) :: t => if i = h then frzH h r t else (i, frzO h r x) :: frzH h r t
def rowOf (s : St) (h : Nat) : D := match lh s.h h with
  | some (.row _ e0 es) => .row e0 es
  | _ => .nil
def frz (h : Nat) (s : St) : St := match lh s.h h with
  | some (.row _ e0 es) => ⟨frzT h (.row e0 es) s.t, frzH h (.row e0 es) s.h⟩
  | _ => s
section
variable {η : Nat → Value} {F F' : Nat → Prop} {w : World} {h : Nat} {r : D} (hs : Sub F w F' w) (hr : Rd F' w r (η h))
include hs hr
mutual
theorem RS_frz : ∀ (x : S) (v : Value), RS η F w x v → RS η F' w (frzS h r x) v
  | .any, v, q => by simp only [frzS, RS]
  | .d x, v, q => by simp only [frzS]; exact RS.mono hs _ _ q
  | .agg cs, v, q => by simp only [frzS, RS] at q ⊢; obtain ⟨vs, e, q⟩ := q; exact ⟨vs, e, RSL_frz cs _ q⟩
  | .own k, v, q => by
    simp only [frzS]
    split
    · rename_i e; subst e; simp only [RS] at q ⊢; rw [q]; exact hr
    · simpa only [RS] using q
  | .ptr k o, v, q => by
    simp only [frzS]
    split
    · simp only [RS]
    · simpa only [RS] using q
  | .eptr k z i o, v, q => by
    simp only [frzS]
    split
    · simp only [RS]
    · simpa only [RS] using q
  | .fptr cs, v, q => by simp only [frzS]; exact RS.mono hs _ _ q
  | .fps cs, v, q => by
    simp only [frzS, RS] at q ⊢
    obtain ⟨ad, arr, t, fr, e, hsp, hF, hb, q⟩ := q
    exact ⟨ad, arr, t, fr, e, hsp, (hs _ _ hF hb).1, (hs _ _ hF hb).2, by rw [frzL_len]; exact RSL_frz cs _ q⟩
  | .fn f cs, v, q => by simp only [frzS, RS] at q ⊢; obtain ⟨vs, e, q⟩ := q; exact ⟨vs, e, RSL_frz cs _ q⟩
  | .mth f cs, v, q => by simp only [frzS, RS] at q ⊢; obtain ⟨vs, e, q⟩ := q; exact ⟨vs, e, RSL_frz cs _ q⟩
  | .tup cs, v, q => by simp only [frzS, RS] at q ⊢; obtain ⟨vs, e, q⟩ := q; exact ⟨vs, e, RSL_frz cs _ q⟩
  | .gd c x, v, q => by simp only [frzS, RS] at q ⊢; exact ⟨fun e => RS_frz x v (q.1 e), q.2⟩
theorem RSL_frz : ∀ (xs : List S) (vs : List Value), RSL η F w xs vs → RSL η F' w (frzL h r xs) vs
  | [], vs, q => by simp only [frzL, RSL] at q ⊢; exact q
  | x :: xs, vs, q => by
    simp only [frzL, RSL] at q ⊢
    obtain ⟨v, l, e, h1, h2⟩ := q
    exact ⟨v, l, e, RS_frz x v h1, RSL_frz xs l h2⟩
end
end
theorem lk_frzT (h : Nat) (r : D) : ∀ (t : Tm) (i : Nat), lk (frzT h r t) i = frzS h r (lk t i)
  | [], i => by simp only [frzT, lk, frzS]
  | (j, x) :: t, i => by
    simp only [frzT, lk, lk_frzT h r t i]
    split <;> rfl
theorem lh_frzH (h : Nat) (r : D) : ∀ (H : Hp) (i : Nat), lh (frzH h r H) i = if i = h then none else (lh H i).map (frzO h r)
  | [], i => by simp [frzH, lh]
  | (j, x) :: t, i => by
    simp only [frzH]
    by_cases hj : j = h
    · rw [if_pos hj, lh_frzH h r t i]
      simp only [lh]
      by_cases hi : i = h
      · simp [hi]
      · rw [if_neg hi, if_neg hi, if_neg (by omega)]
    · rw [if_neg hj]
      simp only [lh, lh_frzH h r t i]
      by_cases hi : j = i
      · subst hi; simp [hj]
      · rw [if_neg hi, if_neg hi]
/-- what an own row says, once nobody writes it -/
theorem row_reads {E : Env} {s : St} {a : Act} {w : World} {η : Nat → Value} (h : Rel E s a w η) {k : Nat} {t : TypeId} {e0 : List D} {es : List (List D)} (hk : lh s.h k = some (.row t e0 es)) {F : Nat → Prop} (hs : Sub (Fr E s.h η) w F w) (hF : ∀ g, blk (η k) = some g → F g) : Rd F w (.row e0 es) (η k) := by
  obtain ⟨xs, ho, r⟩ := h.ob k _ hk
  have r := RdE.mono hs _ _ _ _ r
  simp only [Rd]
  rcases ho.2 with ⟨hv, hn⟩ | ⟨g, cap, cur, hv, hb, hh, hc, hm, hcs, ht⟩
  · have : es = [] := List.eq_nil_of_length_eq_zero hn
    subst this
    exact ⟨none, 0, hv, Nat.le_refl _, .inl ⟨rfl, fun _ => rfl⟩⟩
  · refine ⟨_, cap, hv, hc, .inr ⟨_, cur, t, (0, 0), rfl, rfl, hF g (by rw [hv]; rfl), hh, r.congr fun j hj => ?_⟩⟩
    simp only [Nat.zero_add, List.getElem?_toArray]
    rw [← ht, List.getElem?_take, if_pos hj]
    simp
theorem Rel.frz' {E : Env} {s : St} {a : Act} {w : World} {η : Nat → Value} (h : Rel E s a w η) (k : Nat) : Rel E (frz k s) a w η ∧ Sub (Fr E s.h η) w (Fr E (frz k s).h η) w := by
  unfold Aw.frz
  cases hk : lh s.h k with
  | none => exact ⟨h, Sub.refl _ _⟩
  | some o =>
    cases o with
    | box t cs => exact ⟨h, Sub.refl _ _⟩
    | mp R => exact ⟨h, Sub.refl _ _⟩
    | rows t ss => exact ⟨h, Sub.refl _ _⟩
    | row t e0 es =>
      simp only
      have hlh : ∀ i o, lh (frzH k (.row e0 es) s.h) i = some o → i ≠ k ∧ ∃ o', lh s.h i = some o' ∧ o = frzO k (.row e0 es) o' := fun i o hi => by
        rw [lh_frzH] at hi
        split at hi
        · cases hi
        · rename_i hne
          cases hl : lh s.h i with
          | none => rw [hl] at hi; cases hi
          | some o' => rw [hl] at hi; exact ⟨hne, o', rfl, by simpa using hi.symm⟩
      have hs : Sub (Fr E s.h η) w (Fr E (frzH k (.row e0 es) s.h) η) w := fun b o hb ho => ⟨⟨hb.1, fun i o' hi => by obtain ⟨_, o2, h2, _⟩ := hlh i o' hi; exact hb.2 i o2 h2⟩, ho⟩
      have hr : Rd (Fr E (frzH k (.row e0 es) s.h) η) w (.row e0 es) (η k) := row_reads h hk hs (fun g hg => ⟨(h.ge k _ g hk hg).1.elim .inl fun x => .inr (.inr x), fun i o hi => by
        obtain ⟨hne, o2, h2, _⟩ := hlh i o hi
        exact h.sep k i _ o2 (Ne.symm hne) hk h2 g hg⟩)
      refine ⟨⟨h.sz, h.df.mono hs, fun i => ?_, fun i o hi => ?_, fun i o g hi hg => ?_, fun i j o o' hne hi hj g hg => ?_, h.bel, h.pn⟩, hs⟩
      · show RS η _ w (lk (frzT k _ s.t) i) _
        rw [lk_frzT]
        exact RS_frz hs hr _ _ (h.tm i)
      · obtain ⟨hne, o2, h2, rfl⟩ := hlh i o hi
        have := h.ob i o2 h2
        cases o2 with
        | box t' cs =>
          obtain ⟨g, vs, h3, h4, h5⟩ := this
          exact ⟨g, vs, h3, h4, RSL_frz hs hr _ _ h5⟩
        | mp R =>
          obtain ⟨g, ob, h3, h4, h5⟩ := this
          exact ⟨g, ob, h3, h4, h5⟩
        | rows t' ss' =>
          obtain ⟨xs, h3, h4⟩ := this
          exact ⟨xs, by rw [frzL_len]; exact h3, RSL_frz hs hr _ _ h4⟩
        | row t' e0' es' =>
          obtain ⟨xs, h3, h4⟩ := this
          exact ⟨xs, h3, RdE.mono hs _ _ _ _ h4⟩
      · obtain ⟨_, o2, h2, _⟩ := hlh i o hi
        exact h.ge i o2 g h2 hg
      · obtain ⟨_, o2, h2, _⟩ := hlh i o hi
        obtain ⟨_, o3, h3, _⟩ := hlh j o' hj
        exact h.sep i j o2 o3 hne h2 h3 g hg
def frzC : List S → St → St
  | [], s => s
  | .own h :: r, s => frzC r (frz h s)
  | _ :: r, s => frzC r s
theorem Rel.frzC' {E : Env} {a : Act} {w : World} {η : Nat → Value} : ∀ (xs : List S) (s : St), Rel E s a w η → Rel E (frzC xs s) a w η ∧ Sub (Fr E s.h η) w (Fr E (frzC xs s).h η) w
  | [], s, h => by simp only [Aw.frzC]; exact ⟨h, Sub.refl _ _⟩
  | x :: r, s, h => by
    cases x <;> simp only [Aw.frzC] <;> first | exact Rel.frzC' r _ h | exact ⟨(Rel.frzC' r _ (h.frz' _).1).1, (h.frz' _).2.trans (Rel.frzC' r _ (h.frz' _).1).2⟩
/-- a row whose handle is 5000 or more stays the function's own, wherever it is put -/
def frzK (h : Nat) (s : St) : St := if 5000 ≤ h then s else frz h s
theorem Rel.frzK' {E : Env} {a : Act} {w : World} {η : Nat → Value} {s : St} (k : Nat) (h : Rel E s a w η) : Rel E (frzK k s) a w η ∧ Sub (Fr E s.h η) w (Fr E (frzK k s).h η) w := by
  unfold frzK
  split
  · exact ⟨h, Sub.refl _ _⟩
  · exact h.frz' _
def frzA : List S → St → St
  | [], s => s
  | .own h :: r, s => frzA r (frzK h s)
  | .agg cs :: r, s => frzA r (frzC cs s)
  | _ :: r, s => frzA r s
theorem Rel.frzA' {E : Env} {a : Act} {w : World} {η : Nat → Value} : ∀ (xs : List S) (s : St), Rel E s a w η → Rel E (frzA xs s) a w η ∧ Sub (Fr E s.h η) w (Fr E (frzA xs s).h η) w
  | [], s, h => by simp only [Aw.frzA]; exact ⟨h, Sub.refl _ _⟩
  | x :: r, s, h => by
    cases x <;> simp only [Aw.frzA] <;> first | exact Rel.frzA' r _ h | exact ⟨(Rel.frzA' r _ (h.frzK' _).1).1, (h.frzK' _).2.trans (Rel.frzA' r _ (h.frzK' _).1).2⟩ | exact ⟨(Rel.frzA' r _ (Rel.frzC' _ s h).1).1, (Rel.frzC' _ s h).2.trans (Rel.frzA' r _ (Rel.frzC' _ s h).1).2⟩
theorem Rel.frz {E : Env} {s : St} {a : Act} {w : World} {η : Nat → Value} (h : Rel E s a w η) (k : Nat) : Rel E (Aw.frz k s) a w η := (h.frz' k).1
theorem Rel.frzA {E : Env} {s : St} {a : Act} {w : World} {η : Nat → Value} (h : Rel E s a w η) (xs : List S) : Rel E (Aw.frzA xs s) a w η := (Rel.frzA' xs s h).1
/-! ### a row of given elements -/
def elemsOf (z : Nat) : Nat → List (Nat × S) → Option (List (List D))
  | _, [] => some []
  | k, (i, x) :: r => if i = k then match dcells x with
    | some ds => if ds.length = z then (elemsOf z (k + 1) r).map (ds :: ·) else none
    | none => none
    else none
def oneS1 (P : Program) (s : St) (d : Nat) (e : TypeId) (e0 : List D) (len : Nat) : Nat × S → S × St × Prop
  | (0, .own k) => match lh s.h k with
    | some (.row _ _ _) => (.own d, s.add d (.rows e [.own k]), szT P e = 1 ∧ e0.length = 1 ∧ len = 1 ∧ k ≠ d)
    | _ => (.any, s, False)
  | _ => (.any, s, False)
def bsliceS (P : Program) (s : St) (d : Nat) (t : TypeId) (len : Nat) (parts : List (Nat × S)) : S × St × Prop :=
  match slT P t with
  | some e => match zeroD P e with
    | some e0 => match elemsOf e0.length 0 parts with
      | some es => (.own d, s.add d (.row e e0 es), szT P e = e0.length ∧ 0 < e0.length ∧ es.length = len ∧ len * e0.length ≤ 16777216)
      | none => match parts with
        | [p] => oneS1 P s d e e0 len p
        | _ => (.any, s, False)
    | none => (.any, s, False)
  | none => (.any, s, False)
theorem fill_row {E : Env} {s : St} {a : Act} {w : World} {η : Nat → Value} (h : Rel E s a w η) (z : Nat) {F : Nat → Prop} : ∀ (parts : List (Nat × S)) (vparts : List (Nat × Value)) (k : Nat) (es : List (List D)) (cells : Array Value), elemsOf z k parts = some es → parts.length = vparts.length →
    (∀ (j : Nat) (p : Nat × S), parts[j]? = some p → ∃ v, vparts[j]? = some (p.1, v) ∧ RS η F w p.2 v) → (k + es.length) * z ≤ cells.size →
    ∃ out : Array Value, Instr.fill (fun i => some (i * z, z)) cells vparts = some out ∧ out.size = cells.size ∧ RdE F w z out (k * z) es ∧ (∀ j, j < k * z → out[j]? = cells[j]?)
  | [], vparts, k, es, cells, he, hl, _, _ => by
    obtain rfl : vparts = [] := by simpa using hl.symm
    obtain rfl : [] = es := by simpa [elemsOf] using he
    exact ⟨cells, rfl, rfl, by simp only [RdE], fun _ _ => rfl⟩
  | (i, x) :: parts, vparts, k, es, cells, he, hl, hv, hle => by
    cases vparts with
    | nil => simp at hl
    | cons q vparts =>
      obtain ⟨v, e, rx⟩ := hv 0 (i, x) rfl
      obtain rfl : q = (i, v) := by simpa using e
      simp only [elemsOf] at he
      split at he
      · rename_i hik
        subst hik
        cases hd : dcells x with
        | none => rw [hd] at he; cases he
        | some ds =>
          rw [hd] at he
          replace he : (if ds.length = z then (elemsOf z (i + 1) parts).map (ds :: ·) else none) = some es := he
          split at he
          · rename_i hz
            cases hr : elemsOf z (i + 1) parts with
            | none => rw [hr] at he; cases he
            | some es' =>
              rw [hr] at he
              obtain rfl : ds :: es' = es := by simpa using he
              obtain ⟨rc, hsz, _⟩ := dcells_ok h hd rx
              simp only [List.length_cons] at hle
              have hle2 : (i + 1 + es'.length) * z ≤ cells.size := by rw [show i + 1 + es'.length = i + (es'.length + 1) by omega]; exact hle
              have hiz : i * z + z ≤ cells.size := by
                have : (i + 1) * z ≤ (i + 1 + es'.length) * z := Nat.mul_le_mul_right _ (by omega)
                rw [Nat.succ_mul] at this; omega
              have hfold := foldl_set (i * z) v.cells.toList 0 cells (by simp; omega)
              have hfold' : (v.cells.zipIdx.foldl (fun cs (c : Value × Nat) => cs.setIfInBounds (i * z + c.2) c.1) cells).toList = cells.toList.take (i * z) ++ (v.cells.toList ++ cells.toList.drop (i * z + v.cells.toList.length)) := by
                rw [← Array.foldl_toList, Array.toList_zipIdx]
                simpa using hfold
              generalize hC : (v.cells.zipIdx.foldl (fun cs (c : Value × Nat) => cs.setIfInBounds (i * z + c.2) c.1) cells) = C at hfold'
              have hCs : C.size = cells.size := by
                have := congrArg List.length hfold'
                rw [spl_len _ _ _ (by simp; omega)] at this
                simpa using this
              have hCg : ∀ j, C[j]? = if i * z ≤ j ∧ j < i * z + v.cells.size then v.cells[j - i * z]? else cells[j]? := fun j => by
                have this : C.toList[j]? = _ := congrArg (fun l => l[j]?) hfold'
                rw [spl_get _ _ _ (by simp; omega)] at this
                simpa using this
              obtain ⟨out, h1, h2, h3, h4⟩ := fill_row h z parts vparts (i + 1) es' C hr (by simpa using hl) (fun j p hj => by simpa using hv (j + 1) p (by simpa using hj)) (by rw [hCs]; exact hle2)
              refine ⟨out, ?_, by rw [h2, hCs], ?_, fun j hj => ?_⟩
              · simp only [Instr.fill]
                rw [if_neg (by simp; omega), hC]
                exact h1
              · simp only [RdE]
                refine ⟨hz, rc.congr fun j hj => ?_, by rw [← Nat.succ_mul]; exact h3⟩
                rw [h4 _ (by rw [Nat.succ_mul]; omega), hCg, if_pos (by omega), Nat.zero_add]
                congr 1; omega
              · rw [h4 j (by rw [Nat.succ_mul]; omega), hCg, if_neg (by omega)]
          · cases he
      · cases he
theorem bslice_one {E : Env} {s0 s : St} {a : Act} {w : World} {η : Nat → Value} (d : Nat) (hdp : E.pin d = none) (hs0 : s = killS (k1 d) s0) (h0 : Rel E s0 a w η) (t : TypeId) (len : Nat) (e : TypeId) (e0 : List D) (hsl : slT E.P t = some e) (hz : zeroD E.P e = some e0) (j : Nat) (p : Operand) (hc : (oneS1 E.P s d e e0 len (j, ev s p)).2.2) :
    ∃ v w' η', (Instr.buildSlice t len #[(j, a.eval p)]).run E.P w = .ok v w' ∧ Below w.heap.size w w' ∧ Rel E (oneS1 E.P s d e e0 len (j, ev s p)).2.1 a w' η' ∧ RS η' (Fr E (oneS1 E.P s d e e0 len (j, ev s p)).2.1.h η') w' (oneS1 E.P s d e e0 len (j, ev s p)).1 v ∧ ((∀ j, j ≠ d → η' j = η j) ∧ ∀ b, blk (η' d) = some b → w.heap.size ≤ b) ∧ Sub (Fr E s0.h η) w (Fr E (oneS1 E.P s d e e0 len (j, ev s p)).2.1.h η') w' := by
  have h : Rel E s a w η := hs0 ▸ h0.kill (k1 d)
  have hk0 : Sub (Fr E s0.h η) w (Fr E s.h η) w := hs0 ▸ h0.kill_sub (k1 d)
  have hkk : killS (k1 d) s = s := by rw [hs0, kill_kill]
  have hv := RS_ev (a := a) (w := w) h p
  unfold oneS1 at hc ⊢
  cases j with
  | succ j => exact hc.elim
  | zero =>
    cases hx : ev s p <;> simp only [hx] at hc ⊢ <;> try exact hc.elim
    case own k =>
      cases hl : lh s.h k with
      | none => rw [hl] at hc; exact hc.elim
      | some ob =>
        cases ob with
        | box _ _ => rw [hl] at hc; exact hc.elim
        | rows _ _ => rw [hl] at hc; exact hc.elim
        | mp _ => rw [hl] at hc; exact hc.elim
        | row t1 e1 es1 =>
          simp only [hl] at hc ⊢
          obtain ⟨hsz, hl0, rfl, hkd⟩ := hc
          rw [hx] at hv
          simp only [RS] at hv
          obtain ⟨it, z, T⟩ := elT hsl hz (by rw [hsz, hl0])
          obtain ⟨xs, ho, _⟩ := h.ob k _ hl
          have hcell : (η k).cells = #[η k] := by
            rcases ho.2 with ⟨e, _⟩ | ⟨g, cap, cur, e, _⟩ <;> rw [e] <;> rfl
          have hR := h.made (w' := w.alloc (.cells #[η k] e)) d hdp (.slice (some ⟨w.heap.size, 0, none⟩) 1 1) (.rows e [.own k]) (made_alloc w _) (fun g hg => by
            obtain rfl : w.heap.size = g := by simpa [blk] using hg
            exact ⟨Nat.le_refl _, by simp⟩) (fun F hs => ⟨[η k], by
              have := World.ownsRow_lit (e := e) w #[η k] 1 (Nat.zero_le _) (by simp [maxLen]) (show (#[η k] : Array Value).size = 1 * 1 from rfl)
              simpa using this, by
              simp only [RSL, RS]
              exact ⟨η k, [], rfl, by simp [hkd], rfl⟩⟩)
          rw [hkk] at hR
          refine ⟨.slice (some ⟨w.heap.size, 0, none⟩) 1 1, w.alloc (.cells #[η k] e), fun j => if j = d then .slice (some ⟨w.heap.size, 0, none⟩) 1 1 else η j, ?_, made_alloc w _, hR.1, ?_, ⟨fun j hj => by simp [hj], fun b hb => by simp [blk] at hb; omega⟩, hk0.trans hR.2⟩
          · have hs : (sizeOf e).run E.P w = .ok 1 w := by simp [sizeOf, typeInfo, T.hi, T.hs, hl0]
            have hzv : (zeroValue e).run E.P w = .ok z w := by simp [zeroValue, typeInfo, T.hi, T.hz]
            have hf : ∀ c : Array Value, c.size = 1 → Instr.fill (fun i => some (i * 1, 1)) c [(0, a.eval p)] = some #[η k] := fun c hc => by
              obtain ⟨c⟩ := c
              match c, hc with
              | [q], _ =>
                simp only [Instr.fill, hv, hcell]
                rfl
            simp only [Instr.buildSlice, Sem.run_bind, run_und T.ht, Result.andThen_ok, hs]
            rw [if_neg (by omega), if_neg (by omega)]
            simp only [Sem.run_bind, Sem.run_pure, Result.andThen_ok, hzv]
            rw [hf _ (by simp)]
            rfl
          · simp only [RS, if_true]
theorem bslice_ok {E : Env} {s0 s : St} {a : Act} {w : World} {η : Nat → Value} (d : Nat) (hdp : E.pin d = none) (hs0 : s = killS (k1 d) s0) (h0 : Rel E s0 a w η) (t : TypeId) (len : Nat) (parts : Array (Nat × Operand)) (hc : (bsliceS E.P s d t len (parts.toList.map fun p => (p.1, ev s p.2))).2.2) :
    ∃ v w' η', (Instr.buildSlice t len (parts.map fun (i, x) => (i, a.eval x))).run E.P w = .ok v w' ∧ Below w.heap.size w w' ∧ Rel E (bsliceS E.P s d t len (parts.toList.map fun p => (p.1, ev s p.2))).2.1 a w' η' ∧ RS η' (Fr E (bsliceS E.P s d t len (parts.toList.map fun p => (p.1, ev s p.2))).2.1.h η') w' (bsliceS E.P s d t len (parts.toList.map fun p => (p.1, ev s p.2))).1 v ∧ ((∀ j, j ≠ d → η' j = η j) ∧ ∀ b, blk (η' d) = some b → w.heap.size ≤ b) ∧ Sub (Fr E s0.h η) w (Fr E (bsliceS E.P s d t len (parts.toList.map fun p => (p.1, ev s p.2))).2.1.h η') w' := by
  have h : Rel E s a w η := hs0 ▸ h0.kill (k1 d)
  have hk0 : Sub (Fr E s0.h η) w (Fr E s.h η) w := hs0 ▸ h0.kill_sub (k1 d)
  have hkk : killS (k1 d) s = s := by rw [hs0, kill_kill]
  unfold bsliceS at hc ⊢
  cases hsl : slT E.P t with
  | none => rw [hsl] at hc; exact hc.elim
  | some e =>
    simp only [hsl] at hc ⊢
    cases hz : zeroD E.P e with
    | none => rw [hz] at hc; exact hc.elim
    | some e0 =>
      simp only [hz] at hc ⊢
      cases hel : elemsOf e0.length 0 (parts.toList.map fun p => (p.1, ev s p.2)) with
      | none =>
        simp only [hel] at hc ⊢
        obtain ⟨parts⟩ := parts
        match parts, hc with
        | [], hc => exact hc.elim
        | _ :: _ :: _, hc => simp only [List.map_cons] at hc
        | [(j, p)], hc =>
          rw [show Array.map (fun (x : Nat × Operand) => (x.1, a.eval x.2)) ⟨[(j, p)]⟩ = #[(j, a.eval p)] by simp]
          exact bslice_one d hdp hs0 h0 t len e e0 hsl hz j p hc
      | some es =>
        simp only [hel] at hc ⊢
        obtain ⟨hsz, hpos, hlen, hbig⟩ := hc
        obtain ⟨it, z, T⟩ := elT hsl hz hsz
        have hvp : ∀ (j : Nat) (p : Nat × S), (parts.toList.map fun p => (p.1, ev s p.2))[j]? = some p → ∃ v, (parts.map fun (i, x) => (i, a.eval x)).toList[j]? = some (p.1, v) ∧ RS η (Fr E s.h η) w p.2 v := by
          intro j p hj
          rw [List.getElem?_map] at hj
          cases hq : parts.toList[j]? with
          | none => rw [hq] at hj; cases hj
          | some q =>
            rw [hq] at hj
            obtain rfl : (q.1, ev s q.2) = p := by simpa using hj
            refine ⟨a.eval q.2, ?_, RS_ev h q.2⟩
            simp only [Array.toList_map, List.getElem?_map, hq, Option.map_some]
        generalize hzc : (if len * e0.length = 0 then #[] else z.cells : Array Value) = zc
        obtain ⟨out, h1, h2, h3, _⟩ := fill_row h e0.length _ (parts.map fun (i, x) => (i, a.eval x)).toList 0 es ((Array.range (len * e0.length)).map fun j => zc[j % zc.size]!) hel (by simp) hvp (by rw [Nat.zero_add, hlen]; simp)
        have hos : out.size = len * e0.length := by rw [h2]; simp
        have hml : len ≤ maxLen := by
          have : len * 1 ≤ len * e0.length := Nat.mul_le_mul_left _ hpos
          simp only [maxLen]; omega
        have hR := h.row (w' := w.alloc (.cells out e)) d hdp e e0 es (.slice (some ⟨w.heap.size, 0, none⟩) len len) out.toList (made_alloc w _) (fun g hg => by
          obtain rfl : w.heap.size = g := by simpa [blk] using hg
          exact ⟨Nat.le_refl _, by simp⟩) (by rw [hlen]; exact World.ownsRow_lit w out len (Nat.zero_le _) hml (by rw [hos])) (fun F hs => by
            rw [Nat.zero_mul] at h3
            exact RdE.mono hs _ _ _ _ (by simpa using h3))
        rw [hkk] at hR
        refine ⟨.slice (some ⟨w.heap.size, 0, none⟩) len len, w.alloc (.cells out e), fun j => if j = d then .slice (some ⟨w.heap.size, 0, none⟩) len len else η j, ?_, made_alloc w _, hR.1, ?_, ⟨fun j hj => by simp [hj], fun b hb => by simp [blk] at hb; omega⟩, hk0.trans hR.2⟩
        · have hs : (sizeOf e).run E.P w = .ok e0.length w := by simp [sizeOf, typeInfo, T.hi, T.hs]
          have hzv : (zeroValue e).run E.P w = .ok z w := by simp [zeroValue, typeInfo, T.hi, T.hz]
          simp only [Instr.buildSlice, Sem.run_bind, run_und T.ht, Result.andThen_ok, hs]
          rw [if_neg (by omega)]
          split
          · rename_i h0
            rw [if_pos h0] at hzc
            subst hzc
            simp only [Sem.run_bind, Sem.run_pure, Result.andThen_ok, h1]
            rfl
          · rename_i h0
            rw [if_neg h0] at hzc
            subst hzc
            simp only [Sem.run_bind, Sem.run_pure, Result.andThen_ok, hzv, h1]
            rfl
        · simp only [RS, if_true]
/-! ### a store -/
def setE (es : List (List D)) (i o : Nat) (ds : List D) : List (List D) := es.modify i fun e => e.take o ++ (ds ++ e.drop (o + ds.length))
def chgP : S → List Nat
  | .ptr h _ => [h]
  | .eptr h _ _ _ => [h]
  | _ => []
def storeS (P : Program) (s : St) (t : TypeId) (p x : S) : St × Prop :=
  match stp p with
  | .ptr h o => match lh s.h h with
    | some (.box t' cs) => (s.upd h (.box t' (splS cs o (cellsS (stp x)))), stc p ∧ stc x ∧ okT P t = true ∧ okS s.h (stp x) ∧ (cellsS (stp x)).length = szT P t ∧ o + (cellsS (stp x)).length ≤ cs.length)
    | _ => (s, False)
  | .eptr h z i o => match lh s.h h with
    | some (.row t' e0 es) => match dcells (stp x) with
      | some ds => (s.upd h (.row t' e0 (setE es i o ds)), stc p ∧ stc x ∧ okT P t = true ∧ z = e0.length ∧ i < es.length ∧ ds.length = szT P t ∧ o + ds.length ≤ e0.length)
      | none => (s, False)
    | some (.rows t' ss) => (s.upd h (.rows t' (ss.set i ((cellsS (stp x)).headD .any))), stc p ∧ stc x ∧ okT P t = true ∧ z = 1 ∧ o = 0 ∧ i < ss.length ∧ szT P t = 1 ∧ okS s.h (stp x) ∧ (cellsS (stp x)).length = 1)
    | _ => (s, False)
  | _ => (s, False)
theorem spl_set {α : Type} {l : List α} {i : Nat} {x : α} (h : i < l.length) : l.take i ++ ([x] ++ l.drop (i + 1)) = l.set i x := by
  rw [List.set_eq_take_append_cons_drop, if_pos h]; rfl
theorem store_ok {E : Env} {s : St} {a : Act} {w : World} {η : Nat → Value} (h : Rel E s a w η) (t : TypeId) (x y : Operand) (hc : (storeS E.P s t (ev s x) (ev s y)).2) :
    ∃ w', (Instr.storeAt t (a.eval x) (a.eval y)).run E.P w = .ok () w' ∧ Rel E (storeS E.P s t (ev s x) (ev s y)).1 a w' η ∧ (∀ (b : Nat) (o : Obj), w.heap[b]? = some o → (∀ k, k ∈ chgP (stp (ev s x)) → blk (η k) ≠ some b) → w'.heap[b]? = some o) ∧ Sub (Fr E s.h η) w (Fr E (storeS E.P s t (ev s x) (ev s y)).1.h η) w' ∧ w.heap.size ≤ w'.heap.size := by
  unfold storeS at hc ⊢
  cases hx : stp (ev s x) <;> simp only [hx] at hc ⊢ <;> try exact hc.elim
  case ptr k o =>
    cases hl : lh s.h k with
    | none => rw [hl] at hc; exact hc.elim
    | some ob =>
      cases ob with
      | row _ _ _ => rw [hl] at hc; exact hc.elim
      | rows _ _ => rw [hl] at hc; exact hc.elim
      | mp _ => rw [hl] at hc; exact hc.elim
      | box t' cs =>
        simp only [hl] at hc ⊢
        obtain ⟨c1, c2, hok, hS, hsz, hle⟩ := hc
        have rx := opd h hx c1
        simp only [RS] at rx
        obtain ⟨g, hg, rx⟩ := rx
        obtain ⟨g', vs, e, hh, r⟩ := h.ob k _ hl
        rw [hg] at e
        obtain rfl : g = g' := by simpa using e
        obtain ⟨rc, r1⟩ := cells_ok h (RS_ev' h y c2) hS
        have hlen := RSL_len rc
        have hcl := RSL_len r
        have hW := h.wrote (w' := w.setRow g (vs.toList.take o ++ ((a.eval y).cells.toList ++ vs.toList.drop (o + (a.eval y).cells.toList.length))).toArray) k _ (.box t' (splS cs o (cellsS (stp (ev s y))))) hl (by simp) rfl rfl rfl (fun b hb => setRow_other w g b _ (fun e => hb (by rw [hg, e]; rfl))) fun F hs => ⟨g, _, hg, setRow_heap w g vs _ t' (0, 0) hh, RSL.mono hs _ _ (RSL_spl r rc o hle)⟩
        refine ⟨w.setRow g (vs.toList.take o ++ ((a.eval y).cells.toList ++ vs.toList.drop (o + (a.eval y).cells.toList.length))).toArray, ?_, hW.1, fun b ob hb hn => by
          rw [setRow_other w g b _ (fun e => hn k (by simp [chgP]) (by rw [hg, e]; rfl))]; exact hb, hW.2, by simp⟩
        · have := run_storeCells_at E.P g o t' (a.eval y).cells.toList 0 vs w hh (by simp at hlen hcl ⊢; omega) r1
          simp only [Nat.add_zero, List.append_assoc] at this
          rw [rx]
          simp only [Instr.storeAt, Instr.sureAddr, storeVar, Sem.run_bind, Sem.run_pure, Result.andThen_ok, run_size hok]
          rw [if_neg (by rw [← Array.length_toList, hlen]; omega)]
          exact this
  case eptr k z i o =>
    cases hl : lh s.h k with
    | none => rw [hl] at hc; exact hc.elim
    | some ob =>
      cases ob with
      | box _ _ => rw [hl] at hc; exact hc.elim
      | mp _ => rw [hl] at hc; exact hc.elim
      | rows t' ss =>
        simp only [hl] at hc ⊢
        obtain ⟨c1, c2, hok, rfl, rfl, hi, hsz, hS, hl1⟩ := hc
        have rx := opd h hx c1
        simp only [RS] at rx
        obtain ⟨g, n, c, hg, rx⟩ := rx
        obtain ⟨xs, ho, r⟩ := h.ob k _ hl
        obtain ⟨hxl, ho'⟩ := ho
        rw [Nat.mul_one] at hxl
        rcases ho' with ⟨e, h0⟩ | ⟨g', cap, cur, e, hb, hh, hcap, hm, hcs, ht⟩
        · rw [hg] at e; cases e
        · rw [hg] at e
          have e' : g = g' := by simp only [Value.slice.injEq, Option.some.injEq, Addr.mk.injEq] at e; exact e.1.1
          subst e'
          obtain ⟨rc, r1⟩ := cells_ok h (RS_ev' h y c2) hS
          have hlen := RSL_len rc
          rw [Nat.mul_one] at hcs ht
          generalize hcy : cellsS (stp (ev s y)) = cy at *
          match cy, hl1 with
          | [q], _ =>
          generalize hvy : (a.eval y).cells.toList = vy at *
          match vy, hlen with
          | [u], _ =>
          simp only [List.headD_cons]
          have hi2 : i < cur.toList.length := by simp; omega
          have hset : cur.toList.take i ++ ([u] ++ cur.toList.drop (i + [u].length)) = cur.toList.set i u := spl_set hi2
          have hW := h.wrote (w' := w.setRow g (cur.toList.set i u).toArray) k _ (.rows t' (ss.set i q)) hl (by simp) rfl rfl rfl (fun b hb => setRow_other w g b _ (fun e => hb (by rw [hg, e]; rfl))) (fun F hs => ?wob)
          refine ⟨w.setRow g (cur.toList.set i u).toArray, ?_, hW.1, fun b ob hb hn => by
            rw [setRow_other w g b _ (fun e => hn k (by simp [chgP]) (by rw [hg, e]; rfl))]; exact hb, hW.2, by simp⟩
          case wob =>
            refine ⟨xs.set i u, ⟨by simp [hxl], .inr ⟨g, cap, _, ?_, hb, setRow_heap w g cur _ t' (0, 0) hh, by rw [List.length_set]; exact hcap, hm, by simp [hcs], ?_⟩⟩, ?_⟩
            · rw [hg, e, List.length_set]
            · rw [List.length_set, Nat.mul_one]
              show (cur.toList.set i u).take ss.length = xs.set i u
              rw [List.take_set, ht]
            · have r' := RSL.mono hs _ _ r
              have rc' := RSL.mono hs _ _ rc
              refine RSL_of (by simp [hxl]) fun j x hj => ?_
              rw [List.getElem?_set] at hj ⊢
              split at hj
              · rename_i hij
                rw [if_pos hij]
                obtain ⟨_, rfl⟩ : i < ss.length ∧ q = x := by simpa [hi] using hj
                rw [if_pos (by omega)]
                obtain ⟨v, h7, h8⟩ := RSL_get rc' 0 q rfl
                obtain rfl : u = v := by simpa using h7
                exact ⟨u, rfl, h8⟩
              · rename_i hij
                rw [if_neg hij]
                exact RSL_get r' j x hj
          · have := run_storeCells_at E.P g (i * 1 + 0) t' [u] 0 cur w hh (by simp at hi2 ⊢; omega) r1
            simp only [Nat.add_zero, Nat.mul_one, List.append_assoc] at this
            rw [hset] at this
            rw [rx]
            have hsz2 : (a.eval y).cells.size = 1 := by rw [← Array.length_toList, hvy]; rfl
            simp only [Instr.storeAt, Instr.sureAddr, storeVar, Sem.run_bind, Sem.run_pure, Result.andThen_ok, run_size hok]
            rw [if_neg (by omega), hvy]
            simp only [Nat.mul_one, Nat.add_zero]
            exact this
      | row t' e0 es =>
        simp only [hl] at hc ⊢
        cases hd : dcells (stp (ev s y)) with
        | none => rw [hd] at hc; exact hc.elim
        | some ds =>
          simp only [hd] at hc ⊢
          obtain ⟨c1, c2, hok, rfl, hi, hsz, hle⟩ := hc
          have rx := opd h hx c1
          simp only [RS] at rx
          obtain ⟨g, n, c, hg, rx⟩ := rx
          obtain ⟨xs, ho, r⟩ := h.ob k _ hl
          have hoo := ho
          obtain ⟨hxl, ho'⟩ := ho
          rcases ho' with ⟨e, h0⟩ | ⟨g', cap, cur, e, hb, hh, hcap, hm, hcs, ht⟩
          · rw [hg] at e; cases e
          · rw [hg] at e
            have e' : g = g' := by simp only [Value.slice.injEq, Option.some.injEq, Addr.mk.injEq] at e; exact e.1.1
            subst e'
            obtain ⟨rc, hvl, r1⟩ := dcells_ok h hd (RS_ev' h y c2)
            have hvl' : (a.eval y).cells.toList.length = ds.length := by simpa using hvl
            have hin : i * e0.length + o + ds.length ≤ es.length * e0.length := by
              have : (i + 1) * e0.length ≤ es.length * e0.length := Nat.mul_le_mul_right _ hi
              rw [Nat.succ_mul] at this; omega
            have hcapz : es.length * e0.length ≤ cur.size := by rw [hcs]; exact Nat.mul_le_mul_right _ hcap
            have hW := h.wrote (w' := w.setRow g (cur.toList.take (i * e0.length + o) ++ ((a.eval y).cells.toList ++ cur.toList.drop (i * e0.length + o + (a.eval y).cells.toList.length))).toArray) k _ (.row t' e0 (setE es i o ds)) hl (by simp) rfl rfl rfl (fun b hb => setRow_other w g b _ (fun e => hb (by rw [hg, e]; rfl))) (fun F hs => ?wob)
            refine ⟨w.setRow g (cur.toList.take (i * e0.length + o) ++ ((a.eval y).cells.toList ++ cur.toList.drop (i * e0.length + o + (a.eval y).cells.toList.length))).toArray, ?_, hW.1, fun b ob hb hn => by
              rw [setRow_other w g b _ (fun e => hn k (by simp [chgP]) (by rw [hg, e]; rfl))]; exact hb, hW.2, by simp⟩
            case wob =>
              have hlm : (setE es i o ds).length = es.length := by simp [setE]
              refine ⟨xs.take (i * e0.length + o) ++ ((a.eval y).cells.toList ++ xs.drop (i * e0.length + o + (a.eval y).cells.toList.length)), ⟨?_, .inr ⟨g, cap, _, ?_, hb, setRow_heap w g cur _ t' (0, 0) hh, by rw [hlm]; exact hcap, hm, ?_, ?_⟩⟩, ?_⟩
              · rw [spl_len _ _ _ (by omega), hxl, hlm]
              · rw [hg, e, hlm]
              · have := spl_len cur.toList (i * e0.length + o) (a.eval y).cells.toList (by simp at hcapz ⊢; omega)
                simpa [hcs] using this
              · rw [hlm]
                apply List.ext_getElem?
                intro j
                have hcl : cur.toList.length = cur.size := by simp
                rw [List.getElem?_take]
                rw [spl_get cur.toList _ _ (by omega), spl_get xs _ _ (by omega)]
                split
                · rename_i hj
                  split
                  · rfl
                  · rw [← ht, List.getElem?_take, if_pos hj]
                · rename_i hj
                  rw [if_neg (by omega)]
                  rw [List.getElem?_eq_none (by omega)]
              · have r' := RdE.mono hs _ _ _ _ r
                have rc' := RdC.mono hs _ _ _ rc
                refine RdE.of fun j ee hj => ?_
                have hjl : j < es.length := by have := (List.getElem?_eq_some_iff.1 hj).1; omega
                obtain ⟨h5, h6⟩ := r'.get j es[j] (by simp [hjl])
                have hjz : (j + 1) * e0.length ≤ es.length * e0.length := Nat.mul_le_mul_right _ hjl
                rw [Nat.succ_mul] at hjz
                unfold setE at hj
                rw [List.getElem?_modify] at hj
                by_cases hij : i = j
                · subst hij
                  obtain rfl : es[i].take o ++ (ds ++ es[i].drop (o + ds.length)) = ee := by simpa [hjl] using hj
                  refine ⟨by rw [spl_len _ _ _ (by omega)]; exact h5, RdC.of fun m d hm => ?_⟩
                  have hml := (List.getElem?_eq_some_iff.1 hm).1
                  rw [spl_len _ _ _ (by omega)] at hml
                  rw [spl_get _ _ _ (by omega)] at hm
                  simp only [Nat.zero_add, List.getElem?_toArray]
                  rw [spl_get xs _ _ (by omega)]
                  split at hm
                  · rename_i hom
                    rw [if_pos (by omega)]
                    obtain ⟨v, h7, h8⟩ := rc'.get _ d hm
                    refine ⟨v, ?_, h8⟩
                    rw [← h7]
                    simp only [Nat.zero_add, Array.getElem?_toList]
                    congr 1; omega
                  · rename_i hom
                    rw [if_neg (by omega)]
                    obtain ⟨v, h7, h8⟩ := h6.get _ d hm
                    exact ⟨v, by simpa using h7, h8⟩
                · obtain rfl : es[j] = ee := by simpa [hjl, hij] using hj
                  refine ⟨h5, h6.congr fun m hm => ?_⟩
                  simp only [Nat.zero_add, List.getElem?_toArray]
                  rw [spl_get xs _ _ (by omega)]
                  rw [if_neg]
                  rcases Nat.lt_or_gt_of_ne hij with hlt | hlt
                  · have : (i + 1) * e0.length ≤ j * e0.length := Nat.mul_le_mul_right _ hlt
                    rw [Nat.succ_mul] at this; omega
                  · have : (j + 1) * e0.length ≤ i * e0.length := Nat.mul_le_mul_right _ hlt
                    rw [Nat.succ_mul] at this; omega
            · have := run_storeCells_at E.P g (i * e0.length + o) t' (a.eval y).cells.toList 0 cur w hh (by omega) r1
              simp only [Nat.add_zero, List.append_assoc] at this
              rw [rx]
              simp only [Instr.storeAt, Instr.sureAddr, storeVar, Sem.run_bind, Sem.run_pure, Result.andThen_ok, run_size hok]
              rw [if_neg (by omega)]
              exact this
/-! ### append -/
def srcS (s : St) (z : Nat) : S → Option (List (List D))
  | .own h => match lh s.h h with
    | some (.row _ e0 es) => if e0.length = z then some es else none
    | _ => none
  | .d (.row e0 es) => if e0.length = z then some es else none
  | .d .nil => some []
  | _ => none
theorem src_ok {E : Env} {s : St} {a : Act} {w : World} {η : Nat → Value} (h : Rel E s a w η) {z : Nat} {x : S} {v : Value} {es : List (List D)} (hx : srcS s z x = some es) (r : RS η (Fr E s.h η) w x v) :
    ∃ av c, v = .slice av es.length c ∧ ((es = [] ∧ (av = none → c = 0)) ∨ ∃ (ad : Addr) (news : List Value), av = some ad ∧ news.length = es.length * z ∧ (∀ (j : Nat) (u : Value), news[j]? = some u → w.cell? (ad.add j) = some u) ∧ (∀ u ∈ news, u.oneCell' = true) ∧ RdE (Fr E s.h η) w z news.toArray 0 es) := by
  have mk : ∀ (ad : Addr) (cs : Array Value) (t : TypeId) (fr : Nat × Nat), ad.spot = none → w.heap[ad.block]? = some (.cells cs t fr) → RdE (Fr E s.h η) w z cs ad.off es →
      ∃ news : List Value, news.length = es.length * z ∧ (∀ (j : Nat) (u : Value), news[j]? = some u → w.cell? (ad.add j) = some u) ∧ (∀ u ∈ news, u.oneCell' = true) ∧ RdE (Fr E s.h η) w z news.toArray 0 es := by
    intro ad cs t fr hs hh r
    have hg : ∀ j, j < es.length * z → ((cs.toList.drop ad.off).take (es.length * z))[j]? = cs[ad.off + j]? := fun j hj => by
      rw [List.getElem?_take, if_pos hj, List.getElem?_drop]; simp
    have hl : ((cs.toList.drop ad.off).take (es.length * z)).length = es.length * z := by
      rcases Nat.eq_zero_or_pos (es.length * z) with h0 | h0
      · rw [h0]; simp
      · obtain ⟨u, d, h1, _⟩ := r.cell (es.length * z - 1) (by omega)
        have := (Array.getElem?_eq_some_iff.1 h1).1
        simp; omega
    refine ⟨(cs.toList.drop ad.off).take (es.length * z), hl, fun j u hj => ?_, fun u hu => ?_, r.congr fun j hj => ?_⟩
    · have hlt := (List.getElem?_eq_some_iff.1 hj).1
      rw [hg j (by omega)] at hj
      exact run_load_at hs hh j hj
    · obtain ⟨j, hj⟩ := List.getElem?_of_mem hu
      have hlt := (List.getElem?_eq_some_iff.1 hj).1
      rw [hg j (by omega)] at hj
      obtain ⟨u', d, h1, h2⟩ := r.cell j (by omega)
      rw [hj] at h1
      obtain rfl : u = u' := by simpa using h1
      exact h2.one.1
    · simp only [Nat.zero_add, List.getElem?_toArray]
      exact hg j hj
  cases x <;> simp only [srcS] at hx <;> try (cases hx; done)
  case d dd =>
    cases dd <;> simp only at hx <;> try (cases hx; done)
    case nil =>
      obtain rfl : [] = es := by simpa using hx
      simp only [RS, Rd] at r
      exact ⟨none, 0, r, .inl ⟨rfl, fun _ => rfl⟩⟩
    case row e0 es' =>
      split at hx
      · rename_i hz
        obtain rfl : es' = es := by simpa using hx
        subst hz
        simp only [RS, Rd] at r
        obtain ⟨av, c, hv, hlc, r⟩ := r
        refine ⟨av, c, hv, ?_⟩
        rcases r with r | ⟨ad, cs, t, fr, ha, hs, hF, hh, r⟩
        · exact .inl r
        · obtain ⟨news, h1, h2, h3, h4⟩ := mk ad cs t fr hs hh r
          exact .inr ⟨ad, news, ha, h1, h2, h3, h4⟩
      · cases hx
  case own k =>
    cases hl : lh s.h k with
    | none => rw [hl] at hx; cases hx
    | some ob =>
      cases ob with
      | box _ _ => rw [hl] at hx; cases hx
      | rows _ _ => rw [hl] at hx; cases hx
      | mp _ => rw [hl] at hx; cases hx
      | row t' e0 es' =>
        simp only [hl] at hx
        split at hx
        · rename_i hz
          obtain rfl : es' = es := by simpa using hx
          subst hz
          simp only [RS] at r
          obtain ⟨xs, ho, rr⟩ := h.ob k _ hl
          rcases ho.2 with ⟨e, h0⟩ | ⟨g, cap, cur, e, hb, hh, hcap, hm, hcs, ht⟩
          · refine ⟨none, 0, by rw [r, e, h0], .inl ⟨List.eq_nil_of_length_eq_zero h0, fun _ => rfl⟩⟩
          · refine ⟨some ⟨g, 0, none⟩, cap, by rw [r, e], .inr ?_⟩
            obtain ⟨news, h1, h2, h3, h4⟩ := mk ⟨g, 0, none⟩ cur t' (0, 0) rfl hh (rr.congr fun j hj => by
              simp only [Nat.zero_add, List.getElem?_toArray]
              rw [← ht, List.getElem?_take, if_pos hj]; simp)
            exact ⟨_, news, rfl, h1, h2, h3, h4⟩
        · cases hx
def chgS : S → List Nat
  | .own A => [A]
  | _ => []
def appVC (P : Program) (e : TypeId) (e0 : List D) (n : Nat) : Prop := szT P e = e0.length ∧ 0 < e0.length ∧ n ≤ maxLen ∧ n * byT P e ≤ 140737488355328
/-- one element of a row, as a slot -/
def srcR (s : St) : S → Option S
  | .own k => match lh s.h k with
    | some (.row _ [_] [[x]]) => some (.d x)
    | some (.rows _ [.own j]) => match lh s.h j with
      | some (.row _ _ _) => some (.own j)
      | _ => none
    | _ => none
  | _ => none
def rwsOf (s : St) : S → Option (TypeId × List S)
  | .own A => match lh s.h A with
    | some (.rows t ss) => some (t, ss)
    | _ => none
  | _ => none
def hdO : S → Nat
  | .own A => A
  | _ => 0
/-- a row of slots that grows by one -/
def appR (P : Program) (s : St) (d : Nat) (e : TypeId) (z0 : List D) (x y : S) (t' : TypeId) (ss : List S) : S × St × Prop :=
  match srcR s (stp y) with
  | some u => (.own d, (killS (k2 d (hdO (stp x))) s).add d (.rows e (killC (k1 d) (ss ++ [u]))), stc x ∧ stc y ∧ t' = e ∧ z0.length = 1 ∧ appVC P e z0 (ss.length + 1))
  | none => (.any, s, False)
def appS (P : Program) (s : St) (d : Nat) (t : TypeId) (x y : S) : S × St × Prop :=
  match slT P t with
  | some e => match zeroD P e with
    | some z0 => match rwsOf s (stp x) with
      | some (t', ss) => appR P s d e z0 x y t' ss
      | none => match srcS s z0.length (stp y) with
        | some es' => match stp x with
          | .own A => match lh s.h A with
            | some (.row t' e0 es) => (.own d, (killS (k2 d A) s).add d (.row e e0 (es ++ es')), stc x ∧ stc y ∧ t' = e ∧ e0.length = z0.length ∧ appVC P e z0 (es.length + es'.length))
            | _ => (.any, s, False)
          | .d .nil => (.own d, (killS (k1 d) s).add d (.row e z0 es'), stc x ∧ stc y ∧ appVC P e z0 es'.length)
          | _ => (.any, s, False)
        | none => (.any, s, False)
    | none => (.any, s, False)
  | none => (.any, s, False)
/-- where append's row lies: where it lay, or anew -/
theorem app_where {P : Program} {w w' : World} {t e ty : TypeId} {i : TypeInfo} {z v v' : Value} {size n m c base : Nat} {xs news : List Value} {ad : Addr} (ht : P.underlying t = some (.slice e)) (hi : P.info? e = some i) (hz : i.zero = some z) (hsize : i.size = size)
    (ho : w.ownsRow base e size v n xs) (hl : news.length = m * size) (hnews : ∀ (j : Nat) (u : Value), news[j]? = some u → w.cell? (ad.add j) = some u) (h1 : ∀ u ∈ news, u.oneCell' = true) (h63 : n + m ≤ maxLen) (hby : (n + m) * i.bytes ≤ 140737488355328)
    (hr : (Builtin.append_ #[t, t] ty #[v, .slice (some ad) m c]).run P w = .ok v' w') (hnil : v' = .slice none 0 0 ↔ v = .slice none 0 0 ∧ m = 0) : ∀ k, v'.ownBlock = some k → v.ownBlock = some k ∨ w.heap.size ≤ k := by
  subst hsize
  intro k hk
  have hsmall : n + m ≤ 9223372036854775807 := by simp only [maxLen] at h63; omega
  have ho' := ho
  obtain ⟨hxl, hx⟩ := ho'
  rcases hx with ⟨rfl, rfl⟩ | ⟨g, cap, cur, rfl, hb, hh, hnc, hcm, hcs, ht'⟩
  · by_cases hm : m = 0
    · rw [hnil.2 ⟨rfl, hm⟩] at hk; cases hk
    · have h2 := run_append_nil (P := P) w t ty e i z ht hi hz ad m c news hl hnews (by omega) (by omega) (by simp only [Nat.zero_add] at hby; omega)
      rw [h2] at hr
      obtain ⟨rfl, _⟩ := Result.ok.inj hr
      obtain rfl : w.heap.size = k := by simpa [Value.ownBlock] using hk
      exact .inr (Nat.le_refl _)
  · by_cases hroom : n + m ≤ cap
    · obtain ⟨w2, h2, _⟩ := run_append_fits (P := P) w base t ty e i i.size ht hi rfl g n cap xs ho ad m c news hl hnews h1 hroom
      rw [h2] at hr
      obtain ⟨rfl, _⟩ := Result.ok.inj hr
      exact .inl (by simpa [Value.ownBlock] using hk)
    · have holds : ∀ (j : Nat) (u : Value), xs[j]? = some u → w.cell? ((⟨g, 0, none⟩ : Addr).add j) = some u := ho.cells (g := g) rfl
      have h2 := run_append_grow (P := P) w t ty e i z ht hi hz ⟨g, 0, none⟩ n cap xs hxl holds ad m c news hl hnews (by omega) (by omega) (growslice_fits (by omega) hby)
      rw [h2] at hr
      obtain ⟨rfl, _⟩ := Result.ok.inj hr
      obtain rfl : w.heap.size = k := by simpa [Value.ownBlock] using hk
      exact .inr (Nat.le_refl _)
/-- append's run, over a row of one's own (or none) and whatever is added -/
theorem app_run {E : Env} {s : St} {a : Act} {w : World} {η : Nat → Value} (h : Rel E s a w η) {t e ty : TypeId} {z0 : List D} {i : TypeInfo} {z : Value} (T : ElT E.P t e z0 i z) (hpos : 0 < z0.length) {v u : Value} {n : Nat} {xs : List Value} {es' : List (List D)} {y : S}
    (ho : w.ownsRow 0 e z0.length v n xs) (hy : srcS s z0.length y = some es') (ry : RS η (Fr E s.h η) w y u) (hml : n + es'.length ≤ maxLen) (hby : (n + es'.length) * byT E.P e ≤ 140737488355328) :
    ∃ (v' : Value) (w' : World) (news : List Value), (Builtin.append_ #[t, t] ty #[v, u]).run E.P w = .ok v' w' ∧ w'.ownsRow 0 e z0.length v' (n + es'.length) (xs ++ news) ∧ w.grownBy w' v.ownBlock ∧ RdE (Fr E s.h η) w z0.length news.toArray 0 es' ∧ (∀ k, v'.ownBlock = some k → v.ownBlock = some k ∨ w.heap.size ≤ k) := by
  obtain ⟨av, c, rfl, hsrc⟩ := src_ok h hy ry
  have hby' : (n + es'.length) * i.bytes ≤ 140737488355328 := by simpa [byT, T.hi] using hby
  rcases hsrc with ⟨h0, hn⟩ | ⟨ad, news, rfl, h1, h2, h3, h4⟩
  · subst h0
    cases av with
    | none =>
      obtain rfl := hn rfl
      have hr := run_append_owned_none (P := E.P) w 0 t ty e i z0.length T.ht T.hi v n xs ho
      exact ⟨v, w, [], hr, by simpa using ho, ⟨rfl, rfl, rfl, Nat.le_refl _, fun _ _ _ => rfl⟩, by simp only [RdE], fun k hk => .inl hk⟩
    | some ad =>
      obtain ⟨v', w', hr, h5, h6, h8⟩ := run_append_own (P := E.P) w 0 t ty e i z z0.length i.bytes T.ht T.hi T.hz T.hs rfl T.hzs hpos v n xs ho ad 0 c [] (by simp) (fun j u hj => by simp at hj) (fun u hu => by cases hu) hml hby' (Nat.zero_le _)
      exact ⟨v', w', [], hr, h5, h6, by simp only [RdE], app_where (news := []) T.ht T.hi T.hz T.hs ho (by simp) (fun j u hj => by simp at hj) (fun u hu => by cases hu) hml hby' hr h8⟩
  · obtain ⟨v', w', hr, h5, h6, h8⟩ := run_append_own (P := E.P) w 0 t ty e i z z0.length i.bytes T.ht T.hi T.hz T.hs rfl T.hzs hpos v n xs ho ad es'.length c news h1 h2 h3 hml hby' (Nat.zero_le _)
    exact ⟨v', w', news, hr, h5, h6, h4, app_where T.ht T.hi T.hz T.hs ho h1 h2 h3 hml hby' hr h8⟩
theorem blk_own (v : Value) (h : ∃ a n c, v = .slice a n c) : blk v = v.ownBlock := by
  obtain ⟨a, n, c, rfl⟩ := h
  cases a <;> rfl
theorem owns_slice {w : World} {b e z n : Nat} {v : Value} {xs : List Value} (h : w.ownsRow b e z v n xs) : ∃ a n c, v = .slice a n c := by
  rcases h.2 with ⟨rfl, _⟩ | ⟨g, cap, cur, rfl, _⟩ <;> exact ⟨_, _, _, rfl⟩
theorem RSL_snoc {η : Nat → Value} {F : Nat → Prop} {w : World} : ∀ {cs : List S} {vs : List Value} {x : S} {v : Value}, RSL η F w cs vs → RS η F w x v → RSL η F w (cs ++ [x]) (vs ++ [v])
  | [], vs, x, v, h, hx => by
    obtain rfl : vs = [] := by simpa [RSL] using h
    simp only [List.nil_append, RSL]
    exact ⟨v, [], rfl, hx, rfl⟩
  | c :: cs, vs, x, v, h, hx => by
    simp only [RSL, List.cons_append] at h ⊢
    obtain ⟨u, r, rfl, h1, h2⟩ := h
    exact ⟨u, r ++ [v], rfl, h1, RSL_snoc h2 hx⟩
theorem srcR_ok {E : Env} {s : St} {a : Act} {w : World} {η : Nat → Value} (h : Rel E s a w η) {y u : S} {v : Value} (hy : srcR s y = some u) (r : RS η (Fr E s.h η) w y v) :
    ∃ g c u0, v = .slice (some ⟨g, 0, none⟩) 1 c ∧ w.cell? (⟨g, 0, none⟩ : Addr) = some u0 ∧ u0.oneCell' = true ∧ RS η (Fr E s.h η) w u u0 := by
  unfold srcR at hy
  split at hy
  · rename_i k
    simp only [RS] at r
    have key : ∀ (e : TypeId) (xs : List Value), w.ownsRow 0 e 1 (η k) 1 xs → ∃ g c u0, v = .slice (some ⟨g, 0, none⟩) 1 c ∧ w.cell? (⟨g, 0, none⟩ : Addr) = some u0 ∧ xs = [u0] := fun e xs ho => by
      have hl := ho.1
      match xs, hl with
      | [u0], _ =>
        rcases ho.2 with ⟨_, h0⟩ | ⟨g, cap, cur, e1, hb, hh, hcap, hm, hcs, ht⟩
        · cases h0
        · refine ⟨g, cap, u0, by rw [r, e1], ?_, rfl⟩
          have := ho.cells (g := g) (by rw [e1]; rfl) 0 u0 rfl
          simpa [Addr.add] using this
    split at hy
    · rename_i t1 e1 x hl
      obtain rfl : S.d x = u := by simpa using hy
      obtain ⟨xs, ho, rr⟩ := h.ob k _ hl
      obtain ⟨g, c, u0, h1, h2, rfl⟩ := key t1 xs ho
      obtain ⟨_, h3⟩ := rr.get 0 [x] rfl
      obtain ⟨q, h4, h5⟩ := h3.get 0 x rfl
      obtain rfl : u0 = q := by simpa using h4
      exact ⟨g, c, u0, h1, h2, h5.one.1, by simp only [RS]; exact h5⟩
    · rename_i t1 j hl
      split at hy
      · rename_i t2 e2 es2 hj
        obtain rfl : S.own j = u := by simpa using hy
        obtain ⟨xs, ho, rr⟩ := h.ob k _ hl
        obtain ⟨g, c, u0, h1, h2, rfl⟩ := key t1 xs ho
        obtain ⟨q, h4, h5⟩ := RSL_get rr 0 (.own j) rfl
        obtain rfl : u0 = q := by simpa using h4
        obtain ⟨xs2, ho2, _⟩ := h.ob j _ hj
        simp only [RS] at h5
        refine ⟨g, c, u0, h1, h2, ?_, by simp only [RS]; exact h5⟩
        rw [h5]
        obtain ⟨_, _, _, e⟩ := owns_slice ho2
        rw [e]; rfl
      · cases hy
    · cases hy
  · cases hy
theorem appR_ok {E : Env} {s : St} {a : Act} {w : World} {η : Nat → Value} (h : Rel E s a w η) (d : Nat) (hdp : E.pin d = none) (t ty : TypeId) (x y : Operand) {e : TypeId} {z0 : List D} (hsl : slT E.P t = some e) (hz : zeroD E.P e = some z0) {t' : TypeId} {ss : List S} (hr : rwsOf s (stp (ev s x)) = some (t', ss)) (hc : (appR E.P s d e z0 (ev s x) (ev s y) t' ss).2.2) :
    ∃ v w' η', (Builtin.append_ #[t, t] ty #[a.eval x, a.eval y]).run E.P w = .ok v w' ∧ Rel E (appR E.P s d e z0 (ev s x) (ev s y) t' ss).2.1 a w' η' ∧ RS η' (Fr E (appR E.P s d e z0 (ev s x) (ev s y) t' ss).2.1.h η') w' (appR E.P s d e z0 (ev s x) (ev s y) t' ss).1 v ∧ ((∀ j, j ≠ d → η' j = η j) ∧ (∀ b, blk (η' d) = some b → w.heap.size ≤ b ∨ ∃ k, k ∈ chgS (stp (ev s x)) ∧ blk (η k) = some b) ∧ w.heap.size ≤ w'.heap.size) ∧ (∀ (b : Nat) (o : Obj), w.heap[b]? = some o → (∀ k, k ∈ chgS (stp (ev s x)) → blk (η k) ≠ some b) → w'.heap[b]? = some o) ∧ Sub (Fr E s.h η) w (Fr E (appR E.P s d e z0 (ev s x) (ev s y) t' ss).2.1.h η') w' := by
  unfold appR at hc ⊢
  cases hy : srcR s (stp (ev s y)) with
  | none => rw [hy] at hc; exact hc.elim
  | some u =>
    simp only [hy] at hc ⊢
    obtain ⟨c1, c2, rfl, hz1, hsz, hpos, hml, hby⟩ := hc
    obtain ⟨i, z, T⟩ := elT hsl hz hsz
    unfold rwsOf at hr
    split at hr
    · rename_i A hx
      split at hr
      · rename_i t1 ss1 hl
        obtain ⟨rfl, rfl⟩ : t1 = t' ∧ ss1 = ss := by simpa using hr
        have rx := opd h hx c1
        simp only [RS] at rx
        obtain ⟨xs, ho, rr⟩ := h.ob A _ hl
        rw [hx]
        simp only [hdO]
        rw [rx]
        have hby' : (ss1.length + 1) * i.bytes ≤ 140737488355328 := by simpa [byT, T.hi] using hby
        obtain ⟨g0, c0, u0, hyv, hyc, hy1, hyr⟩ := srcR_ok h hy (RS_ev' h y c2)
        have hyc' : ∀ (j : Nat) (u : Value), [u0][j]? = some u → w.cell? ((⟨g0, 0, none⟩ : Addr).add j) = some u := fun j u hj => by
          cases j with
          | zero => obtain rfl : u0 = u := by simpa using hj
                    exact hyc
          | succ j => simp at hj
        obtain ⟨v', w', hrun, h5, h6, h9⟩ := run_append_own (P := E.P) w 0 t ty t1 i z 1 i.bytes T.ht T.hi T.hz (by rw [T.hs, hz1]) rfl (by rw [T.hzs, hz1]) (by omega) (η A) ss1.length xs ho ⟨g0, 0, none⟩ 1 c0 [u0] (by simp) hyc' (fun u hu => by
          obtain rfl : u = u0 := by simpa using hu
          exact hy1) hml hby' (Nat.zero_le _)
        have h8 := app_where (ty := ty) (news := [u0]) T.ht T.hi T.hz (show i.size = 1 by rw [T.hs, hz1]) ho (by simp) hyc' (fun u hu => by
          obtain rfl : u = u0 := by simpa using hu
          exact hy1) hml hby' hrun h9
        rw [hyv]
        have hbA : blk (η A) = (η A).ownBlock := blk_own _ (owns_slice ho)
        have hm : Rel E ((killS (k2 d A) s).add d (.rows t1 (killC (k1 d) (ss1 ++ [u])))) a w' (fun j => if j = d then v' else η j) ∧ Sub (Fr E s.h η) w (Fr E ((killS (k2 d A) s).add d (.rows t1 (killC (k1 d) (ss1 ++ [u])))).h (fun j => if j = d then v' else η j)) w' := by
          have hη : ∀ j, k2 d A j = false → (fun j => if j = d then v' else η j) j = η j := fun j hj => by
            simp only [k2, Bool.or_eq_false_iff, beq_eq_false_iff_ne] at hj
            simp [hj.1]
          have hη1 : ∀ j, k1 d j = false → (fun j => if j = d then v' else η j) j = η j := fun j hj => by
            simp only [k1, beq_eq_false_iff_ne] at hj
            simp [hj]
          have hsame : ∀ (b : Nat) (o : Obj), w.heap[b]? = some o → (∀ k o', lh s.h k = some o' → k2 d A k = true → blk (η k) ≠ some b) → w'.heap[b]? = some o := fun b o hb hn => by
            rw [h6.block b (Array.getElem?_eq_some_iff.1 hb).1 (fun e => hn A _ hl (by simp [k2]) (by rw [hbA, e]))]; exact hb
          have hgb : ∀ g, blk v' = some g → (E.w0.heap.size ≤ g ∨ E.W g) ∧ g < w'.heap.size ∧ (w.heap.size ≤ g ∨ ∃ k o', lh s.h k = some o' ∧ k2 d A k = true ∧ blk (η k) = some g) := fun g hg => by
            rw [blk_own _ (owns_slice h5)] at hg
            have hlt := h5.lt g hg
            rcases h8 g hg with h9 | h9
            · exact ⟨(h.ge A _ g hl (by rw [hbA]; exact h9)).1, hlt.2, .inr ⟨A, _, hl, by simp [k2], by rw [hbA]; exact h9⟩⟩
            · exact ⟨.inl (by have := h.bel.size; omega), hlt.2, .inl h9⟩
          have hnew : ∀ d' o', lh [(d, Obj'.rows t1 (killC (k1 d) (ss1 ++ [u])))] d' = some o' → k2 d A d' = true ∧ ∀ g, blk ((fun j => if j = d then v' else η j) d') = some g → (E.w0.heap.size ≤ g ∨ E.W g) ∧ g < w'.heap.size ∧ (w.heap.size ≤ g ∨ ∃ k o', lh s.h k = some o' ∧ k2 d A k = true ∧ blk (η k) = some g) := fun d' o' hd => by
            simp only [lh] at hd
            split at hd
            · rename_i e; subst e
              exact ⟨by simp [k2], fun g hg => hgb g (by simpa using hg)⟩
            · cases hd
          have hbel : Bel E.W E.w0 w' := h.bel.wr h6.os h6.tape h6.output h6.size fun k hk hw => h6.block k (by have := h.bel.size; omega) (fun e => by
            rcases (h.ge A _ k hl (by rw [hbA]; exact e.symm)).1 with h1 | h1
            · omega
            · exact hw h1)
          have hs := h.sub (w' := w') (η' := fun j => if j = d then v' else η j) (k2 d A) (k2 d A) [(d, Obj'.rows t1 (killC (k1 d) (ss1 ++ [u])))] (fun _ e => e) hη hsame hnew
          refine ⟨?_, hs⟩
          exact h.next (w' := w') (η' := fun j => if j = d then v' else η j) (k2 d A) (k2 d A) [(d, Obj'.rows t1 (killC (k1 d) (ss1 ++ [u])))] (fun _ e => e) hη (fun k v hk => by
              have : k ≠ d := fun e => by subst e; rw [hdp] at hk; cases hk
              simp [this]) hbel h6.size hsame hnew
            (fun d1 d2 o1 o2 hne h1 h2 => by
              simp only [lh] at h1 h2
              split at h1 <;> split at h2 <;> simp_all)
            (fun d' o' hd => by
              simp only [lh] at hd
              split at hd
              · rename_i e; subst e
                obtain rfl : Obj'.rows t1 (killC (k1 d) (ss1 ++ [u])) = o' := by simpa using hd
                refine ⟨xs ++ [u0], ?_, ?_⟩
                · rw [killC_len, List.length_append]
                  simpa using h5
                · refine RSL.turn hη1 _ _ (hasL_killC _ _) (RSL.mono hs _ _ (RSL_killC _ ?_))
                  exact RSL_snoc rr hyr
              · cases hd)
        refine ⟨v', w', fun j => if j = d then v' else η j, hrun, hm.1, ?_, ⟨fun j hj => by simp [hj], fun b hb => by
          simp only [if_true] at hb
          rw [blk_own _ (owns_slice h5)] at hb
          rcases h8 b hb with h9 | h9
          · exact .inr ⟨A, by simp [chgS], by rw [hbA]; exact h9⟩
          · exact .inl h9, h6.size⟩, fun b o hb hn => by
          rw [h6.block b (Array.getElem?_eq_some_iff.1 hb).1 (fun e => hn A (by simp [chgS]) (by rw [hbA, e]))]; exact hb, hm.2⟩
        simp only [RS, if_true]
      · cases hr
    · cases hr
theorem app_ok {E : Env} {s : St} {a : Act} {w : World} {η : Nat → Value} (h : Rel E s a w η) (d : Nat) (hdp : E.pin d = none) (t ty : TypeId) (x y : Operand) (hc : (appS E.P s d t (ev s x) (ev s y)).2.2) :
    ∃ v w' η', (Builtin.append_ #[t, t] ty #[a.eval x, a.eval y]).run E.P w = .ok v w' ∧ Rel E (appS E.P s d t (ev s x) (ev s y)).2.1 a w' η' ∧ RS η' (Fr E (appS E.P s d t (ev s x) (ev s y)).2.1.h η') w' (appS E.P s d t (ev s x) (ev s y)).1 v ∧ ((∀ j, j ≠ d → η' j = η j) ∧ (∀ b, blk (η' d) = some b → w.heap.size ≤ b ∨ ∃ k, k ∈ chgS (stp (ev s x)) ∧ blk (η k) = some b) ∧ w.heap.size ≤ w'.heap.size) ∧ (∀ (b : Nat) (o : Obj), w.heap[b]? = some o → (∀ k, k ∈ chgS (stp (ev s x)) → blk (η k) ≠ some b) → w'.heap[b]? = some o) ∧ Sub (Fr E s.h η) w (Fr E (appS E.P s d t (ev s x) (ev s y)).2.1.h η') w' := by
  unfold appS at hc ⊢
  cases hsl : slT E.P t with
  | none => rw [hsl] at hc; exact hc.elim
  | some e =>
    simp only [hsl] at hc ⊢
    cases hz : zeroD E.P e with
    | none => rw [hz] at hc; exact hc.elim
    | some z0 =>
      simp only [hz] at hc ⊢
      cases hrw : rwsOf s (stp (ev s x)) with
      | some q =>
        obtain ⟨t', ss⟩ := q
        simp only [hrw] at hc ⊢
        exact appR_ok h d hdp t ty x y hsl hz hrw hc
      | none =>
       simp only [hrw] at hc ⊢
       cases hy : srcS s z0.length (stp (ev s y)) with
       | none => rw [hy] at hc; exact hc.elim
       | some es' =>
        simp only [hy] at hc ⊢
        cases hx : stp (ev s x) <;> simp only [hx] at hc ⊢ <;> try exact hc.elim
        case d dd =>
          cases dd <;> simp only at hc ⊢ <;> try exact hc.elim
          case nil =>
            obtain ⟨c1, c2, hsz, hpos, hml, hby⟩ := hc
            obtain ⟨i, z, T⟩ := elT hsl hz hsz
            have rx := opd h hx c1
            simp only [RS, Rd] at rx
            rw [rx]
            obtain ⟨v', w', news, hr, h5, h6, h7, h8⟩ := app_run (ty := ty) h T hpos (World.ownsRow_nil w 0 e z0.length) hy (RS_ev' h y c2) (by omega) (by simpa using hby)
            have hB : Below w.heap.size w w' := ⟨h6.os, h6.tape, h6.output, h6.size, fun k hk => h6.block k hk (by simp [Value.ownBlock])⟩
            rw [Nat.zero_add, List.nil_append] at h5
            have hR := h.row d hdp e z0 es' v' news hB (fun g hg => ?wfr) h5 (fun F hs => RdE.mono hs _ _ _ _ h7)
            refine ⟨v', w', fun j => if j = d then v' else η j, hr, hR.1, ?_, ⟨fun j hj => by simp [hj], fun b hb => by
              simp only [if_true] at hb
              rw [blk_own _ (owns_slice h5)] at hb
              rcases h8 b hb with h9 | h9
              · cases h9
              · exact .inl h9, h6.size⟩, fun b o hb _ => by rw [hB.block b (Array.getElem?_eq_some_iff.1 hb).1]; exact hb, hR.2⟩
            case wfr =>
              rw [blk_own _ (owns_slice h5)] at hg
              have hlt := (h5.lt g hg).2
              refine ⟨?_, hlt⟩
              rcases h8 g hg with h9 | h9
              · cases h9
              · exact h9
            · simp only [RS, if_true]
        case own A =>
          cases hl : lh s.h A with
          | none => rw [hl] at hc; exact hc.elim
          | some ob =>
            cases ob with
            | box _ _ => rw [hl] at hc; exact hc.elim
            | rows _ _ => rw [hl] at hc; exact hc.elim
            | mp _ => rw [hl] at hc; exact hc.elim
            | row t' e0 es =>
              simp only [hl] at hc ⊢
              obtain ⟨c1, c2, rfl, hzl, hsz, hpos, hml, hby⟩ := hc
              obtain ⟨i, z, T⟩ := elT hsl hz hsz
              have rx := opd h hx c1
              simp only [RS] at rx
              obtain ⟨xs, ho, rr⟩ := h.ob A _ hl
              rw [hzl] at ho rr
              rw [rx]
              obtain ⟨v', w', news, hr, h5, h6, h7, h8⟩ := app_run (ty := ty) h T hpos ho hy (RS_ev' h y c2) hml hby
              have hm : Rel E ((killS (k2 d A) s).add d (.row t' e0 (es ++ es'))) a w' (fun j => if j = d then v' else η j) ∧ Sub (Fr E s.h η) w (Fr E ((killS (k2 d A) s).add d (.row t' e0 (es ++ es'))).h (fun j => if j = d then v' else η j)) w' := by
                have hbA : blk (η A) = (η A).ownBlock := blk_own _ (owns_slice ho)
                have hη : ∀ j, k2 d A j = false → (fun j => if j = d then v' else η j) j = η j := fun j hj => by
                  simp only [k2, Bool.or_eq_false_iff, beq_eq_false_iff_ne] at hj
                  simp [hj.1]
                have hsame : ∀ (b : Nat) (o : Obj), w.heap[b]? = some o → (∀ k o', lh s.h k = some o' → k2 d A k = true → blk (η k) ≠ some b) → w'.heap[b]? = some o := fun b o hb hn => by
                  rw [h6.block b (Array.getElem?_eq_some_iff.1 hb).1 (fun e => hn A _ hl (by simp [k2]) (by rw [hbA, e]))]; exact hb
                have hgb : ∀ g, blk v' = some g → (E.w0.heap.size ≤ g ∨ E.W g) ∧ g < w'.heap.size ∧ (w.heap.size ≤ g ∨ ∃ k o', lh s.h k = some o' ∧ k2 d A k = true ∧ blk (η k) = some g) := fun g hg => by
                  rw [blk_own _ (owns_slice h5)] at hg
                  have hlt := h5.lt g hg
                  rcases h8 g hg with h9 | h9
                  · exact ⟨(h.ge A _ g hl (by rw [hbA]; exact h9)).1, hlt.2, .inr ⟨A, _, hl, by simp [k2], by rw [hbA]; exact h9⟩⟩
                  · exact ⟨.inl (by have := h.bel.size; omega), hlt.2, .inl h9⟩
                have hnew : ∀ d' o', lh [(d, .row t' e0 (es ++ es'))] d' = some o' → k2 d A d' = true ∧ ∀ g, blk ((fun j => if j = d then v' else η j) d') = some g → (E.w0.heap.size ≤ g ∨ E.W g) ∧ g < w'.heap.size ∧ (w.heap.size ≤ g ∨ ∃ k o', lh s.h k = some o' ∧ k2 d A k = true ∧ blk (η k) = some g) := fun d' o' hd => by
                  simp only [lh] at hd
                  split at hd
                  · rename_i e; subst e
                    exact ⟨by simp [k2], fun g hg => hgb g (by simpa using hg)⟩
                  · cases hd
                have hbel : Bel E.W E.w0 w' := h.bel.wr h6.os h6.tape h6.output h6.size fun k hk hw => h6.block k (by have := h.bel.size; omega) (fun e => by
                  rcases (h.ge A _ k hl (by rw [hbA]; exact e.symm)).1 with h1 | h1
                  · omega
                  · exact hw h1)
                refine ⟨?_, h.sub (w' := w') (η' := fun j => if j = d then v' else η j) (k2 d A) (k2 d A) [(d, .row t' e0 (es ++ es'))] (fun _ e => e) hη hsame hnew⟩
                exact h.next (w' := w') (η' := fun j => if j = d then v' else η j) (k2 d A) (k2 d A) [(d, .row t' e0 (es ++ es'))] (fun _ e => e) hη (fun k v hk => by
                    have : k ≠ d := fun e => by subst e; rw [hdp] at hk; cases hk
                    simp [this]) hbel h6.size hsame hnew
                  (fun d1 d2 o1 o2 hne h1 h2 => by
                    simp only [lh] at h1 h2
                    split at h1 <;> split at h2 <;> simp_all)
                  (fun d' o' hd => by
                    have hs := h.sub (w' := w') (η' := fun j => if j = d then v' else η j) (k2 d A) (k2 d A) [(d, .row t' e0 (es ++ es'))] (fun _ e => e) hη hsame hnew
                    simp only [lh] at hd
                    split at hd
                    · rename_i e; subst e
                      obtain rfl : Obj'.row t' e0 (es ++ es') = o' := by simpa using hd
                      refine ⟨xs ++ news, ?_, ?_⟩
                      · rw [hzl, List.length_append]
                        simpa using h5
                      · rw [hzl]
                        exact RdE.mono hs _ _ _ _ (RdE_append rr ho.1 h7)
                    · cases hd)
              refine ⟨v', w', fun j => if j = d then v' else η j, hr, hm.1, ?_, ⟨fun j hj => by simp [hj], fun b hb => by
                simp only [if_true] at hb
                rw [blk_own _ (owns_slice h5)] at hb
                rcases h8 b hb with h9 | h9
                · exact .inr ⟨A, by simp [chgS], by rw [blk_own _ (owns_slice ho)]; exact h9⟩
                · exact .inl h9, h6.size⟩, fun b o hb hn => by
                rw [h6.block b (Array.getElem?_eq_some_iff.1 hb).1 (fun e => hn A (by simp [chgS]) (by rw [blk_own _ (owns_slice ho), e]))]; exact hb, hm.2⟩
              simp only [RS, if_true]
/-! ## a region in the text's order -/
def nth : List Oper → Nat → Option Oper
  | [], _ => none
  | o :: _, 0 => some o
  | _ :: r, n + 1 => nth r n
theorem nth_get : ∀ (l : List Oper) (n : Nat), nth l n = l[n]?
  | [], n => by simp [nth]
  | o :: r, 0 => rfl
  | o :: r, n + 1 => by simp only [nth, nth_get r n, List.getElem?_cons_succ]
def he (P : Program) (s : St) (d : Nat) : Op → Option (S × St × Prop)
  | .box t x => some (boxS (killS (k1 d) s) d t (ev (killS (k1 d) s) x))
  | .alloc t => some (allocS P (killS (k1 d) s) d t)
  | .makeSlice t l c => some (makeS P (killS (k1 d) s) d t (ev (killS (k1 d) s) l) (ev (killS (k1 d) s) c))
  | .buildSlice t len parts => some (bsliceS P (killS (k1 d) (frzA (parts.toList.map fun p => ev s p.2) s)) d t len (parts.toList.map fun p => (p.1, ev (killS (k1 d) (frzA (parts.toList.map fun p => ev s p.2) s)) p.2)))
  | .call c => match c.callee with
    | .builtin b => match b with
      | .append => match c.args.toList with
        | [x, y] => match c.argTypes.toList with
          | [t, t'] => if t = t' then some (appS P s d t (ev s x) (ev s y)) else none
          | _ => none
        | _ => none
      | _ => none
    | _ => none
  | _ => none
/-- handles whose memory an operation may write -/
def chg (s : St) : Op → List Nat
  | .call c => match c.args.toList with
    | x :: _ => chgS (stp (ev s x))
    | _ => []
  | .store _ p _ => chgP (stp (ev s p))
  | _ => []
/-- how a step's world hangs on the one ahead -/
structure Link (F : Nat → Prop) (η : Nat → Value) (w : World) (F' : Nat → Prop) (η' : Nat → Value) (w' : World) (d : Option Nat) (ch : List Nat) : Prop where
  sub : Sub F w F' w'
  eta : ∀ j, d ≠ some j → η' j = η j
  new : ∀ j b, d = some j → blk (η' j) = some b → w.heap.size ≤ b ∨ ∃ k, k ∈ ch ∧ blk (η k) = some b
  sz : w.heap.size ≤ w'.heap.size
  same : ∀ (b : Nat) (o : Obj), w.heap[b]? = some o → (∀ k, k ∈ ch → blk (η k) ≠ some b) → w'.heap[b]? = some o
theorem Link.of_below {F F' : Nat → Prop} {η : Nat → Value} {w w' : World} {d : Nat} {ch : List Nat} {η' : Nat → Value} (hb : Below w.heap.size w w') (hs : Sub F w F' w') (he : (∀ j, j ≠ d → η' j = η j) ∧ ∀ b, blk (η' d) = some b → w.heap.size ≤ b) : Link F η w F' η' w' (some d) ch :=
  ⟨hs, fun j hj => he.1 j fun e => hj (by rw [e]), fun j b e hj => by cases e; exact .inl (he.2 b hj), hb.size, fun b o h _ => by rw [hb.block b (Array.getElem?_eq_some_iff.1 h).1]; exact h⟩
theorem he_ok {E : Env} {s : St} {a : Act} {w : World} {η : Nat → Value} (h : Rel E s a w η) {o : Oper} {d : Nat} (hdp : E.pin d = none) {q : S × St × Prop} (hr : he E.P s d o.op = some q) (hc : q.2.2) :
    ∃ u w' η', (execOp a.eval o).run E.P w = .ok (.value u) w' ∧ Rel E q.2.1 a w' η' ∧ RS η' (Fr E q.2.1.h η') w' q.1 u ∧ Link (Fr E s.h η) η w (Fr E q.2.1.h η') η' w' (some d) (chg s o.op) := by
  have lift : ∀ (w' : World) (m : Sem Value) (v : Value), m.run E.P w = .ok v w' → ((do pure (.value (← m))) : Sem Next).run E.P w = .ok (.value v) w' := fun w' m v hm => by
    rw [Sem.run_bind, hm, Result.andThen_ok]; rfl
  unfold execOp
  cases ho : o.op <;> rw [ho] at hr <;> simp only [he] at hr ⊢ <;> try (cases hr; done)
  case box t x =>
    obtain rfl := Option.some.inj hr
    obtain ⟨u, w', η', h1, h2, h3, h4, h5, hS⟩ := box_ok h d hdp t x hc
    exact ⟨u, w', η', lift w' _ _ h1, h3, h4, .of_below h2 hS h5⟩
  case alloc t =>
    obtain rfl := Option.some.inj hr
    obtain ⟨u, w', η', h1, h2, h3, h4, h5, hS⟩ := alloc_ok h d hdp t hc
    exact ⟨u, w', η', lift w' _ _ h1, h3, h4, .of_below h2 hS h5⟩
  case makeSlice t l cc =>
    obtain rfl := Option.some.inj hr
    obtain ⟨u, w', η', h1, h2, h3, h4, h5, hS⟩ := make_ok d hdp rfl h t l cc hc
    exact ⟨u, w', η', lift w' _ _ h1, h3, h4, .of_below h2 hS h5⟩
  case buildSlice t len parts =>
    obtain ⟨hz, hzs⟩ := Rel.frzA' (parts.toList.map fun p => ev s p.2) s h
    generalize frzA (parts.toList.map fun p => ev s p.2) s = s1 at hr hz hzs
    generalize hs2 : killS (k1 d) s1 = s2 at hr
    obtain rfl := Option.some.inj hr
    obtain ⟨u, w', η', h1, h2, h3, h4, h5, hS⟩ := bslice_ok d hdp hs2.symm hz t len parts hc
    exact ⟨u, w', η', lift w' _ _ h1, h3, h4, .of_below h2 (hzs.trans hS) h5⟩
  case call cl =>
    obtain ⟨callee, args, argTypes⟩ := cl
    cases callee <;> simp only at hr <;> try (cases hr; done)
    rename_i b
    obtain ⟨args⟩ := args
    obtain ⟨argTypes⟩ := argTypes
    cases b <;> simp only at hr <;> try (cases hr; done)
    match args, argTypes, hr with
    | [x, y], [t, t'], hr =>
      simp only at hr
      split at hr
      · rename_i e
        subst e
        obtain rfl := Option.some.inj hr
        obtain ⟨u, w', η', h1, h3, h4, h5, h6, hS⟩ := app_ok (ty := o.type) h d hdp t x y hc
        refine ⟨u, w', η', ?_, h3, h4, ⟨hS, fun j hj => h5.1 j (fun e => hj (by rw [e])), fun j b e hj => by cases e; exact h5.2.1 b hj, h5.2.2, fun b oo hb hn => h6 b oo hb (fun k hk => hn k ?_)⟩⟩
        · simp only [resolve, Sem.run_bind, Sem.run_pure, Result.andThen_ok, invoke, builtin, List.map_toArray, List.map_cons, List.map_nil, h1]
        · simp only [chg]; exact hk
      · cases hr
/-- a store; a row that is stored into a row's element is frozen first -/
def frzW (s : St) (p x : Operand) : St :=
  match stp (ev s p) with
  | .eptr h _ _ _ => match lh s.h h with
    | some (.rows _ _) => s
    | _ => frzA [stp (ev s x)] s
  | _ => s
def stF (P : Program) (s : St) (t : TypeId) (p x : Operand) : St × Prop := storeS P (frzW s p x) t (ev (frzW s p x) p) (ev (frzW s p x) x)
/-- one operation's step: the value, the state behind it, what must hold -/
def so (P : Program) (s : St) (o : Oper) : Option (S × St × Prop) :=
  match pe P s o.op with
  | some r => some (r.1, s, r.2)
  | none => match o.dst with
    | some d => he P s d o.op
    | none => match o.op with
      | .store t p x => some (.any, stF P s t p x)
      | _ => none
theorem frzS_chg (h : Nat) (r : D) (x : S) : ∀ k, k ∈ chgP (stp (frzS h r x)) → k ∈ chgP (stp x) := by
  have key : ∀ x : S, ∀ k, k ∈ chgP (frzS h r x) → k ∈ chgP x := by
    intro x k hk
    cases x
    case own j => by_cases e : j = h <;> simp [frzS, e, chgP] at hk
    case ptr j o => by_cases e : j = h <;> simp [frzS, e, chgP] at hk ⊢; exact hk
    case eptr j z i o => by_cases e : j = h <;> simp [frzS, e, chgP] at hk ⊢; exact hk
    all_goals first | (simp [chgP] at hk; done) | (simp [frzS, chgP] at hk; done) | simpa [frzS, chgP] using hk
  intro k hk
  cases x
  case own j => by_cases e : j = h <;> simp [frzS, e, stp, chgP] at hk
  case ptr j o => by_cases e : j = h <;> simp [frzS, e, stp, chgP] at hk ⊢; exact hk
  case eptr j z i o => by_cases e : j = h <;> simp [frzS, e, stp, chgP] at hk ⊢; exact hk
  case gd c y => simp only [frzS, stp] at hk ⊢; exact key _ k hk
  all_goals first | (simp [stp, chgP] at hk; done) | (simp [frzS, stp, chgP] at hk; done) | simpa [frzS, stp, chgP] using hk
theorem frz_ev (h : Nat) (s : St) (p : Operand) : ∀ k, k ∈ chgP (stp (ev (frz h s) p)) → k ∈ chgP (stp (ev s p)) := by
  unfold frz
  split
  · cases p with
    | tmp t => simp only [ev, lk_frzT]; exact frzS_chg _ _ _
    | const v => exact fun k hk => hk
    | global g => exact fun k hk => hk
    | func f => exact fun k hk => hk
  · exact fun k hk => hk
theorem frzK_chg (h : Nat) (s : St) (p : Operand) : ∀ k, k ∈ chgP (stp (ev (frzK h s) p)) → k ∈ chgP (stp (ev s p)) := by
  unfold frzK
  split
  · exact fun k hk => hk
  · exact frz_ev h s p
theorem frzC_chg : ∀ (xs : List S) (s : St) (p : Operand), ∀ k, k ∈ chgP (stp (ev (frzC xs s) p)) → k ∈ chgP (stp (ev s p))
  | [], s, p, k, hk => by simpa only [frzC] using hk
  | x :: r, s, p, k, hk => by
    cases x <;> simp only [frzC] at hk <;> first | exact frzC_chg r s p k hk | exact frz_ev _ s p k (frzC_chg r _ p k hk)
theorem frz_chg : ∀ (xs : List S) (s : St) (p : Operand), ∀ k, k ∈ chgP (stp (ev (frzA xs s) p)) → k ∈ chgP (stp (ev s p))
  | [], s, p, k, hk => by simpa only [frzA] using hk
  | x :: r, s, p, k, hk => by
    cases x <;> simp only [frzA] at hk <;> first | exact frz_chg r s p k hk | exact frzK_chg _ s p k (frz_chg r _ p k hk) | exact frzC_chg _ s p k (frz_chg r _ p k hk)
/-- the handle that a step makes -/
def crt (P : Program) (s : St) (o : Oper) : Option Nat := match pe P s o.op with
  | some _ => none
  | none => o.dst
/-- what an operation with a step does -/
theorem so_ok {E : Env} {s : St} {a : Act} {w : World} {η : Nat → Value} (h : Rel E s a w η) {o : Oper} {q : S × St × Prop} (hr : so E.P s o = some q) (hdn : ∀ d, o.dst = some d → d < E.n) (hc : q.2.2) :
    ∃ w' η' u, ((execOp a.eval o).run E.P w = .ok (.value u) w' ∨ (o.dst = none ∧ (execOp a.eval o).run E.P w = .ok .skip w')) ∧ Rel E q.2.1 a w' η' ∧ RS η' (Fr E q.2.1.h η') w' q.1 u ∧ Link (Fr E s.h η) η w (Fr E q.2.1.h η') η' w' (crt E.P s o) (chg s o.op) := by
  unfold so at hr
  unfold crt
  cases hp : pe E.P s o.op with
  | some r =>
    simp only [hp] at hr
    obtain rfl := Option.some.inj hr
    obtain ⟨u, h1, h2⟩ := pe_ok h hp hc
    exact ⟨w, η, u, .inl (h2 w (fun _ _ _ hb => hb)), h, h1, Sub.refl _ _, fun _ _ => rfl, fun _ _ e => (by cases e), Nat.le_refl _, fun _ _ hb _ => hb⟩
  | none =>
    simp only [hp] at hr
    cases hd : o.dst with
    | some d =>
      simp only [hd] at hr
      obtain ⟨u, w', η', h1, h2, h3, h4⟩ := he_ok h (E.hpin d (hdn d hd)) hr hc
      exact ⟨w', η', u, .inl h1, h2, h3, h4⟩
    | none =>
      simp only [hd] at hr
      cases ho : o.op <;> simp only [ho] at hr <;> try (cases hr; done)
      case store t p x =>
        obtain rfl := Option.some.inj hr
        have key : ∃ w', (Instr.storeAt t (a.eval p) (a.eval x)).run E.P w = .ok () w' ∧ Rel E (stF E.P s t p x).1 a w' η ∧ (∀ (b : Nat) (o : Obj), w.heap[b]? = some o → (∀ k, k ∈ chgP (stp (ev s p)) → blk (η k) ≠ some b) → w'.heap[b]? = some o) ∧ Sub (Fr E s.h η) w (Fr E (stF E.P s t p x).1.h η) w' ∧ w.heap.size ≤ w'.heap.size := by
          unfold stF at hc ⊢
          have hz : (Rel E (frzW s p x) a w η ∧ Sub (Fr E s.h η) w (Fr E (frzW s p x).h η) w) ∧ ∀ k, k ∈ chgP (stp (ev (frzW s p x) p)) → k ∈ chgP (stp (ev s p)) := by
            unfold frzW
            split
            · split
              · exact ⟨⟨h, Sub.refl _ _⟩, fun _ hk => hk⟩
              · exact ⟨Rel.frzA' [stp (ev s x)] s h, frz_chg [stp (ev s x)] s p⟩
            · exact ⟨⟨h, Sub.refl _ _⟩, fun _ hk => hk⟩
          obtain ⟨w', h1, h2, h3, h4, h5⟩ := store_ok hz.1.1 t p x hc
          exact ⟨w', h1, h2, fun b ob hb hn => h3 b ob hb fun k' hk' => hn k' (hz.2 k' hk'), hz.1.2.trans h4, h5⟩
        obtain ⟨w', h1, h2, h3, h4, h5⟩ := key
        refine ⟨w', η, undef, .inr ⟨rfl, ?_⟩, h2, by simp only [RS], h4, fun _ _ => rfl, fun _ _ e => (by cases e), h5, by simpa only [chg, ho] using h3⟩
        unfold execOp
        simp only [ho, Sem.run_bind, h1, Result.andThen_ok]
        rfl
theorem RS_gd {η : Nat → Value} {F : Nat → Prop} {w : World} {c : Bool} {x : S} {v : Value} : RS η F w (.gd c x) v ↔ (c = true → RS η F w x v) ∧ (c = false → v = undef) := by simp only [RS]
/-- the Bool that a guard asks -/
def gdS (ops : List Oper) (s : St) (j : Nat) (want : Bool) : Option Bool :=
  match nth ops j with
  | some o => match o.dst with
    | some t => match lk s.t t with
      | .d (.b g) => some (g == want)
      | .gd g' x => match x with
        | .d (.b g) => some (g' && (g == want))
        | _ => none
      | _ => none
    | none => none
  | none => none
theorem gdS_ok {E : Env} {s : St} {a : Act} {w : World} {η : Nat → Value} (h : Rel E s a w η) {ops : List Oper} {j : Nat} {want G : Bool} (hg : gdS ops s j want = some G) {o : Oper} (ho : o.guard = some (j, want)) : Region.wanted o (yielded ops.toArray a.tmps) = G := by
  unfold gdS at hg
  rw [nth_get] at hg
  cases hj : ops[j]? with
  | none => rw [hj] at hg; cases hg
  | some oj =>
    simp only [hj] at hg
    cases hd : oj.dst with
    | none => rw [hd] at hg; cases hg
    | some t =>
      simp only [hd] at hg
      have ht := h.tm t
      have hy : yielded ops.toArray a.tmps j = match a.tmps[t]? with | some (.bool b) => some b | _ => none := by
        unfold yielded
        simp only [List.getElem?_toArray, hj, Option.bind_some, hd]
        cases a.tmps[t]? with
        | none => rfl
        | some q => cases q <;> rfl
      have hgd : a.tmps.getD t undef = (a.tmps[t]?).getD undef := Array.getD_eq_getD_getElem? ..
      rw [hgd] at ht
      have hval : ∀ g : Bool, (a.tmps[t]?).getD undef = .bool g → yielded ops.toArray a.tmps j = some g := fun g e => by
        rw [hy]
        cases hq : a.tmps[t]? with
        | none => rw [hq] at e; simp [undef] at e
        | some q => rw [hq] at e; simp only [Option.getD_some] at e; rw [e]
      have hund : (a.tmps[t]?).getD undef = undef → yielded ops.toArray a.tmps j = none := fun e => by
        rw [hy]
        cases hq : a.tmps[t]? with
        | none => rfl
        | some q => rw [hq] at e; simp only [Option.getD_some] at e; rw [e]; rfl
      generalize lk s.t t = X at hg ht
      simp only [Region.wanted, ho]
      match X, hg, ht with
      | .d (.b g), hg, ht =>
        obtain rfl : (g == want) = G := by simpa using hg
        rw [hval g (by simpa only [RS, Rd] using ht)]
        cases g <;> cases want <;> rfl
      | .gd g' (.d (.b g)), hg, ht =>
        obtain rfl : (g' && (g == want)) = G := by simpa using hg
        have ht := RS_gd.1 ht
        cases g' with
        | true =>
          rw [hval g (by simpa only [RS, Rd] using ht.1 rfl)]
          cases g <;> cases want <;> rfl
        | false =>
          rw [hund (ht.2 rfl)]
          rfl
/-- a region's operations that the walk takes by a contract, or not at all -/
def CallN (E : Env) (ops : List Oper) (o : Oper) (G : Option Bool) (s : St) (r : List Oper) (K : St → Prop) : Prop :=
  (∀ g, G = some g → ∀ a w η, Rel E s a w η → Region.wanted o (yielded ops.toArray a.tmps) = g) → (G = none → o.guard = none) →
  ∀ (Q : Exit → Act → World → Prop) a w η, Rel E s a w η → (∀ s' a' w' η', Rel E s' a' w' η' → K s' → Q .normal a' w') → wpList E.P ops.toArray Q (o :: r) a w
def SQ (E : Env) (ops : List Oper) : List Oper → St → (St → Prop) → Prop
  | [], s, K => K s
  | o :: r, s, K => match o.guard with
    | none => match so E.P s o with
      | some q => match o.dst with
        | some d => q.2.2 ∧ d < E.n ∧ SQ E ops r ⟨(d, q.1) :: q.2.1.t, q.2.1.h⟩ K
        | none => q.2.2 ∧ SQ E ops r q.2.1 K
      | none => CallN E ops o none s r K
    | some jw => match gdS ops s jw.1 jw.2 with
      | some G => match pe E.P s o.op with
        | some q => match o.dst with
          | some d => (G = true → q.2) ∧ d < E.n ∧ SQ E ops r ⟨(d, .gd G q.1) :: s.t, s.h⟩ K
          | none => False
        | none => CallN E ops o (some G) s r K
      | none => False
theorem SQ_ok {E : Env} {ops : List Oper} {Q : Exit → Act → World → Prop} {K : St → Prop} (hK : ∀ s' a' w' η', Rel E s' a' w' η' → K s' → Q .normal a' w') :
    ∀ (l : List Oper) (s : St), SQ E ops l s K → ∀ a w η, Rel E s a w η → wpList E.P ops.toArray Q l a w
  | [], s, h, a, w, η, hR => hK s a w η hR (by simpa only [SQ] using h)
  | o :: r, s, h, a, w, η, hR => by
    simp only [SQ] at h
    cases hg : o.guard with
    | none =>
      simp only [hg] at h
      cases hs : so E.P s o with
      | none =>
        simp only [hs] at h
        exact h (fun g e => by cases e) (fun _ => hg) Q a w η hR hK
      | some q =>
        simp only [hs] at h
        have hc : q.2.2 := by cases hd : o.dst <;> simp only [hd] at h <;> exact h.1
        obtain ⟨w', η', u, h1, h2, h3, _⟩ := so_ok hR hs (fun d hd => by rw [hd] at h; exact h.2.1) hc
        refine wpList_plain hg fun K' hK' => ?_
        unfold Oper.wp
        cases hd : o.dst with
        | some d =>
          simp only [hd] at h
          rcases h1 with h1 | ⟨h1, _⟩
          · rw [h1]
            exact hK' _ _ (SQ_ok hK r _ h.2.2 _ _ η' (by rw [hd]; exact h2.put h.2.1 h3))
          · rw [hd] at h1; cases h1
        | none =>
          simp only [hd] at h
          rcases h1 with h1 | ⟨_, h1⟩
          · rw [h1]
            exact hK' _ _ (SQ_ok hK r _ h.2 _ _ η' (by rw [hd]; exact h2))
          · rw [h1]
            exact hK' _ _ (SQ_ok hK r _ h.2 _ _ η' (by rw [hd]; exact h2))
    | some jw =>
      obtain ⟨j, want⟩ := jw
      simp only [hg] at h
      cases hG : gdS ops s j want with
      | none => rw [hG] at h; exact h.elim
      | some G =>
        simp only [hG] at h
        have hw := gdS_ok hR hG hg
        cases hp : pe E.P s o.op with
        | none =>
          simp only [hp] at h
          exact h (fun g e a w η hR => by cases e; exact gdS_ok hR hG hg) (fun e => by cases e) Q a w η hR hK
        | some q =>
          simp only [hp] at h
          cases hd : o.dst with
          | none => rw [hd] at h; exact h.elim
          | some d =>
            simp only [hd] at h
            obtain ⟨h1, h2, h3⟩ := h
            unfold wpList
            cases G with
            | true =>
              rw [if_pos hw]
              obtain ⟨u, h4, h5⟩ := pe_ok hR hp (h1 rfl)
              refine .inl ?_
              unfold Oper.wp
              rw [h5 w (fun _ _ _ hb => hb)]
              refine SQ_ok hK r _ h3 _ _ η ?_
              rw [hd]
              exact hR.put h2 (RS_gd.2 ⟨fun _ => h4, fun e => by cases e⟩)
            | false =>
              rw [if_neg (by rw [hw]; decide)]
              refine SQ_ok hK r _ h3 _ _ η ?_
              rw [hd]
              exact hR.put h2 (RS_gd.2 ⟨fun e => (by cases e), fun _ => rfl⟩)
/-! ## contracts -/
def η0 : Nat → Value := fun _ => undef
def allH : Nat → Bool := fun _ => true
mutual
/-- what a slot says to somebody who only reads -/
def cv (H : Hp) : S → S
  | .any => .any
  | .d x => .d x
  | .agg cs => .agg (cvL H cs)
  | .own h => match lh H h with
    | some (.row _ e0 es) => .d (.row e0 es)
    | _ => .any
  | .ptr _ _ => .any
  | .eptr _ _ _ _ => .any
  | .fptr cs => .fptr cs
  | .fps cs => .fps (cvL H cs)
  | .fn f cs => .fn f (cvL H cs)
  | .mth f cs => .mth f (cvL H cs)
  | .tup cs => .tup (cvL H cs)
  | .gd c x => .gd c (cv H x)
def cvL (H : Hp) : List S → List S
  | [] => []
  | c :: cs => cv H c :: cvL H cs
end
theorem cvL_len (H : Hp) : ∀ cs : List S, (cvL H cs).length = cs.length
  | [] => rfl
  | c :: cs => by simp only [cvL, List.length_cons, cvL_len H cs]
section
variable {E : Env} {s : St} {a : Act} {w : World} {η η' : Nat → Value} (h : Rel E s a w η) {G : Nat → Prop} (hG : ∀ b, E.w0.heap.size ≤ b ∨ E.F b ∨ E.W b → G b)
include h hG
theorem sub_all : Sub (Fr E s.h η) w G w := fun b _ hb ho => ⟨hG b hb.1, ho⟩
mutual
theorem RS_cv : ∀ (x : S) (v : Value), RS η (Fr E s.h η) w x v → RS η' G w (cv s.h x) v
  | .any, v, q => by simp only [cv, RS]
  | .d x, v, q => by simp only [cv, RS] at q ⊢; exact Rd.mono (sub_all h hG) _ _ q
  | .agg cs, v, q => by simp only [cv, RS] at q ⊢; obtain ⟨vs, e, q⟩ := q; exact ⟨vs, e, RSL_cv cs _ q⟩
  | .own k, v, q => by
    simp only [cv]
    cases hk : lh s.h k with
    | none => simp only [RS]
    | some o =>
      cases o with
      | box t cs => simp only [RS]
      | rows t ss => simp only [RS]
      | mp R => simp only [RS]
      | row t e0 es =>
        simp only [RS] at q ⊢
        rw [q]
        exact row_reads h hk (sub_all h hG) (fun g hg => hG g ((h.ge k _ g hk hg).1.elim .inl fun x => .inr (.inr x)))
  | .ptr k o, v, q => by simp only [cv, RS]
  | .eptr k z i o, v, q => by simp only [cv, RS]
  | .fptr cs, v, q => by
    simp only [cv, RS] at q ⊢
    obtain ⟨ad, arr, t, fr, e, hs, hF, hb, q⟩ := q
    have hsub := sub_all h hG
    exact ⟨ad, arr, t, fr, e, hs, (hsub _ _ hF hb).1, hb, RdC.mono hsub _ _ _ q⟩
  | .fps cs, v, q => by
    simp only [cv, RS] at q ⊢
    obtain ⟨ad, arr, t, fr, e, hs, hF, hb, q⟩ := q
    have hsub := sub_all h hG
    exact ⟨ad, arr, t, fr, e, hs, (hsub _ _ hF hb).1, hb, by rw [cvL_len]; exact RSL_cv cs _ q⟩
  | .fn f cs, v, q => by simp only [cv, RS] at q ⊢; obtain ⟨vs, e, q⟩ := q; exact ⟨vs, e, RSL_cv cs _ q⟩
  | .mth f cs, v, q => by simp only [cv, RS] at q ⊢; obtain ⟨vs, e, q⟩ := q; exact ⟨vs, e, RSL_cv cs _ q⟩
  | .tup cs, v, q => by simp only [cv, RS] at q ⊢; obtain ⟨vs, e, q⟩ := q; exact ⟨vs, e, RSL_cv cs _ q⟩
  | .gd c x, v, q => by simp only [cv, RS] at q ⊢; exact ⟨fun e => RS_cv x v (q.1 e), q.2⟩
theorem RSL_cv : ∀ (xs : List S) (vs : List Value), RSL η (Fr E s.h η) w xs vs → RSL η' G w (cvL s.h xs) vs
  | [], vs, q => by simp only [cvL, RSL] at q ⊢; exact q
  | x :: xs, vs, q => by
    simp only [cvL, RSL] at q ⊢
    obtain ⟨v, l, e, h1, h2⟩ := q
    exact ⟨v, l, e, RS_cv x v h1, RSL_cv xs l h2⟩
end
end
/-- f called with xs returns what post says; fr: what it returns lies in blocks of its own -/
def Ct (P : Program) (T : World → Prop) (f : Nat) (xs : List S) (fr : Bool) (post : S → Prop) : Prop :=
  (∀ args w, (callFunc f args).run P w = .ok (.enter f args) w) ∧
  ∀ (F : Nat → Prop) (w : World) (vs : List Value), T w → RSL η0 F w xs vs → Calls P f vs.toArray w fun e w' => ∃ r v, e = .returned v ∧ post r ∧ RS η0 (fun b => w.heap.size ≤ b ∨ (fr = false ∧ F b)) w' r v ∧ Below w.heap.size w w'
theorem Ct.mono {P : Program} {T : World → Prop} {f : Nat} {xs : List S} {fr : Bool} {post post' : S → Prop} (h : Ct P T f xs fr post) (hp : ∀ r, post r → post' r) : Ct P T f xs fr post' :=
  ⟨h.1, fun F w vs hT hx => (h.2 F w vs hT hx).mono fun _ _ ⟨r, v, e, p, q⟩ => ⟨r, v, e, hp r p, q⟩⟩
/-- the world has grown: nothing of ours has turned -/
theorem Rel.grown {E : Env} {s : St} {a : Act} {w w' : World} {η : Nat → Value} (h : Rel E s a w η) (hb : Below w.heap.size w w') : Rel E s a w' η := by
  have := h.next (w' := w') (η' := η) (fun _ => false) (fun _ => false) [] (fun _ e => by cases e) (fun _ _ => rfl) (fun _ _ _ => rfl) (below_w h.bel hb) hb.size
    (fun b o ho _ => by rw [hb.block b (Array.getElem?_eq_some_iff.1 ho).1]; exact ho) (fun d o hd => by simp [lh] at hd) (fun d d' o o' _ hd => by simp [lh] at hd) (fun d o hd => by simp [lh] at hd)
  have e : ∀ H : Hp, killH (fun _ => false) (fun _ => false) H = H := by
    intro H
    induction H with
    | nil => rfl
    | cons q r ih => obtain ⟨i, x⟩ := q; simp only [killH, Bool.false_eq_true, if_false, killO_none, ih]
  rw [killT_none, e, List.nil_append] at this
  exact this
def stpL (s : St) (args : List Operand) : List S := args.map fun x => stp (ev s x)
def stcL (s : St) : List Operand → Prop
  | [] => True
  | x :: r => stc (ev s x) ∧ stcL s r
theorem RSL_ev {E : Env} {s : St} {a : Act} {w : World} {η : Nat → Value} (h : Rel E s a w η) : ∀ (args : List Operand), stcL s args → RSL η (Fr E s.h η) w (stpL s args) (args.map a.eval)
  | [], _ => by simp only [stpL, List.map_nil, RSL]
  | x :: r, c => by
    simp only [stpL, List.map_cons, RSL]
    exact ⟨_, _, rfl, RS_ev' h x c.1, RSL_ev h r c.2⟩
theorem RSL_append {η : Nat → Value} {F : Nat → Prop} {w : World} : ∀ {xs ys : List S} {us vs : List Value}, RSL η F w xs us → RSL η F w ys vs → RSL η F w (xs ++ ys) (us ++ vs)
  | [], ys, us, vs, h, k => by simp only [RSL] at h; subst h; simpa using k
  | x :: xs, ys, us, vs, h, k => by
    simp only [RSL, List.cons_append] at h ⊢
    obtain ⟨v, l, rfl, h1, h2⟩ := h
    exact ⟨v, l ++ vs, rfl, h1, RSL_append h2 k⟩
/-- the call's run -/
theorem call_run {E : Env} {s : St} {a : Act} {w : World} {η : Nat → Value} (h : Rel E s a w η) {o : Oper} {fx : Operand} {args : Array Operand} {ts : Array TypeId} {f : Nat} {caps : List S} (ho : o.op = .call { callee := .value fx, args := args, argTypes := ts }) (hf : stp (ev s fx) = .fn f caps) (c1 : stc (ev s fx)) (c2 : stcL s args.toList)
    (hent : ∀ args w, (callFunc f args).run E.P w = .ok (.enter f args) w) : ∃ vs : List Value, (execOp a.eval o).run E.P w = .ok (.enter f vs.toArray) w ∧ RSL η (Fr E s.h η) w (stpL s args.toList ++ caps) vs := by
  have rf := opd h hf c1
  simp only [RS] at rf
  obtain ⟨cs, hv, rc⟩ := rf
  refine ⟨args.toList.map a.eval ++ cs.toList, ?_, RSL_append (RSL_ev h _ c2) rc⟩
  unfold execOp
  have e : (args.toList.map a.eval ++ cs.toList).toArray = args.map a.eval ++ cs := by
    apply Array.ext'; simp
  rw [e]
  simp only [ho, resolve, hv, Deferred.ofValue, Sem.run_bind, Sem.run_pure, Result.andThen_ok, invoke, Array.empty_append, hent]
theorem back {E : Env} {s : St} {a : Act} {w w' : World} {η : Nat → Value} (h : Rel E s a w η) {fr : Bool} {F : Nat → Prop} (hF : fr = false → ∀ b, F b → Fr E s.h η b) {r : S} {v : Value} (hn : r.has allH = false) (q : RS η0 (fun b => w.heap.size ≤ b ∨ (fr = false ∧ F b)) w' r v) : RS η (Fr E s.h η) w' r v := by
  refine RS.turn (p := allH) (η := η0) (fun j e => by cases e) r v hn (RS.mono (fun b o hb ho => ⟨?_, ho⟩) r v q)
  rcases hb with hb | ⟨h1, hb⟩
  · exact ⟨.inl (by have := h.bel.size; omega), fun k o hk e => by have := (h.ge k o b hk e).2; omega⟩
  · exact hF h1 b hb
/-- a call by its contract -/
theorem CallN_ct {E : Env} {ops : List Oper} {o : Oper} {s : St} {rest : List Oper} {K : St → Prop} {fx : Operand} {args : Array Operand} {ts : Array TypeId} {f : Nat} {caps xs : List S} {d : Nat} {fr : Bool} {post : S → Prop}
    (C : Ct E.P E.T f xs fr post) (ho : o.op = .call { callee := .value fx, args := args, argTypes := ts }) (hd : o.dst = some d) (hf : stp (ev s fx) = .fn f caps) (c1 : stc (ev s fx)) (c2 : stcL s args.toList)
    (hxs : cvL s.h (stpL s args.toList ++ caps) = xs) (hfr : fr = true ∨ S.hasL allH (stpL s args.toList ++ caps) = false) (hdn : d < E.n)
    (hr : ∀ r, post r → r.has allH = false ∧ SQ E ops rest ⟨(d, r) :: s.t, s.h⟩ K) : CallN E ops o none s rest K := by
  intro _ hg Q a w η h hK
  obtain ⟨vs, h1, h2⟩ := call_run h ho hf c1 c2 C.1
  refine wpList_plain (hg rfl) fun K' hK' => ?_
  unfold Oper.wp
  rw [h1]
  show Calls E.P f vs.toArray w _
  have hT : E.T w := h.hT
  have key : ∃ F, RSL η0 F w xs vs ∧ (fr = false → ∀ b, F b → Fr E s.h η b) := by
    cases hfr' : fr with
    | true => exact ⟨fun _ => True, hxs ▸ RSL_cv h (fun _ _ => trivial) _ _ h2, fun e => by cases e⟩
    | false =>
      have hn : S.hasL allH (stpL s args.toList ++ caps) = false := by
        rcases hfr with e | e
        · rw [hfr'] at e; cases e
        · exact e
      refine ⟨Fr E s.h η, ?_, fun _ b hb => hb⟩
      have e : ∀ xs : List S, S.hasL allH xs = false → cvL s.h xs = xs := cvL_id s.h
      rw [e _ hn] at hxs
      rw [← hxs]
      exact RSL.turn (p := allH) (fun j e => by cases e) _ _ hn h2
  obtain ⟨F, h3, h4⟩ := key
  refine (C.2 F w vs hT h3).mono ?_
  rintro e w' ⟨r, v, rfl, hp, hv, hb⟩
  obtain ⟨hn, hs⟩ := hr r hp
  refine hK' _ _ (SQ_ok hK rest _ hs _ _ η ?_)
  rw [hd]
  exact (h.grown hb).put hdn (back h h4 hn hv)
where
  cvL_id (H : Hp) : ∀ xs : List S, S.hasL allH xs = false → cvL H xs = xs
  | [], _ => by simp only [cvL]
  | x :: xs, e => by
    simp only [S.hasL, Bool.or_eq_false_iff] at e
    simp only [cvL, cvL_id H xs e.2, cv_id H x e.1]
  cv_id (H : Hp) : ∀ x : S, x.has allH = false → cv H x = x
  | .any, _ => by simp only [cv]
  | .d x, _ => by simp only [cv]
  | .agg cs, e => by simp only [cv, S.has] at e ⊢; rw [cvL_id H cs e]
  | .own k, e => by simp [S.has, allH] at e
  | .ptr k o, e => by simp [S.has, allH] at e
  | .eptr k z i o, e => by simp [S.has, allH] at e
  | .fptr cs, _ => by simp only [cv]
  | .fps cs, e => by simp only [cv, S.has] at e ⊢; rw [cvL_id H cs e]
  | .fn f cs, e => by simp only [cv, S.has] at e ⊢; rw [cvL_id H cs e]
  | .mth f cs, e => by simp only [cv, S.has] at e ⊢; rw [cvL_id H cs e]
  | .tup cs, e => by simp only [cv, S.has] at e ⊢; rw [cvL_id H cs e]
  | .gd c x, e => by simp only [cv, S.has] at e ⊢; rw [cv_id H x e]
/-- a call under a guard -/
theorem CallN_cg {E : Env} {ops : List Oper} {o : Oper} {s : St} {rest : List Oper} {K : St → Prop} {fx : Operand} {args : Array Operand} {ts : Array TypeId} {f : Nat} {caps xs : List S} {d : Nat} {fr g : Bool} {post : S → Prop}
    (C : g = true → Ct E.P E.T f xs fr post) (ho : o.op = .call { callee := .value fx, args := args, argTypes := ts }) (hd : o.dst = some d) (hf : stp (ev s fx) = .fn f caps) (c1 : g = true → stc (ev s fx)) (c2 : g = true → stcL s args.toList)
    (hxs : g = true → cvL s.h (stpL s args.toList ++ caps) = xs) (hfr : fr = true) (hdn : d < E.n)
    (hr : ∀ r, (g = true → post r) → (g = true → r.has allH = false) ∧ SQ E ops rest ⟨(d, .gd g r) :: s.t, s.h⟩ K) : CallN E ops o (some g) s rest K := by
  intro hw _ Q a w η h hK
  have hw := hw g rfl a w η h
  unfold wpList
  cases g with
  | false =>
    rw [if_neg (by rw [hw]; decide), hd]
    exact SQ_ok hK rest _ (hr .any (fun e => by cases e)).2 _ _ η (h.put hdn (RS_gd.2 ⟨fun e => (by cases e), fun _ => rfl⟩))
  | true =>
    rw [if_pos hw]
    refine .inl ?_
    have C := C rfl
    obtain ⟨vs, h1, h2⟩ := call_run h ho hf (c1 rfl) (c2 rfl) C.1
    unfold Oper.wp
    rw [h1]
    show Calls E.P f vs.toArray w _
    have hT : E.T w := h.hT
    have h3 : RSL η0 (fun _ => True) w xs vs := hxs rfl ▸ RSL_cv h (fun _ _ => trivial) _ _ h2
    refine (C.2 _ w vs hT h3).mono ?_
    rintro e w' ⟨r, v, rfl, hp, hv, hb⟩
    obtain ⟨hn, hs⟩ := hr r (fun _ => hp)
    refine SQ_ok hK rest _ hs _ _ η ?_
    rw [hd]
    exact (h.grown hb).put hdn (RS_gd.2 ⟨fun _ => back h (fr := fr) (F := fun _ => True) (fun e => by rw [hfr] at e; cases e) (hn rfl) hv, fun e => by cases e⟩)
/-! ## the code around the regions -/
def Tr (E : Env) (c : Code) (Q : Exit → St → Prop) (s : St) : Prop := ∀ a w η, Rel E s a w η → c.wp E.P (fun e a' w' => ∃ s' η', Rel E s' a' w' η' ∧ Q e s') a w
def thenS (n : St → Prop) (Q : Exit → St → Prop) : Exit → St → Prop
  | .normal, s => n s
  | e, s => Q e s
def inBlk (id : Nat) (Q : Exit → St → Prop) : Exit → St → Prop
  | .exit i, s => if i = id then Q .normal s else Q (.exit i) s
  | e, s => Q e s
section code
variable {E : Env} {Q : Exit → St → Prop} {s : St}
theorem Tr.region {id : Nat} {ops : List Oper} (h : SQ E ops ops s (Q .normal)) : Tr E (.region id ops.toArray false) Q s := fun a w η hR =>
  wp_region_lit (SQ_ok (fun s' a' w' η' h1 h2 => ⟨s', η', h1, h2⟩) ops s h a w η hR)
theorem Tr.seq {x y : Code} (h : Tr E x (thenS (Tr E y Q) Q) s) : Tr E (.seq x y) Q s := fun a w η hR => by
  refine wp_seq (wp_mono (h a w η hR) ?_)
  rintro e a' w' ⟨s', η', h1, h2⟩
  cases e <;> first | exact h2 a' w' η' h1 | exact ⟨s', η', h1, h2⟩
theorem Tr.skip (h : Q .normal s) : Tr E .skip Q s := fun a w η hR => wp_skip ⟨s, η, hR, h⟩
theorem Tr.label {l : Nat} (h : Q .normal s) : Tr E (.label l) Q s := fun a w η hR => wp_label ⟨s, η, hR, h⟩
theorem Tr.exit {l : Nat} (h : Q (.exit l) s) : Tr E (.exit l) Q s := fun a w η hR => wp_exit ⟨s, η, hR, h⟩
theorem Tr.goto {l : Nat} (h : Q (.goto l) s) : Tr E (.goto l) Q s := fun a w η hR => wp_goto ⟨s, η, hR, h⟩
theorem Tr.ret (h : Q .ret s) : Tr E .ret Q s := fun a w η hR => wp_ret ⟨s, η, hR, h⟩
theorem Tr.block {id : Nat} {c : Code} (h : Tr E c (inBlk id Q) s) : Tr E (.block id c) Q s := fun a w η hR => by
  refine wp_block (wp_mono (h a w η hR) ?_)
  rintro e a' w' ⟨s', η', h1, h2⟩
  cases e <;> try exact ⟨s', η', h1, h2⟩
  case exit i =>
    simp only [inBlk] at h2
    simp only [Exit.inBlock]
    split
    · rename_i e; rw [if_pos e] at h2; exact ⟨s', η', h1, h2⟩
    · rename_i e; rw [if_neg e] at h2; exact ⟨s', η', h1, h2⟩
theorem Tr.cond {c : Operand} {x y : Code} {b : Bool} (hc : ev s c = .d (.b b)) (h1 : b = true → Tr E x Q s) (h2 : b = false → Tr E y Q s) : Tr E (.cond c x y) Q s := fun a w η hR => by
  have hv : a.eval c = .bool b := by simpa only [hc, RS, Rd] using RS_ev hR c
  refine wp_cond hv ?_
  cases b with
  | true => exact h1 rfl a w η hR
  | false => exact h2 rfl a w η hR
theorem Tr.mono {c : Code} {Q' : Exit → St → Prop} (h : Tr E c Q s) (hq : ∀ e s, Q e s → Q' e s) : Tr E c Q' s := fun a w η hR =>
  wp_mono (h a w η hR) fun e a' w' ⟨s', η', h1, h2⟩ => ⟨s', η', h1, hq e s' h2⟩
/-- s says no less than s' -/
def Le (E : Env) (s s' : St) : Prop := ∀ a w η, Rel E s a w η → ∃ η', Rel E s' a w η'
theorem Le.refl (s : St) : Le E s s := fun a w η h => ⟨η, h⟩
theorem Le.trans {a b c : St} (h : Le E a b) (k : Le E b c) : Le E a c := fun x w η hR => let ⟨η', h'⟩ := h x w η hR; k x w η' h'
theorem Tr.le {c : Code} {s' : St} (hl : Le E s s') (h : Tr E c Q s') : Tr E c Q s := fun a w η hR => let ⟨η', hR'⟩ := hl a w η hR; h a w η' hR'
/-- a loop: each round hands the invariant on at a smaller number -/
theorem Tr.loop {c : Code} (J : Nat → St → Prop) (n0 : Nat) (h0 : ∃ s', Le E s s' ∧ J n0 s') (hr : ∀ n s, J n s → Tr E c (thenS (fun s' => ∃ n' s'', n' < n ∧ Le E s' s'' ∧ J n' s'') Q) s) : Tr E (.loop c) Q s := fun a w η hR => by
  obtain ⟨s', hl, hJ⟩ := h0
  obtain ⟨η', hR'⟩ := hl a w η hR
  refine wp_loop_ghost (fun n a w => ∃ s η, Rel E s a w η ∧ J n s) n0 ⟨s', η', hR', hJ⟩ ?_
  rintro n a w ⟨s, η, h1, h2⟩
  refine wp_mono (hr n s h2 a w η h1) ?_
  rintro e a' w' ⟨s1, η1, h3, h4⟩
  cases e <;> try exact ⟨s1, η1, h3, h4⟩
  obtain ⟨n', s2, h5, h6, h7⟩ := h4
  obtain ⟨η2, h8⟩ := h6 a' w' η1 h3
  exact ⟨n', h5, s2, η2, h8, h7⟩
end code
/-! ## forgetting -/
/-- t' knows of t's slots -/
def knows (t : Tm) : Tm → Prop
  | [] => True
  | (i, x) :: r => (lk t i = x ∨ x = .any) ∧ knows t r
theorem knows_lk {t : Tm} : ∀ {t' : Tm}, knows t t' → ∀ i, lk t i = lk t' i ∨ lk t' i = .any
  | [], _, i => .inr rfl
  | (j, x) :: r, h, i => by
    simp only [lk]
    by_cases hj : j = i
    · subst hj; rw [if_pos rfl]; exact h.1
    · rw [if_neg hj]; exact knows_lk h.2 i
theorem Le.forget {E : Env} {s : St} {t' : Tm} (h : knows s.t t') : Le E s ⟨t', s.h⟩ := fun a w η hR =>
  ⟨η, hR.sz, hR.df, fun i => by
    rcases knows_lk h i with e | e
    · show RS η _ w (lk t' i) _
      rw [← e]; exact hR.tm i
    · show RS η _ w (lk t' i) _
      rw [e]; simp only [RS], hR.ob, hR.ge, hR.sep, hR.bel, hR.pn⟩
theorem Le.freeze {E : Env} {s : St} (k : Nat) : Le E s (frz k s) := fun a w η hR => ⟨η, hR.frz k⟩
/-! ## the end of a function: marks of loops over functions are shut -/
def shutL : List Nat → World → World
  | [], w => w
  | D :: r, w => shutL r (w.putObj D (.deferred none))
theorem shutL_same : ∀ (Ds : List Nat) (w : World), (shutL Ds w).os = w.os ∧ (shutL Ds w).tape = w.tape ∧ (shutL Ds w).output = w.output ∧ (shutL Ds w).heap.size = w.heap.size ∧ ∀ b, b ∉ Ds → (shutL Ds w).heap[b]? = w.heap[b]?
  | [], w => ⟨rfl, rfl, rfl, rfl, fun _ _ => rfl⟩
  | D :: r, w => by
    obtain ⟨h1, h2, h3, h4, h5⟩ := shutL_same r (w.putObj D (.deferred none))
    refine ⟨h1, h2, h3, h4.trans World.putObj_size, fun b hb => ?_⟩
    simp only [List.mem_cons, not_or] at hb
    exact (h5 b hb.2).trans (World.putObj_heap_other hb.1)
theorem leaves_shut {P : Program} {fn : Func} {tmps : Array Value} {R : Ending → World → Prop} : ∀ (Ds : List Nat) (w : World), Ds.Nodup → (∀ D ∈ Ds, w.heap[D]? = some (.deferred (some []))) →
    (∃ v, (results fn tmps).run P (shutL Ds w) = .ok v (shutL Ds w) ∧ R (.returned v) (shutL Ds w)) → LeavesInM Fence.wide 0 P fn tmps R (Ds.map mkD) .returning w
  | [], w, _, _, h => h
  | D :: r, w, hn, hD, h => by
    rw [List.nodup_cons] at hn
    refine ⟨fun e => (by cases e), .inl ⟨D, _, rfl, run_takeDeferred (hD D (List.mem_cons_self ..)), leaves_shut r _ hn.2 (fun D' hD' => ?_) h⟩⟩
    have hne : D' ≠ D := fun e => hn.1 (by rw [← e]; exact hD')
    rw [World.putObj_heap_other hne]
    exact hD D' (List.mem_cons_of_mem _ hD')
theorem calls_end {P : Program} {f : FuncId} {fn : Func} {c : Code} {args : Array Value} {w : World} {R : Ending → World → Prop} (hf : P.funcs[f]? = some fn) (hb : fn.body = some c)
    (h : c.wp P (fun e a' w' => (e = .normal ∨ e = .ret) ∧ ∃ Ds : List Nat, a'.defers = Ds.map mkD ∧ Ds.Nodup ∧ (∀ D ∈ Ds, w'.heap[D]? = some (.deferred (some []))) ∧ ∃ v, (results fn a'.tmps).run P (shutL Ds w') = .ok v (shutL Ds w') ∧ R (.returned v) (shutL Ds w'))
      { tmps := args ++ Array.replicate (fn.ntmps - args.size) undef, defers := [] } w) : Calls P f args w R :=
  callsIn_wide.1 (callsIn_of_wp_marks (F := Fence.wide) (n := 0) hf hb trivial (wpIn_wide.2 (wp_mono h fun e a' w' ⟨he, Ds, h1, h2, h3, h4⟩ => by
    rcases he with rfl | rfl
    · show LeavesInM Fence.wide 0 P fn a'.tmps R a'.defers .returning w'
      rw [h1]; exact leaves_shut Ds w' h2 h3 h4
    · show LeavesInM Fence.wide 0 P fn a'.tmps R a'.defers .returning w'
      rw [h1]; exact leaves_shut Ds w' h2 h3 h4)))
theorem ROb0.monoC {η : Nat → Value} {F F' : Nat → Prop} {w w' : World} (hs : SubC F w F' w') {k : Nat} {o : Obj'} (hb : ∀ b ob, blk (η k) = some b → w.heap[b]? = some ob → w'.heap[b]? = some ob) (r : ROb0 η F w k o) : ROb0 η F' w' k o := by
  cases o with
  | box t cs =>
    obtain ⟨g, vs, h1, h2, h3⟩ := r
    exact ⟨g, vs, h1, hb g _ (by rw [h1]; rfl) h2, RSL.monoC hs _ _ h3⟩
  | mp R =>
    obtain ⟨g, ob, h1, h2, h3⟩ := r
    exact ⟨g, ob, h1, hb g _ (by rw [h1]; rfl) h2, h3⟩
  | rows t ss =>
    obtain ⟨xs, h1, h3⟩ := r
    refine ⟨xs, ?_, RSL.monoC hs _ _ h3⟩
    obtain ⟨h4, h5⟩ := h1
    refine ⟨h4, ?_⟩
    rcases h5 with h5 | ⟨g, cap, cur, e, hg, hh, r⟩
    · exact .inl h5
    · exact .inr ⟨g, cap, cur, e, hg, hb g _ (by rw [e]; rfl) hh, r⟩
  | row t e0 es =>
    obtain ⟨xs, h1, h3⟩ := r
    refine ⟨xs, ?_, RdE.monoC hs _ _ _ _ h3⟩
    obtain ⟨h4, h5⟩ := h1
    refine ⟨h4, ?_⟩
    rcases h5 with h5 | ⟨g, cap, cur, e, hg, hh, r⟩
    · exact .inl h5
    · exact .inr ⟨g, cap, cur, e, hg, hb g _ (by rw [e]; rfl) hh, r⟩
theorem Rel.shut {E : Env} {s : St} {a : Act} {w : World} {η : Nat → Value} (h : Rel E s a w η) : ∃ Ds : List Nat, a.defers = Ds.map mkD ∧ Ds.Nodup ∧ (∀ D ∈ Ds, w.heap[D]? = some (.deferred (some []))) ∧ Rel E s ⟨a.tmps, []⟩ (shutL Ds w) η := by
  obtain ⟨Ds, e, hn, hD⟩ := h.df
  obtain ⟨s1, s2, s3, s4, s5⟩ := shutL_same Ds w
  have hown : ∀ k o g, lh s.h k = some o → blk (η k) = some g → g ∉ Ds := fun k o g hk hg hm => (hD g hm).2.1.2 k o hk hg
  have hs : SubC (Fr E s.h η) w (Fr E s.h η) (shutL Ds w) := fun b cs t fr hF hh => ⟨hF, by
    rw [s5 b fun hm => by have := (hD b hm).2.2; rw [hh] at this; cases this]; exact hh⟩
  refine ⟨Ds, e, hn, fun D hm => (hD D hm).2.2, h.sz, Marks.nil _ _ _, fun i => RS.monoC hs _ _ (h.tm i), fun k o hk => (h.ob k o hk).monoC hs fun b ob hb ho => by rw [s5 b (hown k o b hk hb)]; exact ho, fun k o g hk hg => by rw [s4]; exact h.ge k o g hk hg, h.sep, ?_, h.pn⟩
  exact ⟨s1.trans h.bel.os, s2.trans h.bel.tape, s3.trans h.bel.output, by rw [s4]; exact h.bel.size, fun k hk hw => by
    rw [s5 k fun hm => by have := (hD k hm).1; omega]; exact h.bel.block k hk hw⟩
/-! ## a whole function -/
def initT : Nat → List S → Tm
  | _, [] => []
  | i, x :: r => (i, x) :: initT (i + 1) r
theorem lk_initT : ∀ (xs : List S) (k i : Nat), lk (initT k xs) i = if k ≤ i then xs.getD (i - k) .any else .any
  | [], k, i => by simp [initT, lk]
  | x :: r, k, i => by
    simp only [initT, lk]
    by_cases h : k = i
    · subst h; simp
    · rw [if_neg h, lk_initT r (k + 1) i]
      by_cases h2 : k ≤ i
      · rw [if_pos h2, if_pos (by omega)]
        rw [show i - k = (i - (k + 1)) + 1 by omega]
        simp [List.getD]
      · rw [if_neg h2, if_neg (by omega)]
/-- what the results say, and what must hold to read them -/
def resV (P : Program) (s : St) : ResultVar → S × Prop
  | .tmp t => (lk s.t t, True)
  | .cell p t => ((loadS P s t (lk s.t p)).1, (loadS P s t (lk s.t p)).2)
def resL (P : Program) (s : St) : List ResultVar → List S × Prop
  | [] => ([], True)
  | r :: rs => ((resV P s r).1 :: (resL P s rs).1, (resV P s r).2 ∧ (resL P s rs).2)
def oneS : List S → S
  | [x] => x
  | xs => .tup xs
def resM (a : Act) : ResultVar → Sem Value
  | .tmp t => pure (a.tmps.getD t undef)
  | .cell p t => do loadVar t (← asAddr (a.tmps.getD p undef))
theorem resL_ok {E : Env} {s : St} {a : Act} {w : World} {η : Nat → Value} (h : Rel E s a w η) : ∀ (rs : List ResultVar), (resL E.P s rs).2 →
    ∃ vs : List Value, (rs.mapM (resM a)).run E.P w = .ok vs w ∧ RSL η (Fr E s.h η) w (resL E.P s rs).1 vs
  | [], _ => ⟨[], rfl, by simp only [resL, RSL]⟩
  | r :: rs, hc => by
    simp only [resL] at hc ⊢
    obtain ⟨vs, h1, h2⟩ := resL_ok h rs hc.2
    cases r with
    | tmp t =>
      refine ⟨a.tmps.getD t undef :: vs, ?_, ?_⟩
      · simp only [List.mapM_cons, resM, Sem.run_bind, Sem.run_pure, Result.andThen_ok, h1]
      · simp only [resV, RSL]
        exact ⟨_, _, rfl, h.tm t, h2⟩
    | cell p t =>
      obtain ⟨v, h3, h4⟩ := load_ok h (x := .tmp p) (t := t) (by simpa only [ev, resV] using hc.1)
      have h4 := h4 w (fun _ _ _ hb => hb)
      refine ⟨v :: vs, ?_, ?_⟩
      · have e : (do loadVar t (← asAddr (a.tmps.getD p undef)) : Sem Value).run E.P w = .ok v w := by
          simp only [Instr.loadAt, Act.eval] at h4
          cases hq : a.tmps.getD p undef <;> rw [hq] at h4 <;> try (simp [Instr.sureAddr, stuck, Sem.run] at h4; done)
          rename_i ad
          cases ad with
          | none => simp [Instr.sureAddr, stuck, Sem.run] at h4
          | some ad => simpa [Instr.sureAddr, asAddr] using h4
        have e' : (resM a (.cell p t)).run E.P w = .ok v w := e
        simp only [List.mapM_cons, e', Sem.run_bind, Sem.run_pure, Result.andThen_ok, h1]
      · simp only [resV, RSL]
        exact ⟨_, _, rfl, by simpa only [ev, resV] using h3, h2⟩
theorem res_ok {E : Env} {s : St} {a : Act} {w : World} {η : Nat → Value} (h : Rel E s a w η) {fn : Func} (hc : (resL E.P s fn.results.toList).2) : ∃ v, (results fn a.tmps).run E.P w = .ok v w ∧ RS η (Fr E s.h η) w (oneS (resL E.P s fn.results.toList).1) v := by
  obtain ⟨vs, h1, h2⟩ := resL_ok h fn.results.toList hc
  have hrun : (results fn a.tmps).run E.P w = .ok (if h : vs.toArray.size = 1 then vs.toArray[0] else .tuple vs.toArray) w := by
    unfold results
    have e : (fun x : ResultVar => match x with | .tmp t => (pure (a.tmps.getD t undef) : Sem Value) | .cell p t => do loadVar t (← asAddr (a.tmps.getD p undef))) = resM a := by
      funext x; cases x <;> rfl
    rw [Array.mapM_eq_mapM_toList]
    have e2 := congrArg (fun f => (List.toArray <$> fn.results.toList.mapM f : Sem (Array Value))) e
    rw [Sem.run_bind]
    have e3 : (List.toArray <$> fn.results.toList.mapM (resM a) : Sem (Array Value)).run E.P w = .ok vs.toArray w := by
      rw [map_eq_pure_bind, Sem.run_bind, h1]; rfl
    rw [← e2] at e3
    refine (congrArg (fun r => Result.andThen r _) e3).trans ?_
    rfl
  refine ⟨_, hrun, ?_⟩
  generalize (resL E.P s fn.results.toList).1 = xs at h2
  have hl := RSL_len h2
  match xs, vs, h2, hl with
  | [], [], _, _ => simp only [oneS, RS]; exact ⟨#[], by simp, by simp only [RSL]⟩
  | [x], [v], h2, _ =>
    simp only [RSL] at h2
    obtain ⟨v', l, e, h3, h4⟩ := h2
    obtain ⟨rfl, rfl⟩ := List.cons.inj e
    simpa [oneS] using h3
  | x :: y :: r, u :: v :: l, h2, _ =>
    simp only [oneS, RS]
    exact ⟨(u :: v :: l).toArray, by simp, h2⟩
mutual
/-- no row in it -/
def flatD : D → Prop
  | .row _ _ => False
  | _ => True
end
def flatE (es : List (List D)) : Prop := ∀ e ∈ es, ∀ d ∈ e, flatD d
mutual
/-- it reads no block but the function's own -/
def freshS (H : Hp) : S → Prop
  | .any => True
  | .d x => flatD x
  | .agg cs => freshL H cs
  | .own h => match lh H h with
    | some (.row _ _ es) => flatE es
    | _ => True
  | .ptr _ _ => True
  | .eptr _ _ _ _ => True
  | .fptr _ => False
  | .fps _ => False
  | .fn _ cs => freshL H cs
  | .mth _ cs => freshL H cs
  | .tup cs => freshL H cs
  | .gd _ _ => False
def freshL (H : Hp) : List S → Prop
  | [] => True
  | c :: cs => freshS H c ∧ freshL H cs
end
theorem flat_any {F F' : Nat → Prop} {w w' : World} {x : D} {v : Value} (hx : flatD x) (r : Rd F w x v) : Rd F' w' x v := by
  cases x <;> simp only [flatD, Rd] at hx r ⊢ <;> exact r
theorem flat_row {F F' : Nat → Prop} {w w' : World} {z : Nat} {cs : Array Value} {es : List (List D)} {o : Nat} (hx : flatE es) (r : RdE F w z cs o es) : RdE F' w' z cs o es :=
  RdE.of fun j e hj => by
    obtain ⟨h1, h2⟩ := r.get j e hj
    refine ⟨h1, RdC.of fun k d hk => ?_⟩
    obtain ⟨v, h3, h4⟩ := h2.get k d hk
    exact ⟨v, h3, flat_any (hx e (List.mem_of_getElem? hj) d (List.mem_of_getElem? hk)) h4⟩
section
variable {E : Env} {s : St} {a : Act} {w : World} {η η' : Nat → Value} (h : Rel E s a w η) {G : Nat → Prop} (hG : ∀ b, E.w0.heap.size ≤ b ∨ E.W b → G b)
include h hG
mutual
theorem RS_fresh : ∀ (x : S) (v : Value), freshS s.h x → RS η (Fr E s.h η) w x v → RS η' G w (cv s.h x) v
  | .any, v, f, q => by simp only [cv, RS]
  | .d x, v, f, q => by simp only [cv, RS, freshS] at f q ⊢; exact flat_any f q
  | .agg cs, v, f, q => by simp only [cv, RS, freshS] at f q ⊢; obtain ⟨vs, e, q⟩ := q; exact ⟨vs, e, RSL_fresh cs _ f q⟩
  | .own k, v, f, q => by
    simp only [cv]
    cases hk : lh s.h k with
    | none => simp only [RS]
    | some o =>
      cases o with
      | box t cs => simp only [RS]
      | rows t ss => simp only [RS]
      | mp R => simp only [RS]
      | row t e0 es =>
        simp only [freshS, hk] at f
        simp only [RS] at q ⊢
        rw [q]
        obtain ⟨xs, ho, r⟩ := h.ob k _ hk
        simp only [Rd]
        rcases ho.2 with ⟨hv, hn⟩ | ⟨g, cap, cur, hv, hb, hh, hc, hm, hcs, ht⟩
        · have : es = [] := List.eq_nil_of_length_eq_zero hn
          subst this
          exact ⟨none, 0, hv, Nat.le_refl _, .inl ⟨rfl, fun _ => rfl⟩⟩
        · refine ⟨_, cap, hv, hc, .inr ⟨_, cur, t, (0, 0), rfl, rfl, hG g (h.ge k _ g hk (by rw [hv]; rfl)).1, hh, ?_⟩⟩
          refine RdE.congr (flat_row (w' := w) f r) fun j hj => ?_
          simp only [Nat.zero_add, List.getElem?_toArray]
          rw [← ht, List.getElem?_take, if_pos hj]
          simp
  | .ptr k o, v, f, q => by simp only [cv, RS]
  | .eptr k z i o, v, f, q => by simp only [cv, RS]
  | .fptr cs, v, f, q => by simp only [freshS] at f
  | .fps cs, v, f, q => by simp only [freshS] at f
  | .fn _ cs, v, f, q => by simp only [cv, RS, freshS] at f q ⊢; obtain ⟨vs, e, q⟩ := q; exact ⟨vs, e, RSL_fresh cs _ f q⟩
  | .mth _ cs, v, f, q => by simp only [cv, RS, freshS] at f q ⊢; obtain ⟨vs, e, q⟩ := q; exact ⟨vs, e, RSL_fresh cs _ f q⟩
  | .tup cs, v, f, q => by simp only [cv, RS, freshS] at f q ⊢; obtain ⟨vs, e, q⟩ := q; exact ⟨vs, e, RSL_fresh cs _ f q⟩
  | .gd c x, v, f, q => by simp only [freshS] at f
theorem RSL_fresh : ∀ (xs : List S) (vs : List Value), freshL s.h xs → RSL η (Fr E s.h η) w xs vs → RSL η' G w (cvL s.h xs) vs
  | [], vs, f, q => by simp only [cvL, RSL] at q ⊢; exact q
  | x :: xs, vs, f, q => by
    simp only [cvL, RSL, freshL] at f q ⊢
    obtain ⟨v, l, e, h1, h2⟩ := q
    exact ⟨v, l, e, RS_fresh x v f.1 h1, RSL_fresh xs l f.2 h2⟩
end
end
/-- how a function may end -/
def RetQ (P : Program) (rs : List ResultVar) (fr : Bool) (post : S → Prop) : Exit → St → Prop
  | .normal, s | .ret, s => (resL P s rs).2 ∧ (fr = true → freshS s.h (oneS (resL P s rs).1)) ∧ post (cv s.h (oneS (resL P s rs).1))
  | _, _ => False
theorem enters' {P : Program} {f : FuncId} {fn : Func} (hf : P.funcs[f]? = some fn) (hname : (fn.name == "runtime.NumGoroutine") = false) (hb : fn.body.isSome = true) (args : Array Value) (w : World) : (callFunc f args).run P w = .ok (.enter f args) w := by
  unfold callFunc
  have hb' : fn.body.isNone = false := by cases h : fn.body <;> simp [h] at hb ⊢
  rw [Sem.run_bind]
  show Result.andThen (.ok P w) _ = _
  rw [Result.andThen_ok, hf]
  simp only [hname, hb', Bool.false_eq_true, if_false]
  rfl
theorem Ct_of {P : Program} {T : World → Prop} {f : FuncId} {fn : Func} {c : Code} {xs : List S} {fr : Bool} {post : S → Prop} (Tm : TP T) (hf : P.funcs[f]? = some fn) (hb : fn.body = some c) (hname : (fn.name == "runtime.NumGoroutine") = false) {n : Nat} (hnn : fn.ntmps = n) (hn : (xs.length ≤ n) = True) {rs : List ResultVar} (hrs : fn.results.toList = rs)
    (h : ∀ E : Env, E.P = P → E.n = n → E.T = T → Tr E c (RetQ P rs fr post) ⟨initT 0 xs, []⟩) : Ct P T f xs fr post := by
  subst hnn hrs
  replace hn := of_eq_true hn
  replace h := fun w0 F T0 => h ⟨P, w0, F, fn.ntmps, T, Tm, T0, fun _ => False, fun _ h => h.elim, fun _ => none, fun _ _ => rfl⟩ rfl rfl rfl
  refine ⟨enters' hf hname (by rw [hb]; rfl), fun F w vs hT hx => ?_⟩
  have hl := RSL_len hx
  refine calls_end hf hb (wp_mono (h w F hT _ w η0 ⟨?_, Marks.nil _ _ _, ?_, ?_, ?_, ?_, Bel.refl _ _, fun _ _ e => by cases e⟩) ?_)
  · simp; omega
  · intro i
    show RS η0 _ w (lk (initT 0 xs) i) _
    rw [lk_initT, if_pos (Nat.zero_le _), Nat.sub_zero]
    have hsub : Sub F w (Fr ⟨P, w, F, fn.ntmps, T, Tm, hT, fun _ => False, fun _ h => h.elim, fun _ => none, fun _ _ => rfl⟩ [] η0) w := fun b o hb ho => ⟨⟨.inr (.inl hb), fun k o' hk => by simp [lh] at hk⟩, ho⟩
    by_cases hi : i < xs.length
    · obtain ⟨v, h1, h2⟩ := RSL_get hx i xs[i] (by simp [hi])
      have : (vs.toArray ++ Array.replicate (fn.ntmps - vs.toArray.size) undef).getD i undef = v := by
        rw [Array.getD_eq_getD_getElem?, Array.getElem?_append_left (by simp; omega)]
        simp [h1]
      rw [this, List.getD_eq_getElem?_getD]
      simp only [hi, List.getElem?_eq_getElem, Option.getD_some]
      exact RS.mono hsub _ _ h2
    · have : xs.getD i .any = .any := by simp [List.getD, Nat.le_of_not_lt hi]
      rw [this]; simp only [RS]
  · intro k o hk; simp [lh] at hk
  · intro k o g hk; simp [lh] at hk
  · intro k k' o o' _ hk; simp [lh] at hk
  · rintro e a' w1 ⟨s', η', hR, hq⟩
    obtain ⟨Ds, e1, e2, e3, hR⟩ := hR.shut
    generalize hw : shutL Ds w1 = w' at hR
    replace hw := hw.symm
    have fin : (resL P s' fn.results.toList).2 ∧ (fr = true → freshS s'.h (oneS (resL P s' fn.results.toList).1)) ∧ post (cv s'.h (oneS (resL P s' fn.results.toList).1)) →
        ∃ v, (results fn a'.tmps).run P w' = .ok v w' ∧ ∃ r v', Ending.returned v = .returned v' ∧ post r ∧ RS η0 (fun b => w.heap.size ≤ b ∨ (fr = false ∧ F b)) w' r v' ∧ Below w.heap.size w w' := by
      rintro ⟨h1, h2, h3⟩
      obtain ⟨v, h4, h5⟩ := res_ok hR h1
      refine ⟨v, h4, _, v, rfl, h3, ?_, hR.bel.below fun _ h => h⟩
      cases hfr : fr with
      | true => exact RS_fresh hR (fun b hb => hb.elim .inl fun x => x.elim) _ _ (h2 hfr) h5
      | false => exact RS_cv hR (fun b hb => by
          rcases hb with hb | hb | hb
          · exact .inl hb
          · exact .inr ⟨rfl, hb⟩
          · exact hb.elim) _ _ h5
    cases e <;> simp only [RetQ] at hq
    · exact ⟨.inl rfl, Ds, e1, e2, e3, by rw [← hw]; exact fin hq⟩
    · exact ⟨.inr rfl, Ds, e1, e2, e3, by rw [← hw]; exact fin hq⟩
/-- likewise, where a table of the program is read: what it returns lies in blocks of its own -/
theorem Ct_ofG {P : Program} {T : World → Prop} {f : FuncId} {fn : Func} {c : Code} {xs : List S} (g0 : Nat) {post : S → Prop} (Tm : TP T) (hf : P.funcs[f]? = some fn) (hb : fn.body = some c) (hname : (fn.name == "runtime.NumGoroutine") = false) {n : Nat} (hnn : fn.ntmps = n) (hn : (xs.length ≤ n) = True) {rs : List ResultVar} (hrs : fn.results.toList = rs)
    (h : ∀ E : Env, E.P = P → E.n = n → E.T = T → E.F g0 → Tr E c (RetQ P rs true post) ⟨initT 0 xs, []⟩) : Ct P T f xs true post := by
  subst hnn hrs
  replace hn := of_eq_true hn
  replace h := fun w0 (F : Nat → Prop) T0 => h ⟨P, w0, fun b => F b ∨ b = g0, fn.ntmps, T, Tm, T0, fun _ => False, fun _ h => h.elim, fun _ => none, fun _ _ => rfl⟩ rfl rfl rfl (.inr rfl)
  refine ⟨enters' hf hname (by rw [hb]; rfl), fun F w vs hT hx => ?_⟩
  have hl := RSL_len hx
  refine calls_end hf hb (wp_mono (h w F hT _ w η0 ⟨?_, Marks.nil _ _ _, ?_, ?_, ?_, ?_, Bel.refl _ _, fun _ _ e => by cases e⟩) ?_)
  · simp; omega
  · intro i
    show RS η0 _ w (lk (initT 0 xs) i) _
    rw [lk_initT, if_pos (Nat.zero_le _), Nat.sub_zero]
    have hsub : Sub F w (Fr ⟨P, w, fun b => F b ∨ b = g0, fn.ntmps, T, Tm, hT, fun _ => False, fun _ h => h.elim, fun _ => none, fun _ _ => rfl⟩ [] η0) w := fun b o hb ho => ⟨⟨.inr (.inl (.inl hb)), fun k o' hk => by simp [lh] at hk⟩, ho⟩
    by_cases hi : i < xs.length
    · obtain ⟨v, h1, h2⟩ := RSL_get hx i xs[i] (by simp [hi])
      have : (vs.toArray ++ Array.replicate (fn.ntmps - vs.toArray.size) undef).getD i undef = v := by
        rw [Array.getD_eq_getD_getElem?, Array.getElem?_append_left (by simp; omega)]
        simp [h1]
      rw [this, List.getD_eq_getElem?_getD]
      simp only [hi, List.getElem?_eq_getElem, Option.getD_some]
      exact RS.mono hsub _ _ h2
    · have : xs.getD i .any = .any := by simp [List.getD, Nat.le_of_not_lt hi]
      rw [this]; simp only [RS]
  · intro k o hk; simp [lh] at hk
  · intro k o g hk; simp [lh] at hk
  · intro k k' o o' _ hk; simp [lh] at hk
  · rintro e a' w1 ⟨s', η', hR, hq⟩
    obtain ⟨Ds, e1, e2, e3, hR⟩ := hR.shut
    generalize hw : shutL Ds w1 = w' at hR
    replace hw := hw.symm
    have fin : (resL P s' fn.results.toList).2 ∧ (true = true → freshS s'.h (oneS (resL P s' fn.results.toList).1)) ∧ post (cv s'.h (oneS (resL P s' fn.results.toList).1)) →
        ∃ v, (results fn a'.tmps).run P w' = .ok v w' ∧ ∃ r v', Ending.returned v = .returned v' ∧ post r ∧ RS η0 (fun b => w.heap.size ≤ b ∨ (true = false ∧ F b)) w' r v' ∧ Below w.heap.size w w' := by
      rintro ⟨h1, h2, h3⟩
      obtain ⟨v, h4, h5⟩ := res_ok hR h1
      refine ⟨v, h4, _, v, rfl, h3, ?_, hR.bel.below fun _ h => h⟩
      exact RS_fresh hR (fun b hb => hb.elim .inl fun x => x.elim) _ _ (h2 rfl) h5
    cases e <;> try exact hq.elim
    · exact ⟨.inl rfl, Ds, e1, e2, e3, by rw [← hw]; exact fin hq⟩
    · exact ⟨.inr rfl, Ds, e1, e2, e3, by rw [← hw]; exact fin hq⟩
/-! ## data as Lean knows it -/
def rd (xs : List Int) (i : Int) : Int := xs.getD i.toNat 0
def intC (n : Int) : List D := [.i .i64 n]
def ints (l : List Int) : D := .row [.i .i64 0] (l.map intC)
def rowC (l : List Int) : List D := [ints l]
theorem rw_intC (l : List Int) (i : Int) : (l.map intC).getD i.toNat [.i .i64 0] = [.i .i64 (rd l i)] := by
  unfold rd
  by_cases h : i.toNat < l.length
  · simp [List.getD, h, intC]
  · simp [List.getD, Nat.le_of_not_lt h]
theorem rw_intC0 (l : List Int) : (l.map intC).getD 0 [.i .i64 0] = [.i .i64 (rd l 0)] := rw_intC l 0
theorem rw_set (l : List Int) (i : Nat) (n : Int) : setE (l.map intC) i 0 [.i .i64 n] = (l.set i n).map intC := by
  unfold setE
  apply List.ext_getElem?
  intro j
  rw [List.getElem?_modify, List.getElem?_map, List.getElem?_map, List.getElem?_set]
  by_cases h : i = j
  · subst h
    by_cases h2 : i < l.length
    · simp [h2, intC]
    · simp [h2]
  · simp [h]
theorem rw_app (l : List Int) (n : Int) : l.map intC ++ [[.i .i64 n]] = (l ++ [n]).map intC := by simp [intC]
theorem rw_apps (l m : List Int) : l.map intC ++ m.map intC = (l ++ m).map intC := by simp
theorem rw_rep (n : Nat) : List.replicate n [D.i .i64 0] = (List.replicate n (0 : Int)).map intC := by simp [intC]
theorem rw_slice (l : List Int) (a b : Nat) : ((l.map intC).take b).drop a = ((l.take b).drop a).map intC := by simp
theorem flat_ints (l : List Int) : flatE (l.map intC) := fun e he d hd => by
  obtain ⟨n, _, rfl⟩ := List.mem_map.1 he
  simp only [intC, List.mem_singleton] at hd
  subst hd
  simp only [flatD]
theorem wr64 (n : Int) : IntKind.wrap .i64 n = wrap64 n := by
  have e1 : ((2 : Int) ^ IntKind.i64.bits) = 18446744073709551616 := rfl
  have e2 : ((2 : Int) ^ (IntKind.i64.bits - 1)) = 9223372036854775808 := rfl
  have e3 : IntKind.i64.signed = true := rfl
  unfold IntKind.wrap wrap64
  simp only [e1, e2, e3, Bool.true_and, decide_eq_true_eq]
  split <;> omega
theorem w64 {x : Int} (h1 : -9223372036854775808 ≤ x) (h2 : x ≤ 9223372036854775807) : wrap64 x = x := by unfold wrap64; omega
theorem cond_or (a b : Bool) : (bif a then true else b) = (a || b) := by cases a <;> rfl
theorem cond_and (a b : Bool) : (bif a then b else false) = (a && b) := by cases a <;> rfl
theorem drop_rd {l : List Int} {j : Int} (h0 : 0 ≤ j) (h1 : j < l.length) : l.drop j.toNat = rd l j :: l.drop (j + 1).toNat := by
  have hj : j.toNat < l.length := by omega
  rw [List.drop_eq_getElem_cons hj, show (j + 1).toNat = j.toNat + 1 by omega]
  simp [rd, List.getD, hj]
theorem drop_end {α : Type} {l : List α} {j : Int} (h1 : (l.length : Int) ≤ j) : l.drop j.toNat = [] := List.drop_eq_nil_of_le (by omega)
theorem ml : ((maxLen : Nat) : Int) = 9223372036854775807 := rfl
theorem mln : maxLen = 9223372036854775807 := rfl
theorem take_set {l : List Int} {j : Int} {v : Int} (h0 : 0 ≤ j) (h1 : j < l.length) : (l.set j.toNat v).take (j + 1).toNat = l.take j.toNat ++ [v] := by
  have hj : j.toNat < l.length := by omega
  rw [show (j + 1).toNat = j.toNat + 1 by omega]
  apply List.ext_getElem?
  intro i
  rw [List.getElem?_take]
  by_cases h : i < j.toNat
  · rw [if_pos (by omega), List.getElem?_set, if_neg (by omega), List.getElem?_append_left (by simp; omega), List.getElem?_take, if_pos h]
  · by_cases h2 : i = j.toNat
    · subst h2
      have e : (l.take j.toNat).length = j.toNat := by simp; omega
      rw [if_pos (by omega), List.getElem?_set, if_pos rfl, if_pos hj, List.getElem?_append_right (by omega), e]
      simp
    · rw [if_neg (by omega), List.getElem?_eq_none]
      simp; omega
theorem take_rd {l : List Int} {j : Int} (h0 : 0 ≤ j) (h1 : j < l.length) : l.take (j + 1).toNat = l.take j.toNat ++ [rd l j] := by
  have hj : j.toNat < l.length := by omega
  rw [show (j + 1).toNat = j.toNat + 1 by omega, List.take_succ_eq_append_getElem hj]
  simp [rd, List.getD, hj]
theorem rd_mem {l : List Int} {j : Int} (h0 : 0 ≤ j) (h1 : j < l.length) : rd l j ∈ l := by
  have hj : j.toNat < l.length := by omega
  simp [rd, List.getD, hj]
/-- a region, and what stands behind it -/
theorem r1 {E : Env} {Q : Exit → St → Prop} {s : St} {id : Nat} {ops : List Oper} {y : Code} (h : ∀ K : St → Prop, (∀ s', Tr E y Q s' → K s') → SQ E ops ops s K) : Tr E (.seq (.region id ops.toArray false) y) Q s :=
  Tr.seq (Tr.region (h _ fun _ k => k))
theorem r3 {E : Env} {Q : Exit → St → Prop} {s : St} {id : Nat} {ops : List Oper} (h : ∀ K : St → Prop, (∀ s', Q .normal s' → K s') → SQ E ops ops s K) : Tr E (.region id ops.toArray false) Q s :=
  Tr.region (h _ fun _ k => k)
theorem r2 {E : Env} {n : St → Prop} {Q : Exit → St → Prop} {s : St} {id : Nat} {ops : List Oper} (h : ∀ K : St → Prop, (∀ s', n s' → K s') → SQ E ops ops s K) : Tr E (.region id ops.toArray false) (thenS n Q) s :=
  Tr.region (h _ fun _ k => k)
section exits
variable {n : St → Prop} {Q : Exit → St → Prop} {s : St} {l i : Nat}
theorem n1 (h : n s) : thenS n Q .normal s := h
theorem n2 (h : Q .ret s) : thenS n Q .ret s := h
theorem n3 (h : Q (.exit l) s) : thenS n Q (.exit l) s := h
theorem n4 (h : Q (.goto l) s) : thenS n Q (.goto l) s := h
theorem n5 (h : Q .normal s) : inBlk i Q .normal s := h
theorem n6 (h : Q .ret s) : inBlk i Q .ret s := h
theorem n7 (h : Q (.goto l) s) : inBlk i Q (.goto l) s := h
theorem n8 (h : Q .normal s) : inBlk i Q (.exit i) s := by show (if i = i then Q .normal s else Q (.exit i) s); rw [if_pos rfl]; exact h
theorem n9 (hne : (l = i) = False) (h : Q (.exit l) s) : inBlk i Q (.exit l) s := by show (if l = i then Q .normal s else Q (.exit l) s); rw [if_neg (by rw [hne]; exact id)]; exact h
end exits
end Go.Proofs.YtgomeljgbjgbkaaGreatDoor.Aw
