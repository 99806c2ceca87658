/- Contracts of Go functions that the laws of this seat reach, by hand: each call returns what the Lean function of its name tells. Conditions: those that each theorem names, none else. -/
import Derived.Test.YtohhaonjckfkaaaDoorHandH17
namespace Go.Proofs.YtohhaonjckfkaaaDoor.Hand
open Go.RowKit Go.Proofs.YtohhaonjckfkaaaDoorW.PrintWords Go.Proofs.YtohhaonjckfkaaaDoorW.PrintLast Go.Proofs.YtohhaonjckfkaaaDoorW.PrintMore
attribute [local go_sem] max2_int min2_int max_two min_two max_three min_three max_four min_four
set_option linter.unusedVariables false
set_option linter.unusedSimpArgs false

attribute [local go_sem] guarded_true
theorem bcs12 {w : World} {g : Nat} {t : TypeId} {c0 c1 c2 c3 c4 c5 c6 c7 c8 c9 c10 c11 : Value} (h : w.heap[g]? = some (.cells #[c0, c1, c2, c3, c4, c5, c6, c7, c8, c9, c10, c11] t (0, 0))) : (w.cell? ⟨g, 0, none⟩ = some c0 ∧ w.cell? ⟨g, 1, none⟩ = some c1 ∧ w.cell? ⟨g, 2, none⟩ = some c2 ∧ w.cell? ⟨g, 3, none⟩ = some c3 ∧ w.cell? ⟨g, 4, none⟩ = some c4 ∧ w.cell? ⟨g, 5, none⟩ = some c5 ∧ w.cell? ⟨g, 6, none⟩ = some c6 ∧ w.cell? ⟨g, 7, none⟩ = some c7 ∧ w.cell? ⟨g, 8, none⟩ = some c8 ∧ w.cell? ⟨g, 9, none⟩ = some c9 ∧ w.cell? ⟨g, 10, none⟩ = some c10 ∧ w.cell? ⟨g, 11, none⟩ = some c11) ∧ w.frozen? ⟨g, 0, none⟩ = false ∧ w.frozen? ⟨g, 1, none⟩ = false ∧ w.frozen? ⟨g, 2, none⟩ = false ∧ w.frozen? ⟨g, 3, none⟩ = false ∧ w.frozen? ⟨g, 4, none⟩ = false ∧ w.frozen? ⟨g, 5, none⟩ = false ∧ w.frozen? ⟨g, 6, none⟩ = false ∧ w.frozen? ⟨g, 7, none⟩ = false ∧ w.frozen? ⟨g, 8, none⟩ = false ∧ w.frozen? ⟨g, 9, none⟩ = false ∧ w.frozen? ⟨g, 10, none⟩ = false ∧ w.frozen? ⟨g, 11, none⟩ = false := ⟨⟨(blk_cell h 0).trans rfl, (blk_cell h 1).trans rfl, (blk_cell h 2).trans rfl, (blk_cell h 3).trans rfl, (blk_cell h 4).trans rfl, (blk_cell h 5).trans rfl, (blk_cell h 6).trans rfl, (blk_cell h 7).trans rfl, (blk_cell h 8).trans rfl, (blk_cell h 9).trans rfl, (blk_cell h 10).trans rfl, (blk_cell h 11).trans rfl⟩, blk_frozen h 0, blk_frozen h 1, blk_frozen h 2, blk_frozen h 3, blk_frozen h 4, blk_frozen h 5, blk_frozen h 6, blk_frozen h 7, blk_frozen h 8, blk_frozen h 9, blk_frozen h 10, blk_frozen h 11⟩
/-- what Made promises of its node -/
structure Fine (n : Nd) : Prop where
  i0 : 1 ≤ n.inn.length
  i : n.inn.length ≤ 2
  w : n.ws.length ≤ 4000
  b : n.bs.length ≤ 4000
  k : inB n.k 1 12 = true
  post : n.post = 0
  win : rFour n.k = true → ∃ m, Win m n
  smooth : n.k = 12 → 1 ≤ n.size ∧ n.size ≤ 5
section
variable {P : Program} {ops : Array Oper} {Q : Exit → Act → World → Prop} {S : World → Prop} {a a1 : Act} {w : World} {r : List (Nat × Bool)} {i : Nat} {oi : Oper}
/-- a call in a plan whose result is told by what holds of it -/
theorem plan_e {f : FuncId} {fn : Func} {xs : Array Operand} {ts : Array TypeId} {args : Array Value} (f_ : FuncId) (hi : ops[i]? = some oi) (hop : oi.op = .call { callee := .value (.func f), args := xs, argTypes := ts }) (hff : f = f_) (hf : P.funcs[f_]? = some fn) (hname : (fn.name == "runtime.NumGoroutine") = false) (hb : fn.body.isSome = true)
    (hg : oi.guard = none) (hargs : xs.map a.eval = args) (hc : Calls P f_ args w fun e w' => ∃ v, e = .returned v ∧ S w' ∧ wpPlan P ops Q S r (a.put oi.dst v) w') : wpPlan P ops Q S ((i, false) :: r) a w := by
  subst hff
  refine ⟨oi, hi, fun K hK => ?_⟩
  refine call_ f args (wanted_none hg) rfl ?_ (hc.mono ?_)
  · have he := enters_ hf hname hb args w
    unfold execOp
    simp [hop, resolve, Deferred.ofValue, invoke, Act.eval, hargs, he]
  · rintro e w' ⟨v, rfl, hS, hp⟩
    exact ⟨v, rfl, hK _ _ hS hp⟩
theorem plan_norm (ha : a = a1) (h : wpPlan P ops Q S r a1 w) : wpPlan P ops Q S r a w := ha ▸ h
end
/-- a number stored, in a plan -/
theorem plan_s {ops : Array Oper} {Q : Exit → Act → World → Prop} {S : World → Prop} {a : Act} {W : World} {r : List (Nat × Bool)} {i b j : Nat} {t : TypeId} {cs : Array Value} {o : Oper} {p : Tmp} {x : Operand} {y : Int} (hi : ops[i]? = some o) (hop : o.op = .store 3 (.tmp p) x) (hgd : o.guard = none) (hp : a.eval (.tmp p) = .pointer (some ⟨b, j, none⟩)) (hx : a.eval x = .int .i64 y)
    (hk : W.heap[b]? = some (.cells cs t (0, 0))) (hj : j < cs.size) (h : ∀ W1, W1 = W.setCell ⟨b, j, none⟩ (.int .i64 y) → S W1 ∧ wpPlan Tryd.prog ops Q S r (a.put o.dst undef) W1) : wpPlan Tryd.prog ops Q S ((i, false) :: r) a W := by
  refine ⟨o, hi, fun K hK => ?_⟩
  have hc : W.cell? ⟨b, j, none⟩ = some cs[j] := by rw [blk_cell hk j, Array.getElem?_eq_getElem hj]
  have hf : W.frozen? ⟨b, j, none⟩ = false := blk_frozen hk j
  have hu := Tryd.underlying3
  have hr : (execOp a.eval o).run Tryd.prog W = .ok .skip (W.setCell ⟨b, j, none⟩ (.int .i64 y)) := by
    have hsz : (sizeOf 3).run Tryd.prog W = .ok 1 W := by unfold sizeOf typeInfo; kernel_rfl
    generalize a.eval = ρ at hp hx ⊢
    unfold execOp
    simp only [hop, hp, hx]
    simp [go_sem, Instr.storeAt, hsz, hc, hf]
  rw [if_pos (wanted_none hgd)]
  unfold Oper.wp
  rw [hr]
  obtain ⟨h1, h2⟩ := h _ rfl
  exact hK _ _ h1 h2
theorem Win.same {n n2 n5 : Nd} (h : Win n n2) (e1 : n5.size = n2.size) (e2 : n5.step = n2.step) (e3 : n5.gap = n2.gap) (e4 : n5.left = n2.left) (e5 : n5.right = n2.right) : Win n5 n5 := by
  obtain ⟨a, b, c, d, e, h, h1, h2, h3, h4, h5, h6, h7, h8, h9, h10⟩ := h
  subst h
  exact ⟨n5.size, n5.step, n5.gap, n5.left, n5.right, rfl, e1 ▸ h1, e1 ▸ h2, e2 ▸ h3, e2 ▸ h4, e3 ▸ h5, e3 ▸ h6, e4 ▸ h7, by rw [e4, e1, e3]; exact h8, e5 ▸ h9, by rw [e5, e1, e3]; exact h10⟩
theorem rowfar {W : World} {base : Nat} {v : Value} {r : List Int} (hR : Kd.R (Kd.int .i64) 3 W base (fun _ => True) v r) : ∃ A c, v = .slice A r.length c ∧ r.length ≤ c ∧ Kd.C (Kd.int .i64) W A r.length r ∧ ∀ ad, A = some ad → 0 < r.length → base ≤ ad.block := by
  obtain ⟨A, c, rfl, h1, h2⟩ := Kd.R_reads hR
  refine ⟨A, c, rfl, h1, h2, fun ad e _ => ?_⟩
  subst e
  rcases Kd.R_base2 hR with h | ⟨k, h, hk⟩
  · cases h
  · cases h; exact hk
abbrev kinds12 : Array Value := #[.int .i64 1, .int .i64 2, .int .i64 3, .int .i64 4, .int .i64 12, .int .i64 1, .int .i64 5, .int .i64 6, .int .i64 9, .int .i64 10, .int .i64 11, .int .i64 6]
end Go.Proofs.YtohhaonjckfkaaaDoor.Hand
