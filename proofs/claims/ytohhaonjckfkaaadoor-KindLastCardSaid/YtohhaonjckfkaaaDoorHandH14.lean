/- Contracts of Go functions that the laws of this seat reach, by hand: each call returns what the Lean function of its name tells. Conditions: those that each theorem names, none else. -/
import Derived.Test.YtohhaonjckfkaaaDoorHandH11
import Derived.Laws.Tables
import Derived.Laws.CopyOwn
namespace Go.Proofs.YtohhaonjckfkaaaDoor.Hand
open Go.RowKit Go.Proofs.YtohhaonjckfkaaaDoorW.PrintWords Go.Proofs.YtohhaonjckfkaaaDoorW.PrintLast Go.Proofs.YtohhaonjckfkaaaDoorW.PrintMore
attribute [local go_sem] max2_int min2_int max_two min_two max_three min_three max_four min_four
set_option linter.unusedVariables false
set_option linter.unusedSimpArgs false

attribute [local go_sem] guarded_true
/-! a whole node stored into a variable -/
abbrev Nd.cells (n : Nd) (s : Ns) : Array Value := #[.int .i64 n.k, .slice s.ia n.inn.length s.ic, .int .i64 n.wid, .int .i64 n.size, .int .i64 n.step, .int .i64 n.gap, .int .i64 n.left, .int .i64 n.right, .slice s.wa n.ws.length s.wc, .slice s.ba n.bs.length s.bc, .int .i64 n.mult, .int .i64 n.shift, .int .i64 n.low, .int .i64 n.high, .int .i64 n.post]
theorem run_stbox (n : Nd) (s : Ns) {W : World} {g : Nat} {cs : Array Value} {o : Oper} {ρ : Operand → Value} {p : Tmp} {x : Operand} (hop : o.op = .store 29 (.tmp p) x) (hp : ρ (.tmp p) = .pointer (some ⟨g, 0, none⟩)) (hx : ρ x = n.val s)
    (hk : W.heap[g]? = some (.cells cs 29 (0, 0))) (hz : cs.size = 15) : (execOp ρ o).run Tryd.prog W = .ok .skip (W.setRow g (n.cells s)) := by
  have hi : (Tryd.prog.info? 29).map (·.size) = some (n.cells s).size := by
    have : (Tryd.prog.info? 29).map (·.size) = some 15 := by kernel_rfl
    exact this
  have h : (storeVar 29 ⟨g, 0, none⟩ (n.val s)).run Tryd.prog W = .ok () (W.setRow g (n.cells s)) := run_storeVar_row W g 29 29 cs (n.cells s) hk hi (by rw [hz]; rfl) (by simp [Value.oneCell'])
  unfold execOp
  simp only [hop, hp, hx]
  simp only [Instr.storeAt, Instr.sureAddr, Sem.run_bind, Sem.run_pure, Result.andThen_ok, h]
theorem wl_stbox {n : Nd} {s : Ns} {ops : Array Oper} {Q : Exit → Act → World → Prop} {rest : List Oper} {a a1 : Act} {W : World} {g : Nat} {cs : Array Value} {o : Oper} {p : Tmp} {x : Operand} (hop : o.op = .store 29 (.tmp p) x) (hgd : o.guard = none) (hp : a.eval (.tmp p) = .pointer (some ⟨g, 0, none⟩)) (hx : a.eval x = n.val s)
    (hk : W.heap[g]? = some (.cells cs 29 (0, 0))) (hz : cs.size = 15) (ha : a.put o.dst undef = a1) (h : wpList Tryd.prog ops Q rest a1 (W.setRow g (n.cells s))) : wpList Tryd.prog ops Q (o :: rest) a W := by
  subst ha
  refine wpList_plain hgd fun K hK => ?_
  unfold Oper.wp
  rw [run_stbox n s hop hp hx hk hz]
  exact hK _ _ h
theorem setRow_box {n : Nd} {s : Ns} {W : World} {g : Nat} {cs : Array Value} (hk : W.heap[g]? = some (.cells cs 29 (0, 0))) : (W.setRow g (n.cells s)).heap[g]? = some (n.box s) := setRow_heap W g cs (n.cells s) 29 (0, 0) hk
theorem setRow_far {W : World} {g k : Nat} {cs : Array Value} {o : Obj} (h : W.heap[k]? = some o) (hne : k ≠ g) : (W.setRow g cs).heap[k]? = some o := (setRow_other W g k cs hne).trans h
theorem setRow_keep {w W : World} {g g0 : Nat} {cs : Array Value} (h : KeepBut w W g0 none) (hg : w.heap.size ≤ g) : KeepBut w (W.setRow g cs) g0 none := ⟨by rw [setRow_size]; exact h.1, fun i hi h0 hn => (setRow_other W g i cs (by omega)).trans (h.2 i hi h0 hn)⟩

/-! a Row of numbers that are taken one by one -/
def RowAt (w0 w : World) (g : Nat) (L : List Int) : Prop := ∃ at_, IsS69 w0 w g L at_ ∧ 0 ≤ at_ ∧ at_ ≤ (L.length : Int)
theorem tmod_range (x n : Int) (hn : 0 < n) : -n < Int.tmod x n ∧ Int.tmod x n < n := by
  have h1 := Int.tmod_lt_of_pos x hn
  have h2 := Int.lt_tmod_of_pos x hn
  exact ⟨h2, h1⟩
theorem next_f (L : List Int) (at_ n : Int) (ha0 : 0 ≤ at_) (ha1 : at_ ≤ (L.length : Int)) (hL : L.length ≤ 4096) (h0 : 0 < n) (h1 : n ≤ 1000000) :
    ∃ r a', earshotref14_Row_Next.f L at_ n = some (r, a') ∧ 0 ≤ r ∧ r < n ∧ 0 ≤ a' ∧ a' ≤ (L.length : Int) := by
  unfold earshotref14_Row_Next.f
  by_cases hl : at_ ≥ (L.length : Int)
  · rw [if_pos hl]
    exact ⟨0, at_, rfl, by omega, h0, ha0, ha1⟩
  · have e1 : wrap64 (wrap64 (at_ + 1) - 1) = at_ := by rw [w64 (x := at_ + 1) (by omega) (by omega), w64 (by omega) (by omega)]; omega
    have t1 := tmod_range (rd L at_) n h0
    have t2 := tmod_range (Int.tmod (rd L at_) n + n) n h0
    have t3 : 0 ≤ Int.tmod (Int.tmod (rd L at_) n + n) n := Int.tmod_nonneg _ (by omega)
    rw [if_neg hl, e1, if_pos ha0, if_pos (by omega), if_neg (by omega), w64 (x := Int.tmod (rd L at_) n + n) (by omega) (by omega), w64 (x := at_ + 1) (by omega) (by omega)]
    exact ⟨_, _, rfl, t3, t2.2, by omega, by omega⟩
theorem Next_c (g : Nat) (L : List Int) (n : Int) (w0 w : World) (hI : RowAt w0 w g L) (hB : Below w0.heap.size w0 w) (hL : L.length ≤ 4096) (h0 : 0 < n) (h1 : n ≤ 1000000) :
    Calls Tryd.prog 60 #[.pointer (some ⟨g, 0, none⟩), .int .i64 n] w fun e w' => ∃ r, e = .returned (.int .i64 r) ∧ 0 ≤ r ∧ r < n ∧ RowAt w0 w' g L ∧ Below w0.heap.size w0 w' ∧ KeepBut w w' g none := by
  obtain ⟨at_, hI, ha0, ha1⟩ := hI
  obtain ⟨r, a', hf, hr0, hr1, h2, h3⟩ := next_f L at_ n ha0 ha1 hL h0 h1
  refine (earshotref14_Row_Next.calls g L at_ n r a' w0 w hI hB hf).mono ?_
  rintro e w' ⟨he, hi, hb, hk⟩
  exact ⟨r, he, hr0, hr1, ⟨a', hi, h2, h3⟩, hb, hk⟩
theorem row_f (L : List Int) (many low most : Int) (hL : L.length ≤ 4096) (hm : many ≤ 4000) (hl : -1000000 ≤ low ∧ low ≤ 1000000) (h0 : 0 < most) (h1 : most ≤ 1000000) :
    ∀ (d k : Nat) (i at_ : Int) (xs : List Int), i + d = many → 0 ≤ i → d < k → (xs.length : Int) = i → (∀ x ∈ xs, low ≤ x ∧ x < low + most) → 0 ≤ at_ → at_ ≤ (L.length : Int) →
      ∃ r a', earshotref14_Row_row.l0 k many low most xs i L at_ = some (r, a') ∧ (r.length : Int) = many ∧ (∀ x ∈ r, low ≤ x ∧ x < low + most) ∧ 0 ≤ a' ∧ a' ≤ (L.length : Int) := by
  intro d
  induction d with
  | zero =>
    intro k i at_ xs hd hi hk hx hr ha0 ha1
    obtain ⟨k, rfl⟩ : ∃ m, k = m + 1 := ⟨k - 1, by omega⟩
    simp only [earshotref14_Row_row.l0]
    rw [if_neg (by omega)]
    exact ⟨xs, at_, rfl, by omega, hr, ha0, ha1⟩
  | succ d ih =>
    intro k i at_ xs hd hi hk hx hr ha0 ha1
    obtain ⟨k, rfl⟩ : ∃ m, k = m + 1 := ⟨k - 1, by omega⟩
    obtain ⟨r, a', hf, hr0, hr1, h2, h3⟩ := next_f L at_ most ha0 ha1 hL h0 h1
    simp only [earshotref14_Row_row.l0]
    rw [if_pos (by omega), hf, Option.bind_some, if_pos (by omega), w64 (x := low + r) (by omega) (by omega), w64 (x := i + 1) (by omega) (by omega)]
    exact ih k (i + 1) a' (xs ++ [low + r]) (by omega) (by omega) (by omega) (by rw [List.length_append, List.length_singleton]; omega) (fun x hx => by
      rcases List.mem_append.mp hx with h | h
      · exact hr x h
      · have := List.mem_singleton.mp h; omega) h2 h3
theorem row_c (g : Nat) (L : List Int) (many low most : Int) (w0 w : World) (hI : RowAt w0 w g L) (hB : Below w0.heap.size w0 w) (hL : L.length ≤ 4096) (hm0 : 0 ≤ many) (hm : many ≤ 4000) (hl : -1000000 ≤ low ∧ low ≤ 1000000) (h0 : 0 < most) (h1 : most ≤ 1000000) :
    Calls Tryd.prog 62 #[.pointer (some ⟨g, 0, none⟩), .int .i64 many, .int .i64 low, .int .i64 most] w fun e w' => ∃ v r, e = .returned v ∧ Kd.R (Kd.int .i64) 3 w' w.heap.size (fun _ => True) v r ∧ (r.length : Int) = many ∧ (∀ x ∈ r, low ≤ x ∧ x < low + most) ∧ RowAt w0 w' g L ∧ Below w0.heap.size w0 w' ∧ KeepBut w w' g none := by
  obtain ⟨at_, hI, ha0, ha1⟩ := hI
  obtain ⟨r, a', hf, hr0, hr1, h2, h3⟩ := row_f L many low most hL hm hl h0 h1 many.toNat (many.toNat + 1) 0 at_ [] (by omega) (by omega) (by omega) rfl (fun x hx => by cases hx) ha0 ha1
  refine (earshotref14_Row_row.calls (many.toNat + 1) g L at_ many low most r a' w0 w hI hB (by unfold earshotref14_Row_row.f; exact hf)).mono ?_
  rintro e w' ⟨v, he, hR, hi, hb, hk⟩
  exact ⟨v, r, he, hR, hr0, hr1, ⟨a', hi, h2, h3⟩, hb, hk⟩
end Go.Proofs.YtohhaonjckfkaaaDoor.Hand
