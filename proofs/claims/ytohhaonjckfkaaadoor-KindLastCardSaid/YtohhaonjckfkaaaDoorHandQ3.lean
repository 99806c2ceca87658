/- Contracts of Go functions that the laws of this seat reach, by hand: each call returns what the Lean function of its name tells. Conditions: those that each theorem names, none else. -/
import Derived.Test.YtohhaonjckfkaaaDoorHandH18
namespace Go.Proofs.YtohhaonjckfkaaaDoor.Hand
open Go.RowKit Go.Proofs.YtohhaonjckfkaaaDoorW.PrintWords Go.Proofs.YtohhaonjckfkaaaDoorW.PrintLast Go.Proofs.YtohhaonjckfkaaaDoorW.PrintMore
attribute [local go_sem] max2_int min2_int max_two min_two max_three min_three max_four min_four
set_option linter.unusedVariables false
set_option linter.unusedSimpArgs false

/-! the plain law: windows, of every node -/
def hasB (k : Int) (b1 b2 : Bool) (x : Int) : Bool := Go.bits .and .i64 (if b2 = true then Go.bits .or .i64 (if b1 = true then Go.bits .or .i64 (hasT k) 64 else hasT k) 32 else (if b1 = true then Go.bits .or .i64 (hasT k) 64 else hasT k)) x != 0
def hasBs (k : Int) (b1 b2 : Bool) : Prop := hasB k b1 b2 1 = rFour k ∧ hasB k b1 b2 16 = (k == 12) ∧ hasB k b1 b2 17 = (rFour k || k == 12)
instance (k : Int) (b1 b2 : Bool) : Decidable (hasBs k b1 b2) := inferInstanceAs (Decidable (_ ∧ _))
theorem hasB_all (k : Int) (b1 b2 : Bool) (hk : inB k 1 12 = true) : hasBs k b1 b2 := by
  refine cases12 (P := fun k => hasBs k b1 b2) k hk ?_
  cases b1 <;> cases b2 <;> decide +kernel
theorem Nd.hasW (n : Nd) : n.has 1 = rFour n.k ∧ n.has 16 = (n.k == 12) ∧ n.has 17 = (rFour n.k || n.k == 12) := by
  cases hk : inB n.k 1 12 with
  | true =>
    rw [has_eq n _ hk, has_eq n _ hk, has_eq n _ hk]
    exact hasB_all n.k (Go.bits .and .i64 n.post 1 != 0) (Go.bits .and .i64 n.post 2 != 0) hk
  | false =>
    have h : ¬ (1 ≤ n.k ∧ n.k ≤ 12) := fun h => by rw [inB_iff.mpr h] at hk; cases hk
    have hn : ∀ x, n.has x = false := fun x => by
      unfold Nd.has
      by_cases h1 : n.k < 1
      · rw [if_pos h1]
      · rw [if_neg h1, if_pos (by omega)]
    have h4 : rFour n.k = false := by
      unfold rFour
      simp only [Bool.or_eq_false_iff, beq_eq_false_iff_ne]
      omega
    have h12 : (n.k == 12) = false := by rw [beq_eq_false_iff_ne]; omega
    rw [hn, hn, hn, h4, h12]
    exact ⟨rfl, rfl, rfl⟩
theorem rWin_four (k : Int) : rWin k = (rFour k || k == 12) := rfl
theorem four_ne (k : Int) (h : rFour k = true) : (k == 12) = false := by
  unfold rFour at h
  simp only [Bool.or_eq_true, beq_iff_eq] at h
  rw [beq_eq_false_iff_ne]; omega
theorem span_eqW (n : Nd) : n.span = n.rSpan := by
  unfold Nd.span Nd.rSpan
  rw [n.hasW.1, n.hasW.2.1, rWin_four]
  cases h4 : rFour n.k with
  | true => rw [four_ne _ h4]; rfl
  | false => cases (n.k == 12) <;> rfl
theorem stp_eqW (n : Nd) : n.stp = n.rStp := by
  unfold Nd.stp Nd.rStp
  rw [n.hasW.1]
theorem padL_eqW (n : Nd) : n.padL = n.rLeft := by
  unfold Nd.padL Nd.rLeft
  rw [n.hasW.1, n.hasW.2.1]
  cases h4 : rFour n.k with
  | true => rw [four_ne _ h4]; rfl
  | false => cases (n.k == 12) <;> rfl
theorem padR_eqW (n : Nd) : n.padR = n.rRight := by
  unfold Nd.padR Nd.rRight
  rw [n.hasW.1]
theorem first_eqW (n : Nd) (i : Int) : n.first i = n.rFirst i := by
  unfold Nd.first Nd.rFirst
  rw [stp_eqW, padL_eqW]
def Nd.wins (n : Nd) (i : Int) : Bool := n.span == n.rSpan && n.stp == n.rStp && n.padL == n.rLeft && n.padR == n.rRight && n.first i == n.rFirst i
theorem wins_eq (n : Nd) (i : Int) : n.wins i = true := by
  unfold Nd.wins
  rw [span_eqW, stp_eqW, padL_eqW, padR_eqW, first_eqW]
  simp only [beq_self_eq_true, Bool.and_self]
/-- what a node of Made has of a window -/
structure Nd.Wd (n : Nd) (sz st gp lf rt sp : Int) : Prop where
  span : n.span = sp
  stp : n.stp = st
  padL : n.padL = lf
  padR : n.padR = rt
  s0 : 1 ≤ sp
  s1 : sp ≤ 10
  t0 : 1 ≤ st
  t1 : st ≤ 3
  l0 : 0 ≤ lf
  l1 : lf < sp
  r0 : 0 ≤ rt
  r1 : rt < sp
theorem Fine.wd {n : Nd} (h : Fine n) (hw : rWin n.k = true) : ∃ st lf rt sp, n.Wd 0 st 0 lf rt sp := by
  rw [rWin_four, Bool.or_eq_true] at hw
  cases h4 : rFour n.k with
  | true =>
    obtain ⟨m, a, b, c, d, e, hn, h1, h2, h3, h4', h5, h6, h7, h8, h9, h10⟩ := h.win h4
    have e1 : n.size = a := by rw [hn]
    have e2 : n.step = b := by rw [hn]
    have e3 : n.gap = c := by rw [hn]
    have e4 : n.left = d := by rw [hn]
    have e5 : n.right = e := by rw [hn]
    clear hn
    have hm := mul_le (a - 1) 3 c 3 (by omega) (by omega) (by omega) h6
    refine ⟨b, d, e, (a - 1) * c + 1, ⟨?_, ?_, ?_, ?_, by omega, by omega, h3, h4', h7, h8, h9, h10⟩⟩
    · unfold Nd.span
      rw [n.hasW.1, h4, if_pos rfl, e1, e3, w64 (x := a - 1) (by omega) (by omega), w64 (x := (a - 1) * c) (by omega) (by omega), w64 (by omega) (by omega)]
    · unfold Nd.stp; rw [n.hasW.1, h4, if_pos rfl, e2]
    · unfold Nd.padL; rw [n.hasW.1, h4, if_pos rfl, e4]
    · unfold Nd.padR; rw [n.hasW.1, h4, if_pos rfl, e5]
  | false =>
    have h12 : (n.k == 12) = true := by rcases hw with h | h; (rw [h4] at h; cases h); exact h
    have hs := h.smooth (by simpa using h12)
    refine ⟨1, n.size - 1, 0, n.size, ⟨?_, ?_, ?_, ?_, hs.1, by omega, by decide, by decide, by omega, by omega, by decide, by omega⟩⟩
    · unfold Nd.span; rw [n.hasW.1, n.hasW.2.1, h4, h12, if_neg (by decide), if_pos rfl]
    · unfold Nd.stp; rw [n.hasW.1, h4, if_neg (by decide)]
    · unfold Nd.padL; rw [n.hasW.1, n.hasW.2.1, h4, h12, if_neg (by decide), if_pos rfl, w64 (by omega) (by omega)]
    · unfold Nd.padR; rw [n.hasW.1, h4, if_neg (by decide)]
theorem Nd.Wd.first {n : Nd} {st lf rt sp : Int} (h : n.Wd 0 st 0 lf rt sp) (i : Int) (h0 : 0 ≤ i) (h1 : i ≤ 1099511627800) : n.first i = i * st - lf := by
  have hm := mul_le i 1099511627800 st 3 h0 h1 (by have := h.t0; omega) h.t1
  have := h.l0
  have := h.l1
  have := h.s1
  unfold Nd.first
  rw [h.stp, h.padL, w64 (x := i * st) (by omega) (by omega), w64 (by omega) (by omega)]
/-- how many windows end ahead of a number -/
theorem Nd.Wd.ends {n : Nd} {st lf rt sp : Int} (h : n.Wd 0 st 0 lf rt sp) (t : Int) (h0 : 0 ≤ t) (h1 : t ≤ 1099511627790) : 0 ≤ n.ends t ∧ n.ends t ≤ t ∧ ∀ i, 0 ≤ i → (i < n.ends t ↔ i * st - lf + sp - 1 < t) := by
  obtain ⟨e1, e2, e3, e4, s0, s1, t0, t1, l0, l1, r0, r1⟩ := h
  have hf : n.first 0 = - lf := by unfold Nd.first; rw [e3, Int.zero_mul, w64 (x := 0) (by omega) (by omega), w64 (by omega) (by omega)]; omega
  unfold Nd.ends
  rw [hf, e1, e2, w64 (x := -lf + sp) (by omega) (by omega), w64 (x := -lf + sp - 1) (by omega) (by omega), w64 (x := t - 1) (by omega) (by omega), w64 (x := t - 1 - (-lf + sp - 1)) (by omega) (by omega)]
  have hst : st = 1 ∨ st = 2 ∨ st = 3 := by omega
  by_cases ht : t ≤ -lf + sp - 1
  · rw [if_pos ht]
    refine ⟨by omega, by omega, fun i hi => ?_⟩
    rcases hst with rfl | rfl | rfl <;> omega
  · rw [if_neg ht, Int.tdiv_eq_ediv_of_nonneg (by omega)]
    rcases hst with rfl | rfl | rfl
    · rw [Int.ediv_one, w64 (x := t - 1 - (-lf + sp - 1)) (by omega) (by omega), w64 (x := t - 1 - (-lf + sp - 1) + 1) (by omega) (by omega)]; exact ⟨by omega, by omega, fun i hi => by omega⟩
    · rw [w64 (x := (t - 1 - (-lf + sp - 1)) / 2) (by omega) (by omega), w64 (x := (t - 1 - (-lf + sp - 1)) / 2 + 1) (by omega) (by omega)]; exact ⟨by omega, by omega, fun i hi => by omega⟩
    · rw [w64 (x := (t - 1 - (-lf + sp - 1)) / 3) (by omega) (by omega), w64 (x := (t - 1 - (-lf + sp - 1)) / 3 + 1) (by omega) (by omega)]; exact ⟨by omega, by omega, fun i hi => by omega⟩
end Go.Proofs.YtohhaonjckfkaaaDoor.Hand
