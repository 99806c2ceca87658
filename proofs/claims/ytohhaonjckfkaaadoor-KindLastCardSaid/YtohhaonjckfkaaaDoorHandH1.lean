/- Contracts of Go functions that the laws of this seat reach, by hand: each call returns what the Lean function of its name tells. Conditions: those that each theorem names, none else. -/
import Derived.Test.YtohhaonjckfkaaaDoorHandH0
namespace Go.Proofs.YtohhaonjckfkaaaDoor.Hand
open Go.RowKit Go.Proofs.YtohhaonjckfkaaaDoorW.PrintWords Go.Proofs.YtohhaonjckfkaaaDoorW.PrintLast Go.Proofs.YtohhaonjckfkaaaDoorW.PrintMore
attribute [local go_sem] max2_int min2_int max_two min_two max_three min_three max_four min_four
set_option linter.unusedVariables false
set_option linter.unusedSimpArgs false

attribute [local go_sem] guarded_true
def has1 (t post : Int) : Int := if (Go.bits .and .i64 post 1 != 0) = true then Go.bits .or .i64 t 64 else t
def has2 (t post : Int) : Int := if (Go.bits .and .i64 post 2 != 0) = true then Go.bits .or .i64 t 32 else t
def hasT (k : Int) : Int := ([0, 7, 5, 1, 1, 0, 6, 8, 8, 32, 64, 0, 16] : List Int).getD k.toNat 0
def Nd.has (n : Nd) (x : Int) : Bool := if n.k < 1 then false else if 13 ≤ n.k then false else Go.bits .and .i64 (has2 (has1 (hasT n.k) n.post) n.post) x != 0

set_option maxHeartbeats 800000 in
set_option maxRecDepth 100000 in
theorem has_c (n : Nd) (s : Ns) (x : Int) (w : World) (hG : Tab w) :
    Calls Tryd.prog 42 #[n.val s, .int .i64 x] w fun e w' => e = .returned (.bool (n.has x)) ∧ Below w.heap.size w w' := by
  have huN := Tryd.underlying29
  unfold Nd.has
  by_cases c1 : n.k < 1
  · rw [if_pos c1]
    go_enter Tryd.func42, Tryd.ntmps42
    go_wp2
    go_ret
    exact ⟨rfl, (keep0 w _).1⟩
  · rw [if_neg c1]
    by_cases c2 : 13 ≤ n.k
    · rw [if_pos c2]
      go_enter Tryd.func42, Tryd.ntmps42
      go_wp2
      go_ret
      exact ⟨rfl, (keep0 w _).1⟩
    · rw [if_neg c2]
      obtain ⟨v, hv⟩ : ∃ v, ([0, 7, 5, 1, 1, 0, 6, 8, 8, 32, 64, 0, 16] : List Int)[n.k.toNat]? = some v := ⟨_, List.getElem?_eq_getElem (by simp; omega)⟩
      have hc := Tab.below hG (keep0 w (n.box s)).1 _ _ hv
      have hvt : hasT n.k = v := by unfold hasT; rw [List.getD_eq_getElem?_getD, hv]; rfl
      rw [hvt]
      clear hvt hv
      unfold has1 has2
      by_cases c3 : (Go.bits .and .i64 n.post 1 != 0) = true <;> by_cases c4 : (Go.bits .and .i64 n.post 2 != 0) = true
      · rw [if_pos c3, if_pos c4]
        go_enter Tryd.func42, Tryd.ntmps42
        go_wp2
        go_ret
        exact ⟨rfl, (keep0 w _).1⟩
      · rw [if_pos c3, if_neg c4]
        go_enter Tryd.func42, Tryd.ntmps42
        go_wp2
        go_ret
        exact ⟨rfl, (keep0 w _).1⟩
      · rw [if_neg c3, if_pos c4]
        go_enter Tryd.func42, Tryd.ntmps42
        go_wp2
        go_ret
        exact ⟨rfl, (keep0 w _).1⟩
      · rw [if_neg c3, if_neg c4]
        go_enter Tryd.func42, Tryd.ntmps42
        go_wp2
        go_ret
        exact ⟨rfl, (keep0 w _).1⟩
end Go.Proofs.YtohhaonjckfkaaaDoor.Hand
