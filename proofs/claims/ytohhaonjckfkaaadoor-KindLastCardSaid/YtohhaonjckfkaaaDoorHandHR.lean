/- Contracts of Go functions that the laws of this seat reach, by hand: each call returns what the Lean function of its name tells. Conditions: those that each theorem names, none else. -/
import Derived.Test.YtohhaonjckfkaaaDoorHandH23
import Derived.Test.YtohhaonjckfkaaaDoorHandQ4
namespace Go.Proofs.YtohhaonjckfkaaaDoor.Hand
open Go.RowKit Go.Proofs.YtohhaonjckfkaaaDoorW.PrintWords Go.Proofs.YtohhaonjckfkaaaDoorW.PrintLast Go.Proofs.YtohhaonjckfkaaaDoorW.PrintMore
attribute [local go_sem] max2_int min2_int max_two min_two max_three min_three max_four min_four
set_option linter.unusedVariables false
set_option linter.unusedSimpArgs false

attribute [local go_sem] guarded_true
theorem R1 (W : World) (base : Nat) (x : Int) (hb : base ≤ W.heap.size) : Kd.R (Kd.int .i64) 3 (W.alloc (.cells #[.int .i64 x] 3)) base (fun _ => True) (.slice (some ⟨W.heap.size, 0, none⟩) 1 1) [x] :=
  Kd.R_of_own (by have h := World.ownsRow_lit (base := base) (e := 3) (size := 1) W #[.int .i64 x] 1 hb (by decide) rfl; simpa [encs] using h) (fun _ _ => trivial)
theorem ready_m (n : Nd) (s : Ns) (A : Option Addr) (c m : Nat) (l : List Int) (w : World) (r : Int) (hm : m = l.length) (hG : Tab w) (hr : Kd.C (Kd.int .i64) w A l.length l) (hc : l.length ≤ c) (hl : l.length ≤ 4096) (h0 : n.stp ≠ 0) (h : n.ready l = r) :
    Calls Tryd.prog 20 #[n.val s, .slice A m c] w fun e w' => e = .returned (.int .i64 r) ∧ Below w.heap.size w w' := by
  subst hm h; exact Ready_c n s A c l w hG hr hc hl h0
theorem count_m (n : Nd) (s : Ns) (A : Option Addr) (c m : Nat) (l : List Int) (w : World) (r : Int) (hm : m = l.length) (hG : Tab w) (hr : Kd.C (Kd.int .i64) w A l.length l) (hc : l.length ≤ c) (hl : l.length ≤ 4096) (h0 : n.stp ≠ 0) (h : n.count l = r) :
    Calls Tryd.prog 21 #[n.val s, .slice A m c] w fun e w' => e = .returned (.int .i64 r) ∧ Below w.heap.size w w' := by
  subst hm h; exact Count_c n s A c l w hG hr hc hl h0
end Go.Proofs.YtohhaonjckfkaaaDoor.Hand
