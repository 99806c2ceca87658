/-
  NARROWER THAN 'FOR EVERY INPUT', by the rows' own cells (each row's printed sentence says how): WholeTells: laid · WholeNone: laid · WholeCounts: laid.
  DERIVED. THE GIVEN ROWS OF THIS SEAT. 3 by the template 'for every input the law returns true; each argument reads behind the call as it read before'; 0 by the template 'total and deterministic' (their statements: YtgomeljgbjgbkaaGreatDoorTotals.lean).
  GIVEN WITH THE SEED: the statements are not yours to turn. If you find one false, say at which input.
  Laid BY PROGRAM, IN A SANDBOX (cutbox-rows.mjs): the forced cells as the released guide's own fill.sh prints them over the translation a4cb77ffee49370f… (all of the seat's roots in one cut). By AI agents, Wed Nov 11 2026. No macro, syntax, notation, axiom, sorry.
-/
import Derived.Test.YtgomeljgbjgbkaaGreatDoorChecked
import GoSem.Claim
import GoSem.ClaimJoined
import GoSem.ClaimMapViews
import Derived.JoinedTies
import Derived.KernelRfl
namespace Go.Proofs.YtgomeljgbjgbkaaGreatDoor
/- THE CELL 'sum', in the pinned program and in every row, IS THE sha256 OF THE DUMP (.gsa) THAT YtgomeljgbjgbkaaGreatDoorProg.lean LOADS. Nothing in Lean hashes anything: it is a label: what it is worth is what the hold of that sum in a sandbox is worth. -/
noncomputable def Tryz.pinned : Pinned := { name := "ytgomeljgbjgbkaagreatdoor", sum := "a4cb77ffee49370fe32293d3f4c4a9b8c84b9162d89f9a4343e565ad566becf7", checked := Tryz.checked }
namespace Rows
def none {H : Type} : Left H := { results := [], args := [] }

/- WHAT THE LISTED PACKAGE-LEVEL VARIABLES READ AS WHEN THE CALL BEGINS. Each datum BY PROGRAM (the guide's laid-datum.mjs) off the statement by which the dump's own 'gosem.cut.vars' lays the variable. In a bare row this is a premise. The card (YtgomeljgbjgbkaaGreatDoorCards.lean) ties it to the program's text. -/
def laid_earshot_kind_kinds {H : Type} : DataW H := .agg [.lit (.int .i64 0), .lit (.int .i64 7), .lit (.int .i64 5), .lit (.int .i64 1), .lit (.int .i64 1), .lit (.int .i64 0), .lit (.int .i64 6), .lit (.int .i64 8), .lit (.int .i64 8), .lit (.int .i64 32), .lit (.int .i64 64), .lit (.int .i64 0), .lit (.int .i64 16)]

/-- 'earshotlaw18.WholeTells': WHATEVER THE INPUT: true; the input reads as it did. -/
def wholeTellsSpec : ChangeSpec := { name := "wholeTells", fn := fun _ => fun
  | [d] => { results := [.lit (.bool true)], args := [d] }
  | _ => none }
def wholeTellsRow : OpenClaim := { program := "ytgomeljgbjgbkaagreatdoor", sum := "a4cb77ffee49370fe32293d3f4c4a9b8c84b9162d89f9a4343e565ad566becf7", func := "earshot/earshotlaw18.WholeTells", spec := "wholeTells", unfollowed := true, recurses := true, named := ["earshot/kind.kinds"], apart := false, laid := [("earshot/kind.kinds", laid_earshot_kind_kinds)] }
def WholeTellsSaid : Prop := wholeTellsRow.holds Tryz.pinned (OpenSpec.ofChange wholeTellsSpec)

/-- ITS FALSE NEIGHBOUR: 'it returns false'. Refute it at one input. -/
def wholeTellsWrong : ChangeSpec := { name := "wholeTells", fn := fun _ => fun
  | [d] => { results := [.lit (.bool false)], args := [d] }
  | _ => none }
def WholeTellsWrongFalsely : Prop := wholeTellsRow.holds Tryz.pinned (OpenSpec.ofChange wholeTellsWrong)

/-- 'earshotlaw18.WholeNone': WHATEVER THE INPUT: true; the input reads as it did. -/
def wholeNoneSpec : ChangeSpec := { name := "wholeNone", fn := fun _ => fun
  | [d1, d2, d3] => { results := [.lit (.bool true)], args := [d1, d2, d3] }
  | _ => none }
def wholeNoneRow : OpenClaim := { program := "ytgomeljgbjgbkaagreatdoor", sum := "a4cb77ffee49370fe32293d3f4c4a9b8c84b9162d89f9a4343e565ad566becf7", func := "earshot/earshotlaw18.WholeNone", spec := "wholeNone", unfollowed := true, recurses := true, named := ["earshot/kind.kinds"], apart := false, laid := [("earshot/kind.kinds", laid_earshot_kind_kinds)] }
def WholeNoneSaid : Prop := wholeNoneRow.holds Tryz.pinned (OpenSpec.ofChange wholeNoneSpec)

/-- ITS FALSE NEIGHBOUR: 'it returns false'. Refute it at one input. -/
def wholeNoneWrong : ChangeSpec := { name := "wholeNone", fn := fun _ => fun
  | [d1, d2, d3] => { results := [.lit (.bool false)], args := [d1, d2, d3] }
  | _ => none }
def WholeNoneWrongFalsely : Prop := wholeNoneRow.holds Tryz.pinned (OpenSpec.ofChange wholeNoneWrong)

/-- 'earshotlaw18.WholeCounts': WHATEVER THE INPUT: true; the input reads as it did. -/
def wholeCountsSpec : ChangeSpec := { name := "wholeCounts", fn := fun _ => fun
  | [d1, d2] => { results := [.lit (.bool true)], args := [d1, d2] }
  | _ => none }
def wholeCountsRow : OpenClaim := { program := "ytgomeljgbjgbkaagreatdoor", sum := "a4cb77ffee49370fe32293d3f4c4a9b8c84b9162d89f9a4343e565ad566becf7", func := "earshot/earshotlaw18.WholeCounts", spec := "wholeCounts", unfollowed := true, recurses := true, named := ["earshot/kind.kinds"], apart := false, laid := [("earshot/kind.kinds", laid_earshot_kind_kinds)] }
def WholeCountsSaid : Prop := wholeCountsRow.holds Tryz.pinned (OpenSpec.ofChange wholeCountsSpec)

/-- ITS FALSE NEIGHBOUR: 'it returns false'. Refute it at one input. -/
def wholeCountsWrong : ChangeSpec := { name := "wholeCounts", fn := fun _ => fun
  | [d1, d2] => { results := [.lit (.bool false)], args := [d1, d2] }
  | _ => none }
def WholeCountsWrongFalsely : Prop := wholeCountsRow.holds Tryz.pinned (OpenSpec.ofChange wholeCountsWrong)

/- THE SECOND FORM. 'bulk': how many values and letters a reading holds, each counted each time it is reached (what is shared counts as often as it is met; a slice's spare places count too). A statement '..UptoSaid' is the law's where the arguments, and the package variables that the reading takes, are together of bulk at most 1048576: NARROWER than '..Said'. Prove '..Said' where nothing that the law and all that it calls make is longer than what came in: it says more and counts as full. Else prove '..UptoSaid'. A law counts once. -/
mutual
def uptoBulk {H : Type} : DataW H → Nat
  | .lit (.string bytes) => bytes.length + 1
  | .lit _ => 1
  | .nil => 1
  | .ptr d => uptoBulk d + 1
  | .slice elems spare => uptoBulkAll elems + uptoBulkAll spare + 1
  | .agg parts => uptoBulkAll parts + 1
  | .iface _ d => uptoBulk d + 1
  | .map entries => uptoBulkEntries entries + 1
  | .held _ => 1
def uptoBulkAll {H : Type} : List (DataW H) → Nat
  | [] => 0
  | d :: r => uptoBulk d + uptoBulkAll r
def uptoBulkEntries {H : Type} : List (Lit × DataW H) → Nat
  | [] => 0
  | x :: r => uptoBulkEntry x + uptoBulkEntries r
def uptoBulkEntry {H : Type} : Lit × DataW H → Nat
  | (.string bytes, d) => bytes.length + uptoBulk d + 1
  | (_, d) => uptoBulk d + 1
 end
def uptoSmall : (H : Type) → List (DataW H) → Bool := fun _ ds => decide (uptoBulkAll ds ≤ 1048576)
def OpenSpec.upto (s : _root_.Go.ChangeSpec) : _root_.Go.OpenSpec := { _root_.Go.OpenSpec.ofChange s with cond := some uptoSmall }

/-- 'earshotlaw18.WholeTells', WHERE WHAT IT READS IS OF BULK AT MOST 1048576: true; the input reads as it did. -/
def wholeTellsUptoRow : OpenClaim := { program := "ytgomeljgbjgbkaagreatdoor", sum := "a4cb77ffee49370fe32293d3f4c4a9b8c84b9162d89f9a4343e565ad566becf7", func := "earshot/earshotlaw18.WholeTells", spec := "wholeTells", unfollowed := true, recurses := true, named := ["earshot/kind.kinds"], apart := false, laid := [("earshot/kind.kinds", laid_earshot_kind_kinds)], narrowed := true }
def WholeTellsUptoSaid : Prop := wholeTellsUptoRow.holds Tryz.pinned (OpenSpec.upto wholeTellsSpec)

/-- 'earshotlaw18.WholeNone', WHERE WHAT IT READS IS OF BULK AT MOST 1048576: true; the input reads as it did. -/
def wholeNoneUptoRow : OpenClaim := { program := "ytgomeljgbjgbkaagreatdoor", sum := "a4cb77ffee49370fe32293d3f4c4a9b8c84b9162d89f9a4343e565ad566becf7", func := "earshot/earshotlaw18.WholeNone", spec := "wholeNone", unfollowed := true, recurses := true, named := ["earshot/kind.kinds"], apart := false, laid := [("earshot/kind.kinds", laid_earshot_kind_kinds)], narrowed := true }
def WholeNoneUptoSaid : Prop := wholeNoneUptoRow.holds Tryz.pinned (OpenSpec.upto wholeNoneSpec)

/-- 'earshotlaw18.WholeCounts', WHERE WHAT IT READS IS OF BULK AT MOST 1048576: true; the input reads as it did. -/
def wholeCountsUptoRow : OpenClaim := { program := "ytgomeljgbjgbkaagreatdoor", sum := "a4cb77ffee49370fe32293d3f4c4a9b8c84b9162d89f9a4343e565ad566becf7", func := "earshot/earshotlaw18.WholeCounts", spec := "wholeCounts", unfollowed := true, recurses := true, named := ["earshot/kind.kinds"], apart := false, laid := [("earshot/kind.kinds", laid_earshot_kind_kinds)], narrowed := true }
def WholeCountsUptoSaid : Prop := wholeCountsUptoRow.holds Tryz.pinned (OpenSpec.upto wholeCountsSpec)

end Rows
end Go.Proofs.YtgomeljgbjgbkaaGreatDoor
