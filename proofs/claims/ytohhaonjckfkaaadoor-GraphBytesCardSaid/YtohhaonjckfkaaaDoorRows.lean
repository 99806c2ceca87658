/-
  NARROWER THAN 'FOR EVERY INPUT', by the rows' own cells (each row's printed sentence says how): KindWindows: laid · KindLast: laid · KindMore: laid · KindChecks: laid · KindRaw: laid · GraphOrder: laid · GraphChecks: laid · GraphBytes: laid · GraphTold: laid · GraphCycle: laid · GraphTurned: laid.
  DERIVED. THE GIVEN ROWS OF THIS SEAT. 11 by the template 'for every input the law returns true; each argument reads behind the call as it read before'; 0 by the template 'total and deterministic' (their statements: YtohhaonjckfkaaaDoorTotals.lean).
  GIVEN WITH THE SEED: the statements are not yours to turn. If you find one false, say at which input.
  Laid BY PROGRAM, IN A SANDBOX (cutbox-rows.mjs): the forced cells as the released guide's own fill.sh prints them over the translation 7d0ad85691a07310… (all of the seat's roots in one cut). By AI agents, Wed Nov 11 2026. No macro, syntax, notation, axiom, sorry.
-/
import Derived.Test.YtohhaonjckfkaaaDoorChecked
import GoSem.Claim
import GoSem.ClaimJoined
import GoSem.ClaimMapViews
import Derived.JoinedTies
import Derived.KernelRfl
namespace Go.Proofs.YtohhaonjckfkaaaDoor
/- THE CELL 'sum', in the pinned program and in every row, IS THE sha256 OF THE DUMP (.gsa) THAT YtohhaonjckfkaaaDoorProg.lean LOADS. Nothing in Lean hashes anything: it is a label: what it is worth is what the hold of that sum in a sandbox is worth. -/
noncomputable def Tryd.pinned : Pinned := { name := "ytohhaonjckfkaaadoor", sum := "7d0ad85691a07310a32a2a567a9b7165cbff4c5f371c162b5ef20b23a3a75ac2", checked := Tryd.checked }
namespace Rows
def none {H : Type} : Left H := { results := [], args := [] }

/- WHAT THE LISTED PACKAGE-LEVEL VARIABLES READ AS WHEN THE CALL BEGINS. Each datum BY PROGRAM (the guide's laid-datum.mjs) off the statement by which the dump's own 'gosem.cut.vars' lays the variable. In a bare row this is a premise. The card (YtohhaonjckfkaaaDoorCards.lean) ties it to the program's text. -/
def laid_earshot_kind_kinds {H : Type} : DataW H := .agg [.lit (.int .i64 0), .lit (.int .i64 7), .lit (.int .i64 5), .lit (.int .i64 1), .lit (.int .i64 1), .lit (.int .i64 0), .lit (.int .i64 6), .lit (.int .i64 8), .lit (.int .i64 8), .lit (.int .i64 32), .lit (.int .i64 64), .lit (.int .i64 0), .lit (.int .i64 16)]

/-- 'earshotlaw14.KindWindows': WHATEVER THE INPUT: true; the input reads as it did. -/
def kindWindowsSpec : ChangeSpec := { name := "kindWindows", fn := fun _ => fun
  | [d1, d2, d3] => { results := [.lit (.bool true)], args := [d1, d2, d3] }
  | _ => none }
def kindWindowsRow : OpenClaim := { program := "ytohhaonjckfkaaadoor", sum := "7d0ad85691a07310a32a2a567a9b7165cbff4c5f371c162b5ef20b23a3a75ac2", func := "earshot/earshotlaw14.KindWindows", spec := "kindWindows", named := ["earshot/kind.kinds"], apart := false, laid := [("earshot/kind.kinds", laid_earshot_kind_kinds)] }
def KindWindowsSaid : Prop := kindWindowsRow.holds Tryd.pinned (OpenSpec.ofChange kindWindowsSpec)

/-- ITS FALSE NEIGHBOUR: 'it returns false'. Refute it at one input. -/
def kindWindowsWrong : ChangeSpec := { name := "kindWindows", fn := fun _ => fun
  | [d1, d2, d3] => { results := [.lit (.bool false)], args := [d1, d2, d3] }
  | _ => none }
def KindWindowsWrongFalsely : Prop := kindWindowsRow.holds Tryd.pinned (OpenSpec.ofChange kindWindowsWrong)

/-- 'earshotlaw14.KindLast': WHATEVER THE INPUT: true; the input reads as it did. -/
def kindLastSpec : ChangeSpec := { name := "kindLast", fn := fun _ => fun
  | [d1, d2, d3] => { results := [.lit (.bool true)], args := [d1, d2, d3] }
  | _ => none }
def kindLastRow : OpenClaim := { program := "ytohhaonjckfkaaadoor", sum := "7d0ad85691a07310a32a2a567a9b7165cbff4c5f371c162b5ef20b23a3a75ac2", func := "earshot/earshotlaw14.KindLast", spec := "kindLast", named := ["earshot/kind.kinds"], apart := false, laid := [("earshot/kind.kinds", laid_earshot_kind_kinds)] }
def KindLastSaid : Prop := kindLastRow.holds Tryd.pinned (OpenSpec.ofChange kindLastSpec)

/-- ITS FALSE NEIGHBOUR: 'it returns false'. Refute it at one input. -/
def kindLastWrong : ChangeSpec := { name := "kindLast", fn := fun _ => fun
  | [d1, d2, d3] => { results := [.lit (.bool false)], args := [d1, d2, d3] }
  | _ => none }
def KindLastWrongFalsely : Prop := kindLastRow.holds Tryd.pinned (OpenSpec.ofChange kindLastWrong)

/-- 'earshotlaw14.KindMore': WHATEVER THE INPUT: true; the input reads as it did. -/
def kindMoreSpec : ChangeSpec := { name := "kindMore", fn := fun _ => fun
  | [d1, d2] => { results := [.lit (.bool true)], args := [d1, d2] }
  | _ => none }
def kindMoreRow : OpenClaim := { program := "ytohhaonjckfkaaadoor", sum := "7d0ad85691a07310a32a2a567a9b7165cbff4c5f371c162b5ef20b23a3a75ac2", func := "earshot/earshotlaw14.KindMore", spec := "kindMore", named := ["earshot/kind.kinds"], apart := false, laid := [("earshot/kind.kinds", laid_earshot_kind_kinds)] }
def KindMoreSaid : Prop := kindMoreRow.holds Tryd.pinned (OpenSpec.ofChange kindMoreSpec)

/-- ITS FALSE NEIGHBOUR: 'it returns false'. Refute it at one input. -/
def kindMoreWrong : ChangeSpec := { name := "kindMore", fn := fun _ => fun
  | [d1, d2] => { results := [.lit (.bool false)], args := [d1, d2] }
  | _ => none }
def KindMoreWrongFalsely : Prop := kindMoreRow.holds Tryd.pinned (OpenSpec.ofChange kindMoreWrong)

/-- 'earshotlaw14.KindChecks': WHATEVER THE INPUT: true; the input reads as it did. -/
def kindChecksSpec : ChangeSpec := { name := "kindChecks", fn := fun _ => fun
  | [d1, d2, d3] => { results := [.lit (.bool true)], args := [d1, d2, d3] }
  | _ => none }
def kindChecksRow : OpenClaim := { program := "ytohhaonjckfkaaadoor", sum := "7d0ad85691a07310a32a2a567a9b7165cbff4c5f371c162b5ef20b23a3a75ac2", func := "earshot/earshotlaw14.KindChecks", spec := "kindChecks", named := ["earshot/kind.kinds"], apart := false, laid := [("earshot/kind.kinds", laid_earshot_kind_kinds)] }
def KindChecksSaid : Prop := kindChecksRow.holds Tryd.pinned (OpenSpec.ofChange kindChecksSpec)

/-- ITS FALSE NEIGHBOUR: 'it returns false'. Refute it at one input. -/
def kindChecksWrong : ChangeSpec := { name := "kindChecks", fn := fun _ => fun
  | [d1, d2, d3] => { results := [.lit (.bool false)], args := [d1, d2, d3] }
  | _ => none }
def KindChecksWrongFalsely : Prop := kindChecksRow.holds Tryd.pinned (OpenSpec.ofChange kindChecksWrong)

/-- 'earshotlaw14.KindRaw': WHATEVER THE INPUT: true; the input reads as it did. -/
def kindRawSpec : ChangeSpec := { name := "kindRaw", fn := fun _ => fun
  | [d1, d2] => { results := [.lit (.bool true)], args := [d1, d2] }
  | _ => none }
def kindRawRow : OpenClaim := { program := "ytohhaonjckfkaaadoor", sum := "7d0ad85691a07310a32a2a567a9b7165cbff4c5f371c162b5ef20b23a3a75ac2", func := "earshot/earshotlaw14.KindRaw", spec := "kindRaw", named := ["earshot/kind.kinds"], apart := false, laid := [("earshot/kind.kinds", laid_earshot_kind_kinds)] }
def KindRawSaid : Prop := kindRawRow.holds Tryd.pinned (OpenSpec.ofChange kindRawSpec)

/-- ITS FALSE NEIGHBOUR: 'it returns false'. Refute it at one input. -/
def kindRawWrong : ChangeSpec := { name := "kindRaw", fn := fun _ => fun
  | [d1, d2] => { results := [.lit (.bool false)], args := [d1, d2] }
  | _ => none }
def KindRawWrongFalsely : Prop := kindRawRow.holds Tryd.pinned (OpenSpec.ofChange kindRawWrong)

/-- 'earshotlaw16.GraphOrder': WHATEVER THE INPUT: true; the input reads as it did. -/
def graphOrderSpec : ChangeSpec := { name := "graphOrder", fn := fun _ => fun
  | [d] => { results := [.lit (.bool true)], args := [d] }
  | _ => none }
def graphOrderRow : OpenClaim := { program := "ytohhaonjckfkaaadoor", sum := "7d0ad85691a07310a32a2a567a9b7165cbff4c5f371c162b5ef20b23a3a75ac2", func := "earshot/earshotlaw16.GraphOrder", spec := "graphOrder", unfollowed := true, recurses := true, named := ["earshot/kind.kinds"], apart := false, laid := [("earshot/kind.kinds", laid_earshot_kind_kinds)] }
def GraphOrderSaid : Prop := graphOrderRow.holds Tryd.pinned (OpenSpec.ofChange graphOrderSpec)

/-- ITS FALSE NEIGHBOUR: 'it returns false'. Refute it at one input. -/
def graphOrderWrong : ChangeSpec := { name := "graphOrder", fn := fun _ => fun
  | [d] => { results := [.lit (.bool false)], args := [d] }
  | _ => none }
def GraphOrderWrongFalsely : Prop := graphOrderRow.holds Tryd.pinned (OpenSpec.ofChange graphOrderWrong)

/-- 'earshotlaw16.GraphChecks': WHATEVER THE INPUT: true; the input reads as it did. -/
def graphChecksSpec : ChangeSpec := { name := "graphChecks", fn := fun _ => fun
  | [d1, d2] => { results := [.lit (.bool true)], args := [d1, d2] }
  | _ => none }
def graphChecksRow : OpenClaim := { program := "ytohhaonjckfkaaadoor", sum := "7d0ad85691a07310a32a2a567a9b7165cbff4c5f371c162b5ef20b23a3a75ac2", func := "earshot/earshotlaw16.GraphChecks", spec := "graphChecks", unfollowed := true, recurses := true, named := ["earshot/kind.kinds"], apart := false, laid := [("earshot/kind.kinds", laid_earshot_kind_kinds)] }
def GraphChecksSaid : Prop := graphChecksRow.holds Tryd.pinned (OpenSpec.ofChange graphChecksSpec)

/-- ITS FALSE NEIGHBOUR: 'it returns false'. Refute it at one input. -/
def graphChecksWrong : ChangeSpec := { name := "graphChecks", fn := fun _ => fun
  | [d1, d2] => { results := [.lit (.bool false)], args := [d1, d2] }
  | _ => none }
def GraphChecksWrongFalsely : Prop := graphChecksRow.holds Tryd.pinned (OpenSpec.ofChange graphChecksWrong)

/-- 'earshotlaw16.GraphBytes': WHATEVER THE INPUT: true; the input reads as it did. -/
def graphBytesSpec : ChangeSpec := { name := "graphBytes", fn := fun _ => fun
  | [d1, d2] => { results := [.lit (.bool true)], args := [d1, d2] }
  | _ => none }
def graphBytesRow : OpenClaim := { program := "ytohhaonjckfkaaadoor", sum := "7d0ad85691a07310a32a2a567a9b7165cbff4c5f371c162b5ef20b23a3a75ac2", func := "earshot/earshotlaw16.GraphBytes", spec := "graphBytes", unfollowed := true, recurses := true, named := ["earshot/kind.kinds"], apart := false, laid := [("earshot/kind.kinds", laid_earshot_kind_kinds)] }
def GraphBytesSaid : Prop := graphBytesRow.holds Tryd.pinned (OpenSpec.ofChange graphBytesSpec)

/-- ITS FALSE NEIGHBOUR: 'it returns false'. Refute it at one input. -/
def graphBytesWrong : ChangeSpec := { name := "graphBytes", fn := fun _ => fun
  | [d1, d2] => { results := [.lit (.bool false)], args := [d1, d2] }
  | _ => none }
def GraphBytesWrongFalsely : Prop := graphBytesRow.holds Tryd.pinned (OpenSpec.ofChange graphBytesWrong)

/-- 'earshotlaw16.GraphTold': WHATEVER THE INPUT: true; the input reads as it did. -/
def graphToldSpec : ChangeSpec := { name := "graphTold", fn := fun _ => fun
  | [d] => { results := [.lit (.bool true)], args := [d] }
  | _ => none }
def graphToldRow : OpenClaim := { program := "ytohhaonjckfkaaadoor", sum := "7d0ad85691a07310a32a2a567a9b7165cbff4c5f371c162b5ef20b23a3a75ac2", func := "earshot/earshotlaw16.GraphTold", spec := "graphTold", unfollowed := true, recurses := true, named := ["earshot/kind.kinds"], apart := false, laid := [("earshot/kind.kinds", laid_earshot_kind_kinds)] }
def GraphToldSaid : Prop := graphToldRow.holds Tryd.pinned (OpenSpec.ofChange graphToldSpec)

/-- ITS FALSE NEIGHBOUR: 'it returns false'. Refute it at one input. -/
def graphToldWrong : ChangeSpec := { name := "graphTold", fn := fun _ => fun
  | [d] => { results := [.lit (.bool false)], args := [d] }
  | _ => none }
def GraphToldWrongFalsely : Prop := graphToldRow.holds Tryd.pinned (OpenSpec.ofChange graphToldWrong)

/-- 'earshotlaw16.GraphCycle': WHATEVER THE INPUT: true; the input reads as it did. -/
def graphCycleSpec : ChangeSpec := { name := "graphCycle", fn := fun _ => fun
  | [d1, d2] => { results := [.lit (.bool true)], args := [d1, d2] }
  | _ => none }
def graphCycleRow : OpenClaim := { program := "ytohhaonjckfkaaadoor", sum := "7d0ad85691a07310a32a2a567a9b7165cbff4c5f371c162b5ef20b23a3a75ac2", func := "earshot/earshotlaw16.GraphCycle", spec := "graphCycle", unfollowed := true, recurses := true, named := ["earshot/kind.kinds"], apart := false, laid := [("earshot/kind.kinds", laid_earshot_kind_kinds)] }
def GraphCycleSaid : Prop := graphCycleRow.holds Tryd.pinned (OpenSpec.ofChange graphCycleSpec)

/-- ITS FALSE NEIGHBOUR: 'it returns false'. Refute it at one input. -/
def graphCycleWrong : ChangeSpec := { name := "graphCycle", fn := fun _ => fun
  | [d1, d2] => { results := [.lit (.bool false)], args := [d1, d2] }
  | _ => none }
def GraphCycleWrongFalsely : Prop := graphCycleRow.holds Tryd.pinned (OpenSpec.ofChange graphCycleWrong)

/-- 'earshotlaw16.GraphTurned': WHATEVER THE INPUT: true; the input reads as it did. -/
def graphTurnedSpec : ChangeSpec := { name := "graphTurned", fn := fun _ => fun
  | [d1, d2] => { results := [.lit (.bool true)], args := [d1, d2] }
  | _ => none }
def graphTurnedRow : OpenClaim := { program := "ytohhaonjckfkaaadoor", sum := "7d0ad85691a07310a32a2a567a9b7165cbff4c5f371c162b5ef20b23a3a75ac2", func := "earshot/earshotlaw16.GraphTurned", spec := "graphTurned", unfollowed := true, recurses := true, named := ["earshot/kind.kinds"], apart := false, laid := [("earshot/kind.kinds", laid_earshot_kind_kinds)] }
def GraphTurnedSaid : Prop := graphTurnedRow.holds Tryd.pinned (OpenSpec.ofChange graphTurnedSpec)

/-- ITS FALSE NEIGHBOUR: 'it returns false'. Refute it at one input. -/
def graphTurnedWrong : ChangeSpec := { name := "graphTurned", fn := fun _ => fun
  | [d1, d2] => { results := [.lit (.bool false)], args := [d1, d2] }
  | _ => none }
def GraphTurnedWrongFalsely : Prop := graphTurnedRow.holds Tryd.pinned (OpenSpec.ofChange graphTurnedWrong)

/- THE SECOND FORM. 'bulk': how many values and letters a reading holds, each counted each time it is reached (what is shared counts as often as it is met; a slice's spare places count too). A statement '..UptoSaid' is the law's where the arguments, and the package variables that the reading takes, are together of bulk at most 1048576: NARROWER than '..Said'. Prove '..Said' where nothing that the law and all that it calls make is longer than what came in: it says more and counts as full. Else prove '..UptoSaid'. A law counts once. -/
mutual
def uptoBulk {H : Type} : DataW H → Nat
  | .lit (.string bytes) => bytes.length + 1
  | .lit _ => 1
  | .nil => 1
  | .ptr d => uptoBulk d + 1
  | .slice elems spare => uptoBulkAll elems + uptoBulkAll spare + 1
  | .agg parts => uptoBulkAll parts + 1
  | .iface _ d => uptoBulk d + 1
  | .map entries => uptoBulkEntries entries + 1
  | .held _ => 1
def uptoBulkAll {H : Type} : List (DataW H) → Nat
  | [] => 0
  | d :: r => uptoBulk d + uptoBulkAll r
def uptoBulkEntries {H : Type} : List (Lit × DataW H) → Nat
  | [] => 0
  | x :: r => uptoBulkEntry x + uptoBulkEntries r
def uptoBulkEntry {H : Type} : Lit × DataW H → Nat
  | (.string bytes, d) => bytes.length + uptoBulk d + 1
  | (_, d) => uptoBulk d + 1
 end
def uptoSmall : (H : Type) → List (DataW H) → Bool := fun _ ds => decide (uptoBulkAll ds ≤ 1048576)
def OpenSpec.upto (s : _root_.Go.ChangeSpec) : _root_.Go.OpenSpec := { _root_.Go.OpenSpec.ofChange s with cond := some uptoSmall }

/-- 'earshotlaw14.KindWindows', WHERE WHAT IT READS IS OF BULK AT MOST 1048576: true; the input reads as it did. -/
def kindWindowsUptoRow : OpenClaim := { program := "ytohhaonjckfkaaadoor", sum := "7d0ad85691a07310a32a2a567a9b7165cbff4c5f371c162b5ef20b23a3a75ac2", func := "earshot/earshotlaw14.KindWindows", spec := "kindWindows", named := ["earshot/kind.kinds"], apart := false, laid := [("earshot/kind.kinds", laid_earshot_kind_kinds)], narrowed := true }
def KindWindowsUptoSaid : Prop := kindWindowsUptoRow.holds Tryd.pinned (OpenSpec.upto kindWindowsSpec)

/-- 'earshotlaw14.KindLast', WHERE WHAT IT READS IS OF BULK AT MOST 1048576: true; the input reads as it did. -/
def kindLastUptoRow : OpenClaim := { program := "ytohhaonjckfkaaadoor", sum := "7d0ad85691a07310a32a2a567a9b7165cbff4c5f371c162b5ef20b23a3a75ac2", func := "earshot/earshotlaw14.KindLast", spec := "kindLast", named := ["earshot/kind.kinds"], apart := false, laid := [("earshot/kind.kinds", laid_earshot_kind_kinds)], narrowed := true }
def KindLastUptoSaid : Prop := kindLastUptoRow.holds Tryd.pinned (OpenSpec.upto kindLastSpec)

/-- 'earshotlaw14.KindMore', WHERE WHAT IT READS IS OF BULK AT MOST 1048576: true; the input reads as it did. -/
def kindMoreUptoRow : OpenClaim := { program := "ytohhaonjckfkaaadoor", sum := "7d0ad85691a07310a32a2a567a9b7165cbff4c5f371c162b5ef20b23a3a75ac2", func := "earshot/earshotlaw14.KindMore", spec := "kindMore", named := ["earshot/kind.kinds"], apart := false, laid := [("earshot/kind.kinds", laid_earshot_kind_kinds)], narrowed := true }
def KindMoreUptoSaid : Prop := kindMoreUptoRow.holds Tryd.pinned (OpenSpec.upto kindMoreSpec)

/-- 'earshotlaw14.KindChecks', WHERE WHAT IT READS IS OF BULK AT MOST 1048576: true; the input reads as it did. -/
def kindChecksUptoRow : OpenClaim := { program := "ytohhaonjckfkaaadoor", sum := "7d0ad85691a07310a32a2a567a9b7165cbff4c5f371c162b5ef20b23a3a75ac2", func := "earshot/earshotlaw14.KindChecks", spec := "kindChecks", named := ["earshot/kind.kinds"], apart := false, laid := [("earshot/kind.kinds", laid_earshot_kind_kinds)], narrowed := true }
def KindChecksUptoSaid : Prop := kindChecksUptoRow.holds Tryd.pinned (OpenSpec.upto kindChecksSpec)

/-- 'earshotlaw14.KindRaw', WHERE WHAT IT READS IS OF BULK AT MOST 1048576: true; the input reads as it did. -/
def kindRawUptoRow : OpenClaim := { program := "ytohhaonjckfkaaadoor", sum := "7d0ad85691a07310a32a2a567a9b7165cbff4c5f371c162b5ef20b23a3a75ac2", func := "earshot/earshotlaw14.KindRaw", spec := "kindRaw", named := ["earshot/kind.kinds"], apart := false, laid := [("earshot/kind.kinds", laid_earshot_kind_kinds)], narrowed := true }
def KindRawUptoSaid : Prop := kindRawUptoRow.holds Tryd.pinned (OpenSpec.upto kindRawSpec)

/-- 'earshotlaw16.GraphOrder', WHERE WHAT IT READS IS OF BULK AT MOST 1048576: true; the input reads as it did. -/
def graphOrderUptoRow : OpenClaim := { program := "ytohhaonjckfkaaadoor", sum := "7d0ad85691a07310a32a2a567a9b7165cbff4c5f371c162b5ef20b23a3a75ac2", func := "earshot/earshotlaw16.GraphOrder", spec := "graphOrder", unfollowed := true, recurses := true, named := ["earshot/kind.kinds"], apart := false, laid := [("earshot/kind.kinds", laid_earshot_kind_kinds)], narrowed := true }
def GraphOrderUptoSaid : Prop := graphOrderUptoRow.holds Tryd.pinned (OpenSpec.upto graphOrderSpec)

/-- 'earshotlaw16.GraphChecks', WHERE WHAT IT READS IS OF BULK AT MOST 1048576: true; the input reads as it did. -/
def graphChecksUptoRow : OpenClaim := { program := "ytohhaonjckfkaaadoor", sum := "7d0ad85691a07310a32a2a567a9b7165cbff4c5f371c162b5ef20b23a3a75ac2", func := "earshot/earshotlaw16.GraphChecks", spec := "graphChecks", unfollowed := true, recurses := true, named := ["earshot/kind.kinds"], apart := false, laid := [("earshot/kind.kinds", laid_earshot_kind_kinds)], narrowed := true }
def GraphChecksUptoSaid : Prop := graphChecksUptoRow.holds Tryd.pinned (OpenSpec.upto graphChecksSpec)

/-- 'earshotlaw16.GraphBytes', WHERE WHAT IT READS IS OF BULK AT MOST 1048576: true; the input reads as it did. -/
def graphBytesUptoRow : OpenClaim := { program := "ytohhaonjckfkaaadoor", sum := "7d0ad85691a07310a32a2a567a9b7165cbff4c5f371c162b5ef20b23a3a75ac2", func := "earshot/earshotlaw16.GraphBytes", spec := "graphBytes", unfollowed := true, recurses := true, named := ["earshot/kind.kinds"], apart := false, laid := [("earshot/kind.kinds", laid_earshot_kind_kinds)], narrowed := true }
def GraphBytesUptoSaid : Prop := graphBytesUptoRow.holds Tryd.pinned (OpenSpec.upto graphBytesSpec)

/-- 'earshotlaw16.GraphTold', WHERE WHAT IT READS IS OF BULK AT MOST 1048576: true; the input reads as it did. -/
def graphToldUptoRow : OpenClaim := { program := "ytohhaonjckfkaaadoor", sum := "7d0ad85691a07310a32a2a567a9b7165cbff4c5f371c162b5ef20b23a3a75ac2", func := "earshot/earshotlaw16.GraphTold", spec := "graphTold", unfollowed := true, recurses := true, named := ["earshot/kind.kinds"], apart := false, laid := [("earshot/kind.kinds", laid_earshot_kind_kinds)], narrowed := true }
def GraphToldUptoSaid : Prop := graphToldUptoRow.holds Tryd.pinned (OpenSpec.upto graphToldSpec)

/-- 'earshotlaw16.GraphCycle', WHERE WHAT IT READS IS OF BULK AT MOST 1048576: true; the input reads as it did. -/
def graphCycleUptoRow : OpenClaim := { program := "ytohhaonjckfkaaadoor", sum := "7d0ad85691a07310a32a2a567a9b7165cbff4c5f371c162b5ef20b23a3a75ac2", func := "earshot/earshotlaw16.GraphCycle", spec := "graphCycle", unfollowed := true, recurses := true, named := ["earshot/kind.kinds"], apart := false, laid := [("earshot/kind.kinds", laid_earshot_kind_kinds)], narrowed := true }
def GraphCycleUptoSaid : Prop := graphCycleUptoRow.holds Tryd.pinned (OpenSpec.upto graphCycleSpec)

/-- 'earshotlaw16.GraphTurned', WHERE WHAT IT READS IS OF BULK AT MOST 1048576: true; the input reads as it did. -/
def graphTurnedUptoRow : OpenClaim := { program := "ytohhaonjckfkaaadoor", sum := "7d0ad85691a07310a32a2a567a9b7165cbff4c5f371c162b5ef20b23a3a75ac2", func := "earshot/earshotlaw16.GraphTurned", spec := "graphTurned", unfollowed := true, recurses := true, named := ["earshot/kind.kinds"], apart := false, laid := [("earshot/kind.kinds", laid_earshot_kind_kinds)], narrowed := true }
def GraphTurnedUptoSaid : Prop := graphTurnedUptoRow.holds Tryd.pinned (OpenSpec.upto graphTurnedSpec)

end Rows
end Go.Proofs.YtohhaonjckfkaaaDoor
