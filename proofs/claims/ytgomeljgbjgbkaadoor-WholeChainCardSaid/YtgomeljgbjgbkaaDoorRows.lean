/-
  NARROWER THAN 'FOR EVERY INPUT', by the rows' own cells (each row's printed sentence says how): FieldReady: laid · FieldReach: laid · FieldAhead: laid · FieldMacs: laid · FieldTells: laid · WholeReady: laid · WholeChain: laid · WholeLater: laid.
  DERIVED. THE GIVEN ROWS OF THIS SEAT. 8 by the template 'for every input the law returns true; each argument reads behind the call as it read before'; 0 by the template 'total and deterministic' (their statements: YtgomeljgbjgbkaaDoorTotals.lean).
  GIVEN WITH THE SEED: the statements are not yours to turn. If you find one false, say at which input.
  Laid BY PROGRAM, IN A SANDBOX (cutbox-rows.mjs): the forced cells as the released guide's own fill.sh prints them over the translation 5a97ffa7c91c7ee3… (all of the seat's roots in one cut). By AI agents, Wed Nov 11 2026. No macro, syntax, notation, axiom, sorry.
-/
import Derived.Test.YtgomeljgbjgbkaaDoorChecked
import GoSem.Claim
import GoSem.ClaimJoined
import GoSem.ClaimMapViews
import Derived.JoinedTies
import Derived.KernelRfl
namespace Go.Proofs.YtgomeljgbjgbkaaDoor
/- THE CELL 'sum', in the pinned program and in every row, IS THE sha256 OF THE DUMP (.gsa) THAT YtgomeljgbjgbkaaDoorProg.lean LOADS. Nothing in Lean hashes anything: it is a label: what it is worth is what the hold of that sum in a sandbox is worth. -/
noncomputable def Tryd.pinned : Pinned := { name := "ytgomeljgbjgbkaadoor", sum := "5a97ffa7c91c7ee39abd2ae414eb9c0f6eeae2f17871f572e87f91923af97648", checked := Tryd.checked }
namespace Rows
def none {H : Type} : Left H := { results := [], args := [] }

/- WHAT THE LISTED PACKAGE-LEVEL VARIABLES READ AS WHEN THE CALL BEGINS. Each datum BY PROGRAM (the guide's laid-datum.mjs) off the statement by which the dump's own 'gosem.cut.vars' lays the variable. In a bare row this is a premise. The card (YtgomeljgbjgbkaaDoorCards.lean) ties it to the program's text. -/
def laid_earshot_kind_kinds {H : Type} : DataW H := .agg [.lit (.int .i64 0), .lit (.int .i64 7), .lit (.int .i64 5), .lit (.int .i64 1), .lit (.int .i64 1), .lit (.int .i64 0), .lit (.int .i64 6), .lit (.int .i64 8), .lit (.int .i64 8), .lit (.int .i64 32), .lit (.int .i64 64), .lit (.int .i64 0), .lit (.int .i64 16)]

/-- 'earshotlaw19.FieldReady': WHATEVER THE INPUT: true; the input reads as it did. -/
def fieldReadySpec : ChangeSpec := { name := "fieldReady", fn := fun _ => fun
  | [d1, d2] => { results := [.lit (.bool true)], args := [d1, d2] }
  | _ => none }
def fieldReadyRow : OpenClaim := { program := "ytgomeljgbjgbkaadoor", sum := "5a97ffa7c91c7ee39abd2ae414eb9c0f6eeae2f17871f572e87f91923af97648", func := "earshot/earshotlaw19.FieldReady", spec := "fieldReady", unfollowed := true, recurses := true, named := ["earshot/kind.kinds"], apart := false, laid := [("earshot/kind.kinds", laid_earshot_kind_kinds)] }
def FieldReadySaid : Prop := fieldReadyRow.holds Tryd.pinned (OpenSpec.ofChange fieldReadySpec)

/-- ITS FALSE NEIGHBOUR: 'it returns false'. Refute it at one input. -/
def fieldReadyWrong : ChangeSpec := { name := "fieldReady", fn := fun _ => fun
  | [d1, d2] => { results := [.lit (.bool false)], args := [d1, d2] }
  | _ => none }
def FieldReadyWrongFalsely : Prop := fieldReadyRow.holds Tryd.pinned (OpenSpec.ofChange fieldReadyWrong)

/-- 'earshotlaw19.FieldReach': WHATEVER THE INPUT: true; the input reads as it did. -/
def fieldReachSpec : ChangeSpec := { name := "fieldReach", fn := fun _ => fun
  | [d1, d2, d3] => { results := [.lit (.bool true)], args := [d1, d2, d3] }
  | _ => none }
def fieldReachRow : OpenClaim := { program := "ytgomeljgbjgbkaadoor", sum := "5a97ffa7c91c7ee39abd2ae414eb9c0f6eeae2f17871f572e87f91923af97648", func := "earshot/earshotlaw19.FieldReach", spec := "fieldReach", unfollowed := true, recurses := true, named := ["earshot/kind.kinds"], apart := false, laid := [("earshot/kind.kinds", laid_earshot_kind_kinds)] }
def FieldReachSaid : Prop := fieldReachRow.holds Tryd.pinned (OpenSpec.ofChange fieldReachSpec)

/-- ITS FALSE NEIGHBOUR: 'it returns false'. Refute it at one input. -/
def fieldReachWrong : ChangeSpec := { name := "fieldReach", fn := fun _ => fun
  | [d1, d2, d3] => { results := [.lit (.bool false)], args := [d1, d2, d3] }
  | _ => none }
def FieldReachWrongFalsely : Prop := fieldReachRow.holds Tryd.pinned (OpenSpec.ofChange fieldReachWrong)

/-- 'earshotlaw19.FieldAhead': WHATEVER THE INPUT: true; the input reads as it did. -/
def fieldAheadSpec : ChangeSpec := { name := "fieldAhead", fn := fun _ => fun
  | [d1, d2] => { results := [.lit (.bool true)], args := [d1, d2] }
  | _ => none }
def fieldAheadRow : OpenClaim := { program := "ytgomeljgbjgbkaadoor", sum := "5a97ffa7c91c7ee39abd2ae414eb9c0f6eeae2f17871f572e87f91923af97648", func := "earshot/earshotlaw19.FieldAhead", spec := "fieldAhead", unfollowed := true, recurses := true, named := ["earshot/kind.kinds"], apart := false, laid := [("earshot/kind.kinds", laid_earshot_kind_kinds)] }
def FieldAheadSaid : Prop := fieldAheadRow.holds Tryd.pinned (OpenSpec.ofChange fieldAheadSpec)

/-- ITS FALSE NEIGHBOUR: 'it returns false'. Refute it at one input. -/
def fieldAheadWrong : ChangeSpec := { name := "fieldAhead", fn := fun _ => fun
  | [d1, d2] => { results := [.lit (.bool false)], args := [d1, d2] }
  | _ => none }
def FieldAheadWrongFalsely : Prop := fieldAheadRow.holds Tryd.pinned (OpenSpec.ofChange fieldAheadWrong)

/-- 'earshotlaw19.FieldMacs': WHATEVER THE INPUT: true; the input reads as it did. -/
def fieldMacsSpec : ChangeSpec := { name := "fieldMacs", fn := fun _ => fun
  | [d] => { results := [.lit (.bool true)], args := [d] }
  | _ => none }
def fieldMacsRow : OpenClaim := { program := "ytgomeljgbjgbkaadoor", sum := "5a97ffa7c91c7ee39abd2ae414eb9c0f6eeae2f17871f572e87f91923af97648", func := "earshot/earshotlaw19.FieldMacs", spec := "fieldMacs", unfollowed := true, recurses := true, named := ["earshot/kind.kinds"], apart := false, laid := [("earshot/kind.kinds", laid_earshot_kind_kinds)] }
def FieldMacsSaid : Prop := fieldMacsRow.holds Tryd.pinned (OpenSpec.ofChange fieldMacsSpec)

/-- ITS FALSE NEIGHBOUR: 'it returns false'. Refute it at one input. -/
def fieldMacsWrong : ChangeSpec := { name := "fieldMacs", fn := fun _ => fun
  | [d] => { results := [.lit (.bool false)], args := [d] }
  | _ => none }
def FieldMacsWrongFalsely : Prop := fieldMacsRow.holds Tryd.pinned (OpenSpec.ofChange fieldMacsWrong)

/-- 'earshotlaw19.FieldTells': WHATEVER THE INPUT: true; the input reads as it did. -/
def fieldTellsSpec : ChangeSpec := { name := "fieldTells", fn := fun _ => fun
  | [d1, d2] => { results := [.lit (.bool true)], args := [d1, d2] }
  | _ => none }
def fieldTellsRow : OpenClaim := { program := "ytgomeljgbjgbkaadoor", sum := "5a97ffa7c91c7ee39abd2ae414eb9c0f6eeae2f17871f572e87f91923af97648", func := "earshot/earshotlaw19.FieldTells", spec := "fieldTells", unfollowed := true, recurses := true, named := ["earshot/kind.kinds"], apart := false, laid := [("earshot/kind.kinds", laid_earshot_kind_kinds)] }
def FieldTellsSaid : Prop := fieldTellsRow.holds Tryd.pinned (OpenSpec.ofChange fieldTellsSpec)

/-- ITS FALSE NEIGHBOUR: 'it returns false'. Refute it at one input. -/
def fieldTellsWrong : ChangeSpec := { name := "fieldTells", fn := fun _ => fun
  | [d1, d2] => { results := [.lit (.bool false)], args := [d1, d2] }
  | _ => none }
def FieldTellsWrongFalsely : Prop := fieldTellsRow.holds Tryd.pinned (OpenSpec.ofChange fieldTellsWrong)

/-- 'earshotlaw18.WholeReady': WHATEVER THE INPUT: true; the input reads as it did. -/
def wholeReadySpec : ChangeSpec := { name := "wholeReady", fn := fun _ => fun
  | [d1, d2] => { results := [.lit (.bool true)], args := [d1, d2] }
  | _ => none }
def wholeReadyRow : OpenClaim := { program := "ytgomeljgbjgbkaadoor", sum := "5a97ffa7c91c7ee39abd2ae414eb9c0f6eeae2f17871f572e87f91923af97648", func := "earshot/earshotlaw18.WholeReady", spec := "wholeReady", unfollowed := true, recurses := true, named := ["earshot/kind.kinds"], apart := false, laid := [("earshot/kind.kinds", laid_earshot_kind_kinds)] }
def WholeReadySaid : Prop := wholeReadyRow.holds Tryd.pinned (OpenSpec.ofChange wholeReadySpec)

/-- ITS FALSE NEIGHBOUR: 'it returns false'. Refute it at one input. -/
def wholeReadyWrong : ChangeSpec := { name := "wholeReady", fn := fun _ => fun
  | [d1, d2] => { results := [.lit (.bool false)], args := [d1, d2] }
  | _ => none }
def WholeReadyWrongFalsely : Prop := wholeReadyRow.holds Tryd.pinned (OpenSpec.ofChange wholeReadyWrong)

/-- 'earshotlaw18.WholeChain': WHATEVER THE INPUT: true; the input reads as it did. -/
def wholeChainSpec : ChangeSpec := { name := "wholeChain", fn := fun _ => fun
  | [d1, d2] => { results := [.lit (.bool true)], args := [d1, d2] }
  | _ => none }
def wholeChainRow : OpenClaim := { program := "ytgomeljgbjgbkaadoor", sum := "5a97ffa7c91c7ee39abd2ae414eb9c0f6eeae2f17871f572e87f91923af97648", func := "earshot/earshotlaw18.WholeChain", spec := "wholeChain", unfollowed := true, recurses := true, named := ["earshot/kind.kinds"], apart := false, laid := [("earshot/kind.kinds", laid_earshot_kind_kinds)] }
def WholeChainSaid : Prop := wholeChainRow.holds Tryd.pinned (OpenSpec.ofChange wholeChainSpec)

/-- ITS FALSE NEIGHBOUR: 'it returns false'. Refute it at one input. -/
def wholeChainWrong : ChangeSpec := { name := "wholeChain", fn := fun _ => fun
  | [d1, d2] => { results := [.lit (.bool false)], args := [d1, d2] }
  | _ => none }
def WholeChainWrongFalsely : Prop := wholeChainRow.holds Tryd.pinned (OpenSpec.ofChange wholeChainWrong)

/-- 'earshotlaw18.WholeLater': WHATEVER THE INPUT: true; the input reads as it did. -/
def wholeLaterSpec : ChangeSpec := { name := "wholeLater", fn := fun _ => fun
  | [d1, d2] => { results := [.lit (.bool true)], args := [d1, d2] }
  | _ => none }
def wholeLaterRow : OpenClaim := { program := "ytgomeljgbjgbkaadoor", sum := "5a97ffa7c91c7ee39abd2ae414eb9c0f6eeae2f17871f572e87f91923af97648", func := "earshot/earshotlaw18.WholeLater", spec := "wholeLater", unfollowed := true, recurses := true, named := ["earshot/kind.kinds"], apart := false, laid := [("earshot/kind.kinds", laid_earshot_kind_kinds)] }
def WholeLaterSaid : Prop := wholeLaterRow.holds Tryd.pinned (OpenSpec.ofChange wholeLaterSpec)

/-- ITS FALSE NEIGHBOUR: 'it returns false'. Refute it at one input. -/
def wholeLaterWrong : ChangeSpec := { name := "wholeLater", fn := fun _ => fun
  | [d1, d2] => { results := [.lit (.bool false)], args := [d1, d2] }
  | _ => none }
def WholeLaterWrongFalsely : Prop := wholeLaterRow.holds Tryd.pinned (OpenSpec.ofChange wholeLaterWrong)

/- THE SECOND FORM. 'bulk': how many values and letters a reading holds, each counted each time it is reached (what is shared counts as often as it is met; a slice's spare places count too). A statement '..UptoSaid' is the law's where the arguments, and the package variables that the reading takes, are together of bulk at most 1048576: NARROWER than '..Said'. Prove '..Said' where nothing that the law and all that it calls make is longer than what came in: it says more and counts as full. Else prove '..UptoSaid'. A law counts once. -/
mutual
def uptoBulk {H : Type} : DataW H → Nat
  | .lit (.string bytes) => bytes.length + 1
  | .lit _ => 1
  | .nil => 1
  | .ptr d => uptoBulk d + 1
  | .slice elems spare => uptoBulkAll elems + uptoBulkAll spare + 1
  | .agg parts => uptoBulkAll parts + 1
  | .iface _ d => uptoBulk d + 1
  | .map entries => uptoBulkEntries entries + 1
  | .held _ => 1
def uptoBulkAll {H : Type} : List (DataW H) → Nat
  | [] => 0
  | d :: r => uptoBulk d + uptoBulkAll r
def uptoBulkEntries {H : Type} : List (Lit × DataW H) → Nat
  | [] => 0
  | x :: r => uptoBulkEntry x + uptoBulkEntries r
def uptoBulkEntry {H : Type} : Lit × DataW H → Nat
  | (.string bytes, d) => bytes.length + uptoBulk d + 1
  | (_, d) => uptoBulk d + 1
 end
def uptoSmall : (H : Type) → List (DataW H) → Bool := fun _ ds => decide (uptoBulkAll ds ≤ 1048576)
def OpenSpec.upto (s : _root_.Go.ChangeSpec) : _root_.Go.OpenSpec := { _root_.Go.OpenSpec.ofChange s with cond := some uptoSmall }

/-- 'earshotlaw19.FieldReady', WHERE WHAT IT READS IS OF BULK AT MOST 1048576: true; the input reads as it did. -/
def fieldReadyUptoRow : OpenClaim := { program := "ytgomeljgbjgbkaadoor", sum := "5a97ffa7c91c7ee39abd2ae414eb9c0f6eeae2f17871f572e87f91923af97648", func := "earshot/earshotlaw19.FieldReady", spec := "fieldReady", unfollowed := true, recurses := true, named := ["earshot/kind.kinds"], apart := false, laid := [("earshot/kind.kinds", laid_earshot_kind_kinds)], narrowed := true }
def FieldReadyUptoSaid : Prop := fieldReadyUptoRow.holds Tryd.pinned (OpenSpec.upto fieldReadySpec)

/-- 'earshotlaw19.FieldReach', WHERE WHAT IT READS IS OF BULK AT MOST 1048576: true; the input reads as it did. -/
def fieldReachUptoRow : OpenClaim := { program := "ytgomeljgbjgbkaadoor", sum := "5a97ffa7c91c7ee39abd2ae414eb9c0f6eeae2f17871f572e87f91923af97648", func := "earshot/earshotlaw19.FieldReach", spec := "fieldReach", unfollowed := true, recurses := true, named := ["earshot/kind.kinds"], apart := false, laid := [("earshot/kind.kinds", laid_earshot_kind_kinds)], narrowed := true }
def FieldReachUptoSaid : Prop := fieldReachUptoRow.holds Tryd.pinned (OpenSpec.upto fieldReachSpec)

/-- 'earshotlaw19.FieldAhead', WHERE WHAT IT READS IS OF BULK AT MOST 1048576: true; the input reads as it did. -/
def fieldAheadUptoRow : OpenClaim := { program := "ytgomeljgbjgbkaadoor", sum := "5a97ffa7c91c7ee39abd2ae414eb9c0f6eeae2f17871f572e87f91923af97648", func := "earshot/earshotlaw19.FieldAhead", spec := "fieldAhead", unfollowed := true, recurses := true, named := ["earshot/kind.kinds"], apart := false, laid := [("earshot/kind.kinds", laid_earshot_kind_kinds)], narrowed := true }
def FieldAheadUptoSaid : Prop := fieldAheadUptoRow.holds Tryd.pinned (OpenSpec.upto fieldAheadSpec)

/-- 'earshotlaw19.FieldMacs', WHERE WHAT IT READS IS OF BULK AT MOST 1048576: true; the input reads as it did. -/
def fieldMacsUptoRow : OpenClaim := { program := "ytgomeljgbjgbkaadoor", sum := "5a97ffa7c91c7ee39abd2ae414eb9c0f6eeae2f17871f572e87f91923af97648", func := "earshot/earshotlaw19.FieldMacs", spec := "fieldMacs", unfollowed := true, recurses := true, named := ["earshot/kind.kinds"], apart := false, laid := [("earshot/kind.kinds", laid_earshot_kind_kinds)], narrowed := true }
def FieldMacsUptoSaid : Prop := fieldMacsUptoRow.holds Tryd.pinned (OpenSpec.upto fieldMacsSpec)

/-- 'earshotlaw19.FieldTells', WHERE WHAT IT READS IS OF BULK AT MOST 1048576: true; the input reads as it did. -/
def fieldTellsUptoRow : OpenClaim := { program := "ytgomeljgbjgbkaadoor", sum := "5a97ffa7c91c7ee39abd2ae414eb9c0f6eeae2f17871f572e87f91923af97648", func := "earshot/earshotlaw19.FieldTells", spec := "fieldTells", unfollowed := true, recurses := true, named := ["earshot/kind.kinds"], apart := false, laid := [("earshot/kind.kinds", laid_earshot_kind_kinds)], narrowed := true }
def FieldTellsUptoSaid : Prop := fieldTellsUptoRow.holds Tryd.pinned (OpenSpec.upto fieldTellsSpec)

/-- 'earshotlaw18.WholeReady', WHERE WHAT IT READS IS OF BULK AT MOST 1048576: true; the input reads as it did. -/
def wholeReadyUptoRow : OpenClaim := { program := "ytgomeljgbjgbkaadoor", sum := "5a97ffa7c91c7ee39abd2ae414eb9c0f6eeae2f17871f572e87f91923af97648", func := "earshot/earshotlaw18.WholeReady", spec := "wholeReady", unfollowed := true, recurses := true, named := ["earshot/kind.kinds"], apart := false, laid := [("earshot/kind.kinds", laid_earshot_kind_kinds)], narrowed := true }
def WholeReadyUptoSaid : Prop := wholeReadyUptoRow.holds Tryd.pinned (OpenSpec.upto wholeReadySpec)

/-- 'earshotlaw18.WholeChain', WHERE WHAT IT READS IS OF BULK AT MOST 1048576: true; the input reads as it did. -/
def wholeChainUptoRow : OpenClaim := { program := "ytgomeljgbjgbkaadoor", sum := "5a97ffa7c91c7ee39abd2ae414eb9c0f6eeae2f17871f572e87f91923af97648", func := "earshot/earshotlaw18.WholeChain", spec := "wholeChain", unfollowed := true, recurses := true, named := ["earshot/kind.kinds"], apart := false, laid := [("earshot/kind.kinds", laid_earshot_kind_kinds)], narrowed := true }
def WholeChainUptoSaid : Prop := wholeChainUptoRow.holds Tryd.pinned (OpenSpec.upto wholeChainSpec)

/-- 'earshotlaw18.WholeLater', WHERE WHAT IT READS IS OF BULK AT MOST 1048576: true; the input reads as it did. -/
def wholeLaterUptoRow : OpenClaim := { program := "ytgomeljgbjgbkaadoor", sum := "5a97ffa7c91c7ee39abd2ae414eb9c0f6eeae2f17871f572e87f91923af97648", func := "earshot/earshotlaw18.WholeLater", spec := "wholeLater", unfollowed := true, recurses := true, named := ["earshot/kind.kinds"], apart := false, laid := [("earshot/kind.kinds", laid_earshot_kind_kinds)], narrowed := true }
def WholeLaterUptoSaid : Prop := wholeLaterUptoRow.holds Tryd.pinned (OpenSpec.upto wholeLaterSpec)

end Rows
end Go.Proofs.YtgomeljgbjgbkaaDoor
