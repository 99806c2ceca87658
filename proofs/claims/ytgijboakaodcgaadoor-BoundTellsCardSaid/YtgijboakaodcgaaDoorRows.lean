/-
  NARROWER THAN 'FOR EVERY INPUT', by the rows' own cells (each row's printed sentence says how): KernelNone: laid · KernelSums: laid · KernelPost: laid · KernelTurned: laid · KernelWords: laid · KernelTells: laid · BoundTells: laid · BoundMet: laid · BoundWide: laid.
  DERIVED. THE GIVEN ROWS OF THIS SEAT. 9 by the template 'for every input the law returns true; each argument reads behind the call as it read before'; 0 by the template 'total and deterministic' (their statements: YtgijboakaodcgaaDoorTotals.lean).
  GIVEN WITH THE SEED: the statements are not yours to turn. If you find one false, say at which input.
  Laid BY PROGRAM, IN A SANDBOX (cutbox-rows.mjs): the forced cells as the released guide's own fill.sh prints them over the translation 83eca440939092c3… (all of the seat's roots in one cut). By AI agents, Wed Nov 11 2026. No macro, syntax, notation, axiom, sorry.
-/
import Derived.Test.YtgijboakaodcgaaDoorChecked
import GoSem.Claim
import GoSem.ClaimJoined
import GoSem.ClaimMapViews
import Derived.JoinedTies
import Derived.KernelRfl
namespace Go.Proofs.YtgijboakaodcgaaDoor
/- THE CELL 'sum', in the pinned program and in every row, IS THE sha256 OF THE DUMP (.gsa) THAT YtgijboakaodcgaaDoorProg.lean LOADS. Nothing in Lean hashes anything: it is a label: what it is worth is what the hold of that sum in a sandbox is worth. -/
noncomputable def Tryd.pinned : Pinned := { name := "ytgijboakaodcgaadoor", sum := "83eca440939092c38a7c77cfb42301305582580b0d915329a11828895ff01813", checked := Tryd.checked }
namespace Rows
def none {H : Type} : Left H := { results := [], args := [] }

/- WHAT THE LISTED PACKAGE-LEVEL VARIABLES READ AS WHEN THE CALL BEGINS. Each datum BY PROGRAM (the guide's laid-datum.mjs) off the statement by which the dump's own 'gosem.cut.vars' lays the variable. In a bare row this is a premise. The card (YtgijboakaodcgaaDoorCards.lean) ties it to the program's text. -/
def laid_earshot_kind_kinds {H : Type} : DataW H := .agg [.lit (.int .i64 0), .lit (.int .i64 7), .lit (.int .i64 5), .lit (.int .i64 1), .lit (.int .i64 1), .lit (.int .i64 0), .lit (.int .i64 6), .lit (.int .i64 8), .lit (.int .i64 8), .lit (.int .i64 32), .lit (.int .i64 64), .lit (.int .i64 0), .lit (.int .i64 16)]

/-- 'earshotlaw17.KernelNone': WHATEVER THE INPUT: true; the input reads as it did. -/
def kernelNoneSpec : ChangeSpec := { name := "kernelNone", fn := fun _ => fun
  | [d1, d2, d3] => { results := [.lit (.bool true)], args := [d1, d2, d3] }
  | _ => none }
def kernelNoneRow : OpenClaim := { program := "ytgijboakaodcgaadoor", sum := "83eca440939092c38a7c77cfb42301305582580b0d915329a11828895ff01813", func := "earshot/earshotlaw17.KernelNone", spec := "kernelNone", unfollowed := true, recurses := true, named := ["earshot/kind.kinds"], apart := false, laid := [("earshot/kind.kinds", laid_earshot_kind_kinds)] }
def KernelNoneSaid : Prop := kernelNoneRow.holds Tryd.pinned (OpenSpec.ofChange kernelNoneSpec)

/-- ITS FALSE NEIGHBOUR: 'it returns false'. Refute it at one input. -/
def kernelNoneWrong : ChangeSpec := { name := "kernelNone", fn := fun _ => fun
  | [d1, d2, d3] => { results := [.lit (.bool false)], args := [d1, d2, d3] }
  | _ => none }
def KernelNoneWrongFalsely : Prop := kernelNoneRow.holds Tryd.pinned (OpenSpec.ofChange kernelNoneWrong)

/-- 'earshotlaw17.KernelSums': WHATEVER THE INPUT: true; the input reads as it did. -/
def kernelSumsSpec : ChangeSpec := { name := "kernelSums", fn := fun _ => fun
  | [d1, d2] => { results := [.lit (.bool true)], args := [d1, d2] }
  | _ => none }
def kernelSumsRow : OpenClaim := { program := "ytgijboakaodcgaadoor", sum := "83eca440939092c38a7c77cfb42301305582580b0d915329a11828895ff01813", func := "earshot/earshotlaw17.KernelSums", spec := "kernelSums", unfollowed := true, recurses := true, named := ["earshot/kind.kinds"], apart := false, laid := [("earshot/kind.kinds", laid_earshot_kind_kinds)] }
def KernelSumsSaid : Prop := kernelSumsRow.holds Tryd.pinned (OpenSpec.ofChange kernelSumsSpec)

/-- ITS FALSE NEIGHBOUR: 'it returns false'. Refute it at one input. -/
def kernelSumsWrong : ChangeSpec := { name := "kernelSums", fn := fun _ => fun
  | [d1, d2] => { results := [.lit (.bool false)], args := [d1, d2] }
  | _ => none }
def KernelSumsWrongFalsely : Prop := kernelSumsRow.holds Tryd.pinned (OpenSpec.ofChange kernelSumsWrong)

/-- 'earshotlaw17.KernelPost': WHATEVER THE INPUT: true; the input reads as it did. -/
def kernelPostSpec : ChangeSpec := { name := "kernelPost", fn := fun _ => fun
  | [d] => { results := [.lit (.bool true)], args := [d] }
  | _ => none }
def kernelPostRow : OpenClaim := { program := "ytgijboakaodcgaadoor", sum := "83eca440939092c38a7c77cfb42301305582580b0d915329a11828895ff01813", func := "earshot/earshotlaw17.KernelPost", spec := "kernelPost", unfollowed := true, recurses := true, named := ["earshot/kind.kinds"], apart := false, laid := [("earshot/kind.kinds", laid_earshot_kind_kinds)] }
def KernelPostSaid : Prop := kernelPostRow.holds Tryd.pinned (OpenSpec.ofChange kernelPostSpec)

/-- ITS FALSE NEIGHBOUR: 'it returns false'. Refute it at one input. -/
def kernelPostWrong : ChangeSpec := { name := "kernelPost", fn := fun _ => fun
  | [d] => { results := [.lit (.bool false)], args := [d] }
  | _ => none }
def KernelPostWrongFalsely : Prop := kernelPostRow.holds Tryd.pinned (OpenSpec.ofChange kernelPostWrong)

/-- 'earshotlaw17.KernelTurned': WHATEVER THE INPUT: true; the input reads as it did. -/
def kernelTurnedSpec : ChangeSpec := { name := "kernelTurned", fn := fun _ => fun
  | [d1, d2, d3] => { results := [.lit (.bool true)], args := [d1, d2, d3] }
  | _ => none }
def kernelTurnedRow : OpenClaim := { program := "ytgijboakaodcgaadoor", sum := "83eca440939092c38a7c77cfb42301305582580b0d915329a11828895ff01813", func := "earshot/earshotlaw17.KernelTurned", spec := "kernelTurned", unfollowed := true, recurses := true, named := ["earshot/kind.kinds"], apart := false, laid := [("earshot/kind.kinds", laid_earshot_kind_kinds)] }
def KernelTurnedSaid : Prop := kernelTurnedRow.holds Tryd.pinned (OpenSpec.ofChange kernelTurnedSpec)

/-- ITS FALSE NEIGHBOUR: 'it returns false'. Refute it at one input. -/
def kernelTurnedWrong : ChangeSpec := { name := "kernelTurned", fn := fun _ => fun
  | [d1, d2, d3] => { results := [.lit (.bool false)], args := [d1, d2, d3] }
  | _ => none }
def KernelTurnedWrongFalsely : Prop := kernelTurnedRow.holds Tryd.pinned (OpenSpec.ofChange kernelTurnedWrong)

/-- 'earshotlaw17.KernelWords': WHATEVER THE INPUT: true; the input reads as it did. -/
def kernelWordsSpec : ChangeSpec := { name := "kernelWords", fn := fun _ => fun
  | [d] => { results := [.lit (.bool true)], args := [d] }
  | _ => none }
def kernelWordsRow : OpenClaim := { program := "ytgijboakaodcgaadoor", sum := "83eca440939092c38a7c77cfb42301305582580b0d915329a11828895ff01813", func := "earshot/earshotlaw17.KernelWords", spec := "kernelWords", unfollowed := true, recurses := true, named := ["earshot/kind.kinds"], apart := false, laid := [("earshot/kind.kinds", laid_earshot_kind_kinds)] }
def KernelWordsSaid : Prop := kernelWordsRow.holds Tryd.pinned (OpenSpec.ofChange kernelWordsSpec)

/-- ITS FALSE NEIGHBOUR: 'it returns false'. Refute it at one input. -/
def kernelWordsWrong : ChangeSpec := { name := "kernelWords", fn := fun _ => fun
  | [d] => { results := [.lit (.bool false)], args := [d] }
  | _ => none }
def KernelWordsWrongFalsely : Prop := kernelWordsRow.holds Tryd.pinned (OpenSpec.ofChange kernelWordsWrong)

/-- 'earshotlaw17.KernelTells': WHATEVER THE INPUT: true; the input reads as it did. -/
def kernelTellsSpec : ChangeSpec := { name := "kernelTells", fn := fun _ => fun
  | [d1, d2] => { results := [.lit (.bool true)], args := [d1, d2] }
  | _ => none }
def kernelTellsRow : OpenClaim := { program := "ytgijboakaodcgaadoor", sum := "83eca440939092c38a7c77cfb42301305582580b0d915329a11828895ff01813", func := "earshot/earshotlaw17.KernelTells", spec := "kernelTells", unfollowed := true, recurses := true, named := ["earshot/kind.kinds"], apart := false, laid := [("earshot/kind.kinds", laid_earshot_kind_kinds)] }
def KernelTellsSaid : Prop := kernelTellsRow.holds Tryd.pinned (OpenSpec.ofChange kernelTellsSpec)

/-- ITS FALSE NEIGHBOUR: 'it returns false'. Refute it at one input. -/
def kernelTellsWrong : ChangeSpec := { name := "kernelTells", fn := fun _ => fun
  | [d1, d2] => { results := [.lit (.bool false)], args := [d1, d2] }
  | _ => none }
def KernelTellsWrongFalsely : Prop := kernelTellsRow.holds Tryd.pinned (OpenSpec.ofChange kernelTellsWrong)

/-- 'earshotlaw20.BoundTells': WHATEVER THE INPUT: true; the input reads as it did. -/
def boundTellsSpec : ChangeSpec := { name := "boundTells", fn := fun _ => fun
  | [d1, d2, d3] => { results := [.lit (.bool true)], args := [d1, d2, d3] }
  | _ => none }
def boundTellsRow : OpenClaim := { program := "ytgijboakaodcgaadoor", sum := "83eca440939092c38a7c77cfb42301305582580b0d915329a11828895ff01813", func := "earshot/earshotlaw20.BoundTells", spec := "boundTells", unfollowed := true, recurses := true, named := ["earshot/kind.kinds"], apart := false, laid := [("earshot/kind.kinds", laid_earshot_kind_kinds)] }
def BoundTellsSaid : Prop := boundTellsRow.holds Tryd.pinned (OpenSpec.ofChange boundTellsSpec)

/-- ITS FALSE NEIGHBOUR: 'it returns false'. Refute it at one input. -/
def boundTellsWrong : ChangeSpec := { name := "boundTells", fn := fun _ => fun
  | [d1, d2, d3] => { results := [.lit (.bool false)], args := [d1, d2, d3] }
  | _ => none }
def BoundTellsWrongFalsely : Prop := boundTellsRow.holds Tryd.pinned (OpenSpec.ofChange boundTellsWrong)

/-- 'earshotlaw20.BoundMet': WHATEVER THE INPUT: true; the input reads as it did. -/
def boundMetSpec : ChangeSpec := { name := "boundMet", fn := fun _ => fun
  | [d1, d2, d3] => { results := [.lit (.bool true)], args := [d1, d2, d3] }
  | _ => none }
def boundMetRow : OpenClaim := { program := "ytgijboakaodcgaadoor", sum := "83eca440939092c38a7c77cfb42301305582580b0d915329a11828895ff01813", func := "earshot/earshotlaw20.BoundMet", spec := "boundMet", unfollowed := true, recurses := true, named := ["earshot/kind.kinds"], apart := false, laid := [("earshot/kind.kinds", laid_earshot_kind_kinds)] }
def BoundMetSaid : Prop := boundMetRow.holds Tryd.pinned (OpenSpec.ofChange boundMetSpec)

/-- ITS FALSE NEIGHBOUR: 'it returns false'. Refute it at one input. -/
def boundMetWrong : ChangeSpec := { name := "boundMet", fn := fun _ => fun
  | [d1, d2, d3] => { results := [.lit (.bool false)], args := [d1, d2, d3] }
  | _ => none }
def BoundMetWrongFalsely : Prop := boundMetRow.holds Tryd.pinned (OpenSpec.ofChange boundMetWrong)

/-- 'earshotlaw20.BoundWide': WHATEVER THE INPUT: true; the input reads as it did. -/
def boundWideSpec : ChangeSpec := { name := "boundWide", fn := fun _ => fun
  | [d1, d2] => { results := [.lit (.bool true)], args := [d1, d2] }
  | _ => none }
def boundWideRow : OpenClaim := { program := "ytgijboakaodcgaadoor", sum := "83eca440939092c38a7c77cfb42301305582580b0d915329a11828895ff01813", func := "earshot/earshotlaw20.BoundWide", spec := "boundWide", unfollowed := true, recurses := true, named := ["earshot/kind.kinds"], apart := false, laid := [("earshot/kind.kinds", laid_earshot_kind_kinds)] }
def BoundWideSaid : Prop := boundWideRow.holds Tryd.pinned (OpenSpec.ofChange boundWideSpec)

/-- ITS FALSE NEIGHBOUR: 'it returns false'. Refute it at one input. -/
def boundWideWrong : ChangeSpec := { name := "boundWide", fn := fun _ => fun
  | [d1, d2] => { results := [.lit (.bool false)], args := [d1, d2] }
  | _ => none }
def BoundWideWrongFalsely : Prop := boundWideRow.holds Tryd.pinned (OpenSpec.ofChange boundWideWrong)

/- THE SECOND FORM. 'bulk': how many values and letters a reading holds, each counted each time it is reached (what is shared counts as often as it is met; a slice's spare places count too). A statement '..UptoSaid' is the law's where the arguments, and the package variables that the reading takes, are together of bulk at most 1048576: NARROWER than '..Said'. Prove '..Said' where nothing that the law and all that it calls make is longer than what came in: it says more and counts as full. Else prove '..UptoSaid'. A law counts once. -/
mutual
def uptoBulk {H : Type} : DataW H → Nat
  | .lit (.string bytes) => bytes.length + 1
  | .lit _ => 1
  | .nil => 1
  | .ptr d => uptoBulk d + 1
  | .slice elems spare => uptoBulkAll elems + uptoBulkAll spare + 1
  | .agg parts => uptoBulkAll parts + 1
  | .iface _ d => uptoBulk d + 1
  | .map entries => uptoBulkEntries entries + 1
  | .held _ => 1
def uptoBulkAll {H : Type} : List (DataW H) → Nat
  | [] => 0
  | d :: r => uptoBulk d + uptoBulkAll r
def uptoBulkEntries {H : Type} : List (Lit × DataW H) → Nat
  | [] => 0
  | x :: r => uptoBulkEntry x + uptoBulkEntries r
def uptoBulkEntry {H : Type} : Lit × DataW H → Nat
  | (.string bytes, d) => bytes.length + uptoBulk d + 1
  | (_, d) => uptoBulk d + 1
 end
def uptoSmall : (H : Type) → List (DataW H) → Bool := fun _ ds => decide (uptoBulkAll ds ≤ 1048576)
def OpenSpec.upto (s : _root_.Go.ChangeSpec) : _root_.Go.OpenSpec := { _root_.Go.OpenSpec.ofChange s with cond := some uptoSmall }

/-- 'earshotlaw17.KernelNone', WHERE WHAT IT READS IS OF BULK AT MOST 1048576: true; the input reads as it did. -/
def kernelNoneUptoRow : OpenClaim := { program := "ytgijboakaodcgaadoor", sum := "83eca440939092c38a7c77cfb42301305582580b0d915329a11828895ff01813", func := "earshot/earshotlaw17.KernelNone", spec := "kernelNone", unfollowed := true, recurses := true, named := ["earshot/kind.kinds"], apart := false, laid := [("earshot/kind.kinds", laid_earshot_kind_kinds)], narrowed := true }
def KernelNoneUptoSaid : Prop := kernelNoneUptoRow.holds Tryd.pinned (OpenSpec.upto kernelNoneSpec)

/-- 'earshotlaw17.KernelSums', WHERE WHAT IT READS IS OF BULK AT MOST 1048576: true; the input reads as it did. -/
def kernelSumsUptoRow : OpenClaim := { program := "ytgijboakaodcgaadoor", sum := "83eca440939092c38a7c77cfb42301305582580b0d915329a11828895ff01813", func := "earshot/earshotlaw17.KernelSums", spec := "kernelSums", unfollowed := true, recurses := true, named := ["earshot/kind.kinds"], apart := false, laid := [("earshot/kind.kinds", laid_earshot_kind_kinds)], narrowed := true }
def KernelSumsUptoSaid : Prop := kernelSumsUptoRow.holds Tryd.pinned (OpenSpec.upto kernelSumsSpec)

/-- 'earshotlaw17.KernelPost', WHERE WHAT IT READS IS OF BULK AT MOST 1048576: true; the input reads as it did. -/
def kernelPostUptoRow : OpenClaim := { program := "ytgijboakaodcgaadoor", sum := "83eca440939092c38a7c77cfb42301305582580b0d915329a11828895ff01813", func := "earshot/earshotlaw17.KernelPost", spec := "kernelPost", unfollowed := true, recurses := true, named := ["earshot/kind.kinds"], apart := false, laid := [("earshot/kind.kinds", laid_earshot_kind_kinds)], narrowed := true }
def KernelPostUptoSaid : Prop := kernelPostUptoRow.holds Tryd.pinned (OpenSpec.upto kernelPostSpec)

/-- 'earshotlaw17.KernelTurned', WHERE WHAT IT READS IS OF BULK AT MOST 1048576: true; the input reads as it did. -/
def kernelTurnedUptoRow : OpenClaim := { program := "ytgijboakaodcgaadoor", sum := "83eca440939092c38a7c77cfb42301305582580b0d915329a11828895ff01813", func := "earshot/earshotlaw17.KernelTurned", spec := "kernelTurned", unfollowed := true, recurses := true, named := ["earshot/kind.kinds"], apart := false, laid := [("earshot/kind.kinds", laid_earshot_kind_kinds)], narrowed := true }
def KernelTurnedUptoSaid : Prop := kernelTurnedUptoRow.holds Tryd.pinned (OpenSpec.upto kernelTurnedSpec)

/-- 'earshotlaw17.KernelWords', WHERE WHAT IT READS IS OF BULK AT MOST 1048576: true; the input reads as it did. -/
def kernelWordsUptoRow : OpenClaim := { program := "ytgijboakaodcgaadoor", sum := "83eca440939092c38a7c77cfb42301305582580b0d915329a11828895ff01813", func := "earshot/earshotlaw17.KernelWords", spec := "kernelWords", unfollowed := true, recurses := true, named := ["earshot/kind.kinds"], apart := false, laid := [("earshot/kind.kinds", laid_earshot_kind_kinds)], narrowed := true }
def KernelWordsUptoSaid : Prop := kernelWordsUptoRow.holds Tryd.pinned (OpenSpec.upto kernelWordsSpec)

/-- 'earshotlaw17.KernelTells', WHERE WHAT IT READS IS OF BULK AT MOST 1048576: true; the input reads as it did. -/
def kernelTellsUptoRow : OpenClaim := { program := "ytgijboakaodcgaadoor", sum := "83eca440939092c38a7c77cfb42301305582580b0d915329a11828895ff01813", func := "earshot/earshotlaw17.KernelTells", spec := "kernelTells", unfollowed := true, recurses := true, named := ["earshot/kind.kinds"], apart := false, laid := [("earshot/kind.kinds", laid_earshot_kind_kinds)], narrowed := true }
def KernelTellsUptoSaid : Prop := kernelTellsUptoRow.holds Tryd.pinned (OpenSpec.upto kernelTellsSpec)

/-- 'earshotlaw20.BoundTells', WHERE WHAT IT READS IS OF BULK AT MOST 1048576: true; the input reads as it did. -/
def boundTellsUptoRow : OpenClaim := { program := "ytgijboakaodcgaadoor", sum := "83eca440939092c38a7c77cfb42301305582580b0d915329a11828895ff01813", func := "earshot/earshotlaw20.BoundTells", spec := "boundTells", unfollowed := true, recurses := true, named := ["earshot/kind.kinds"], apart := false, laid := [("earshot/kind.kinds", laid_earshot_kind_kinds)], narrowed := true }
def BoundTellsUptoSaid : Prop := boundTellsUptoRow.holds Tryd.pinned (OpenSpec.upto boundTellsSpec)

/-- 'earshotlaw20.BoundMet', WHERE WHAT IT READS IS OF BULK AT MOST 1048576: true; the input reads as it did. -/
def boundMetUptoRow : OpenClaim := { program := "ytgijboakaodcgaadoor", sum := "83eca440939092c38a7c77cfb42301305582580b0d915329a11828895ff01813", func := "earshot/earshotlaw20.BoundMet", spec := "boundMet", unfollowed := true, recurses := true, named := ["earshot/kind.kinds"], apart := false, laid := [("earshot/kind.kinds", laid_earshot_kind_kinds)], narrowed := true }
def BoundMetUptoSaid : Prop := boundMetUptoRow.holds Tryd.pinned (OpenSpec.upto boundMetSpec)

/-- 'earshotlaw20.BoundWide', WHERE WHAT IT READS IS OF BULK AT MOST 1048576: true; the input reads as it did. -/
def boundWideUptoRow : OpenClaim := { program := "ytgijboakaodcgaadoor", sum := "83eca440939092c38a7c77cfb42301305582580b0d915329a11828895ff01813", func := "earshot/earshotlaw20.BoundWide", spec := "boundWide", unfollowed := true, recurses := true, named := ["earshot/kind.kinds"], apart := false, laid := [("earshot/kind.kinds", laid_earshot_kind_kinds)], narrowed := true }
def BoundWideUptoSaid : Prop := boundWideUptoRow.holds Tryd.pinned (OpenSpec.upto boundWideSpec)

end Rows
end Go.Proofs.YtgijboakaodcgaaDoor
