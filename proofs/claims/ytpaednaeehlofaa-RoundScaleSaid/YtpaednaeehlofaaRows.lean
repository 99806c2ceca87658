/-
  No cell of these rows narrows 'for every input' (looked for: loops, veiled, ifaces, maps, wideKeys, modest, calm, conditions, laid).
  DERIVED. THE GIVEN ROWS OF THIS SEAT. 10 by the template 'for every input the law returns true; each argument reads behind the call as it read before'; 0 by the template 'total and deterministic' (their statements: YtpaednaeehlofaaTotals.lean).
  GIVEN WITH THE SEED: the statements are not yours to turn. If you find one false, say at which input.
  Laid BY PROGRAM, IN A SANDBOX (cutbox-rows.mjs): the forced cells as the released guide's own fill.sh prints them over the translation 29170f549a654577… (all of the seat's roots in one cut). By AI agents, Wed Nov 11 2026. No macro, syntax, notation, axiom, sorry.
-/
import Derived.Test.YtpaednaeehlofaaChecked
import GoSem.Claim
import GoSem.ClaimJoined
import GoSem.ClaimMapViews
import Derived.JoinedTies
import Derived.KernelRfl
namespace Go.Proofs.Ytpaednaeehlofaa
/- THE CELL 'sum', in the pinned program and in every row, IS THE sha256 OF THE DUMP (.gsa) THAT YtpaednaeehlofaaProg.lean LOADS. Nothing in Lean hashes anything: it is a label: what it is worth is what the hold of that sum in a sandbox is worth. -/
noncomputable def Try.pinned : Pinned := { name := "ytpaednaeehlofaa", sum := "29170f549a654577e58f84bde40be63b34b9b86585bac6039ac62bc00e05f357", checked := Try.checked }
namespace Rows
def none {H : Type} : Left H := { results := [], args := [] }

/-- 'earshotlaw01.SatOrder': WHATEVER THE INPUT: true; the input reads as it did. -/
def satOrderSpec : ChangeSpec := { name := "satOrder", fn := fun _ => fun
  | [d1, d2, d3] => { results := [.lit (.bool true)], args := [d1, d2, d3] }
  | _ => none }
def satOrderRow : OpenClaim := { program := "ytpaednaeehlofaa", sum := "29170f549a654577e58f84bde40be63b34b9b86585bac6039ac62bc00e05f357", func := "earshot/earshotlaw01.SatOrder", spec := "satOrder", unfollowed := true, recurses := true, apart := false }
def SatOrderSaid : Prop := satOrderRow.holds Try.pinned (OpenSpec.ofChange satOrderSpec)

/-- ITS FALSE NEIGHBOUR: 'it returns false'. Refute it at one input. -/
def satOrderWrong : ChangeSpec := { name := "satOrder", fn := fun _ => fun
  | [d1, d2, d3] => { results := [.lit (.bool false)], args := [d1, d2, d3] }
  | _ => none }
def SatOrderWrongFalsely : Prop := satOrderRow.holds Try.pinned (OpenSpec.ofChange satOrderWrong)

/-- 'earshotlaw01.SatSum': WHATEVER THE INPUT: true; the input reads as it did. -/
def satSumSpec : ChangeSpec := { name := "satSum", fn := fun _ => fun
  | [d1, d2] => { results := [.lit (.bool true)], args := [d1, d2] }
  | _ => none }
def satSumRow : OpenClaim := { program := "ytpaednaeehlofaa", sum := "29170f549a654577e58f84bde40be63b34b9b86585bac6039ac62bc00e05f357", func := "earshot/earshotlaw01.SatSum", spec := "satSum", unfollowed := true, recurses := true, apart := false }
def SatSumSaid : Prop := satSumRow.holds Try.pinned (OpenSpec.ofChange satSumSpec)

/-- ITS FALSE NEIGHBOUR: 'it returns false'. Refute it at one input. -/
def satSumWrong : ChangeSpec := { name := "satSum", fn := fun _ => fun
  | [d1, d2] => { results := [.lit (.bool false)], args := [d1, d2] }
  | _ => none }
def SatSumWrongFalsely : Prop := satSumRow.holds Try.pinned (OpenSpec.ofChange satSumWrong)

/-- 'earshotlaw01.SatAdds': WHATEVER THE INPUT: true; the input reads as it did. -/
def satAddsSpec : ChangeSpec := { name := "satAdds", fn := fun _ => fun
  | [d1, d2, d3] => { results := [.lit (.bool true)], args := [d1, d2, d3] }
  | _ => none }
def satAddsRow : OpenClaim := { program := "ytpaednaeehlofaa", sum := "29170f549a654577e58f84bde40be63b34b9b86585bac6039ac62bc00e05f357", func := "earshot/earshotlaw01.SatAdds", spec := "satAdds", unfollowed := true, recurses := true, apart := false }
def SatAddsSaid : Prop := satAddsRow.holds Try.pinned (OpenSpec.ofChange satAddsSpec)

/-- ITS FALSE NEIGHBOUR: 'it returns false'. Refute it at one input. -/
def satAddsWrong : ChangeSpec := { name := "satAdds", fn := fun _ => fun
  | [d1, d2, d3] => { results := [.lit (.bool false)], args := [d1, d2, d3] }
  | _ => none }
def SatAddsWrongFalsely : Prop := satAddsRow.holds Try.pinned (OpenSpec.ofChange satAddsWrong)

/-- 'earshotlaw01.SatTells': WHATEVER THE INPUT: true; the input reads as it did. -/
def satTellsSpec : ChangeSpec := { name := "satTells", fn := fun _ => fun
  | [d1, d2, d3] => { results := [.lit (.bool true)], args := [d1, d2, d3] }
  | _ => none }
def satTellsRow : OpenClaim := { program := "ytpaednaeehlofaa", sum := "29170f549a654577e58f84bde40be63b34b9b86585bac6039ac62bc00e05f357", func := "earshot/earshotlaw01.SatTells", spec := "satTells", unfollowed := true, recurses := true, apart := false }
def SatTellsSaid : Prop := satTellsRow.holds Try.pinned (OpenSpec.ofChange satTellsSpec)

/-- ITS FALSE NEIGHBOUR: 'it returns false'. Refute it at one input. -/
def satTellsWrong : ChangeSpec := { name := "satTells", fn := fun _ => fun
  | [d1, d2, d3] => { results := [.lit (.bool false)], args := [d1, d2, d3] }
  | _ => none }
def SatTellsWrongFalsely : Prop := satTellsRow.holds Try.pinned (OpenSpec.ofChange satTellsWrong)

/-- 'earshotlaw01.SatMul': WHATEVER THE INPUT: true; the input reads as it did. -/
def satMulSpec : ChangeSpec := { name := "satMul", fn := fun _ => fun
  | [d1, d2, d3] => { results := [.lit (.bool true)], args := [d1, d2, d3] }
  | _ => none }
def satMulRow : OpenClaim := { program := "ytpaednaeehlofaa", sum := "29170f549a654577e58f84bde40be63b34b9b86585bac6039ac62bc00e05f357", func := "earshot/earshotlaw01.SatMul", spec := "satMul", unfollowed := true, recurses := true, apart := false }
def SatMulSaid : Prop := satMulRow.holds Try.pinned (OpenSpec.ofChange satMulSpec)

/-- ITS FALSE NEIGHBOUR: 'it returns false'. Refute it at one input. -/
def satMulWrong : ChangeSpec := { name := "satMul", fn := fun _ => fun
  | [d1, d2, d3] => { results := [.lit (.bool false)], args := [d1, d2, d3] }
  | _ => none }
def SatMulWrongFalsely : Prop := satMulRow.holds Try.pinned (OpenSpec.ofChange satMulWrong)

/-- 'earshotlaw02.RoundNear': WHATEVER THE INPUT: true; the input reads as it did. -/
def roundNearSpec : ChangeSpec := { name := "roundNear", fn := fun _ => fun
  | [d1, d2, d3] => { results := [.lit (.bool true)], args := [d1, d2, d3] }
  | _ => none }
def roundNearRow : OpenClaim := { program := "ytpaednaeehlofaa", sum := "29170f549a654577e58f84bde40be63b34b9b86585bac6039ac62bc00e05f357", func := "earshot/earshotlaw02.RoundNear", spec := "roundNear", unfollowed := true, recurses := true, apart := false }
def RoundNearSaid : Prop := roundNearRow.holds Try.pinned (OpenSpec.ofChange roundNearSpec)

/-- ITS FALSE NEIGHBOUR: 'it returns false'. Refute it at one input. -/
def roundNearWrong : ChangeSpec := { name := "roundNear", fn := fun _ => fun
  | [d1, d2, d3] => { results := [.lit (.bool false)], args := [d1, d2, d3] }
  | _ => none }
def RoundNearWrongFalsely : Prop := roundNearRow.holds Try.pinned (OpenSpec.ofChange roundNearWrong)

/-- 'earshotlaw02.RoundOrder': WHATEVER THE INPUT: true; the input reads as it did. -/
def roundOrderSpec : ChangeSpec := { name := "roundOrder", fn := fun _ => fun
  | [d1, d2, d3] => { results := [.lit (.bool true)], args := [d1, d2, d3] }
  | _ => none }
def roundOrderRow : OpenClaim := { program := "ytpaednaeehlofaa", sum := "29170f549a654577e58f84bde40be63b34b9b86585bac6039ac62bc00e05f357", func := "earshot/earshotlaw02.RoundOrder", spec := "roundOrder", unfollowed := true, recurses := true, apart := false }
def RoundOrderSaid : Prop := roundOrderRow.holds Try.pinned (OpenSpec.ofChange roundOrderSpec)

/-- ITS FALSE NEIGHBOUR: 'it returns false'. Refute it at one input. -/
def roundOrderWrong : ChangeSpec := { name := "roundOrder", fn := fun _ => fun
  | [d1, d2, d3] => { results := [.lit (.bool false)], args := [d1, d2, d3] }
  | _ => none }
def RoundOrderWrongFalsely : Prop := roundOrderRow.holds Try.pinned (OpenSpec.ofChange roundOrderWrong)

/-- 'earshotlaw02.RoundScale': WHATEVER THE INPUT: true; the input reads as it did. -/
def roundScaleSpec : ChangeSpec := { name := "roundScale", fn := fun _ => fun
  | [d1, d2, d3] => { results := [.lit (.bool true)], args := [d1, d2, d3] }
  | _ => none }
def roundScaleRow : OpenClaim := { program := "ytpaednaeehlofaa", sum := "29170f549a654577e58f84bde40be63b34b9b86585bac6039ac62bc00e05f357", func := "earshot/earshotlaw02.RoundScale", spec := "roundScale", unfollowed := true, recurses := true, apart := false }
def RoundScaleSaid : Prop := roundScaleRow.holds Try.pinned (OpenSpec.ofChange roundScaleSpec)

/-- ITS FALSE NEIGHBOUR: 'it returns false'. Refute it at one input. -/
def roundScaleWrong : ChangeSpec := { name := "roundScale", fn := fun _ => fun
  | [d1, d2, d3] => { results := [.lit (.bool false)], args := [d1, d2, d3] }
  | _ => none }
def RoundScaleWrongFalsely : Prop := roundScaleRow.holds Try.pinned (OpenSpec.ofChange roundScaleWrong)

/-- 'earshotlaw02.RoundTells': WHATEVER THE INPUT: true; the input reads as it did. -/
def roundTellsSpec : ChangeSpec := { name := "roundTells", fn := fun _ => fun
  | [d1, d2] => { results := [.lit (.bool true)], args := [d1, d2] }
  | _ => none }
def roundTellsRow : OpenClaim := { program := "ytpaednaeehlofaa", sum := "29170f549a654577e58f84bde40be63b34b9b86585bac6039ac62bc00e05f357", func := "earshot/earshotlaw02.RoundTells", spec := "roundTells", unfollowed := true, recurses := true, apart := false }
def RoundTellsSaid : Prop := roundTellsRow.holds Try.pinned (OpenSpec.ofChange roundTellsSpec)

/-- ITS FALSE NEIGHBOUR: 'it returns false'. Refute it at one input. -/
def roundTellsWrong : ChangeSpec := { name := "roundTells", fn := fun _ => fun
  | [d1, d2] => { results := [.lit (.bool false)], args := [d1, d2] }
  | _ => none }
def RoundTellsWrongFalsely : Prop := roundTellsRow.holds Try.pinned (OpenSpec.ofChange roundTellsWrong)

/-- 'earshotlaw02.RoundMean': WHATEVER THE INPUT: true; the input reads as it did. -/
def roundMeanSpec : ChangeSpec := { name := "roundMean", fn := fun _ => fun
  | [d1, d2, d3] => { results := [.lit (.bool true)], args := [d1, d2, d3] }
  | _ => none }
def roundMeanRow : OpenClaim := { program := "ytpaednaeehlofaa", sum := "29170f549a654577e58f84bde40be63b34b9b86585bac6039ac62bc00e05f357", func := "earshot/earshotlaw02.RoundMean", spec := "roundMean", unfollowed := true, recurses := true, apart := false }
def RoundMeanSaid : Prop := roundMeanRow.holds Try.pinned (OpenSpec.ofChange roundMeanSpec)

/-- ITS FALSE NEIGHBOUR: 'it returns false'. Refute it at one input. -/
def roundMeanWrong : ChangeSpec := { name := "roundMean", fn := fun _ => fun
  | [d1, d2, d3] => { results := [.lit (.bool false)], args := [d1, d2, d3] }
  | _ => none }
def RoundMeanWrongFalsely : Prop := roundMeanRow.holds Try.pinned (OpenSpec.ofChange roundMeanWrong)

/- THE SECOND FORM. 'bulk': how many values and letters a reading holds, each counted each time it is reached (what is shared counts as often as it is met; a slice's spare places count too). A statement '..UptoSaid' is the law's where the arguments, and the package variables that the reading takes, are together of bulk at most 1048576: NARROWER than '..Said'. Prove '..Said' where nothing that the law and all that it calls make is longer than what came in: it says more and counts as full. Else prove '..UptoSaid'. A law counts once. -/
mutual
def uptoBulk {H : Type} : DataW H → Nat
  | .lit (.string bytes) => bytes.length + 1
  | .lit _ => 1
  | .nil => 1
  | .ptr d => uptoBulk d + 1
  | .slice elems spare => uptoBulkAll elems + uptoBulkAll spare + 1
  | .agg parts => uptoBulkAll parts + 1
  | .iface _ d => uptoBulk d + 1
  | .map entries => uptoBulkEntries entries + 1
  | .held _ => 1
def uptoBulkAll {H : Type} : List (DataW H) → Nat
  | [] => 0
  | d :: r => uptoBulk d + uptoBulkAll r
def uptoBulkEntries {H : Type} : List (Lit × DataW H) → Nat
  | [] => 0
  | x :: r => uptoBulkEntry x + uptoBulkEntries r
def uptoBulkEntry {H : Type} : Lit × DataW H → Nat
  | (.string bytes, d) => bytes.length + uptoBulk d + 1
  | (_, d) => uptoBulk d + 1
 end
def uptoSmall : (H : Type) → List (DataW H) → Bool := fun _ ds => decide (uptoBulkAll ds ≤ 1048576)
def OpenSpec.upto (s : _root_.Go.ChangeSpec) : _root_.Go.OpenSpec := { _root_.Go.OpenSpec.ofChange s with cond := some uptoSmall }

/-- 'earshotlaw01.SatOrder', WHERE WHAT IT READS IS OF BULK AT MOST 1048576: true; the input reads as it did. -/
def satOrderUptoRow : OpenClaim := { program := "ytpaednaeehlofaa", sum := "29170f549a654577e58f84bde40be63b34b9b86585bac6039ac62bc00e05f357", func := "earshot/earshotlaw01.SatOrder", spec := "satOrder", unfollowed := true, recurses := true, apart := false, narrowed := true }
def SatOrderUptoSaid : Prop := satOrderUptoRow.holds Try.pinned (OpenSpec.upto satOrderSpec)

/-- 'earshotlaw01.SatSum', WHERE WHAT IT READS IS OF BULK AT MOST 1048576: true; the input reads as it did. -/
def satSumUptoRow : OpenClaim := { program := "ytpaednaeehlofaa", sum := "29170f549a654577e58f84bde40be63b34b9b86585bac6039ac62bc00e05f357", func := "earshot/earshotlaw01.SatSum", spec := "satSum", unfollowed := true, recurses := true, apart := false, narrowed := true }
def SatSumUptoSaid : Prop := satSumUptoRow.holds Try.pinned (OpenSpec.upto satSumSpec)

/-- 'earshotlaw01.SatAdds', WHERE WHAT IT READS IS OF BULK AT MOST 1048576: true; the input reads as it did. -/
def satAddsUptoRow : OpenClaim := { program := "ytpaednaeehlofaa", sum := "29170f549a654577e58f84bde40be63b34b9b86585bac6039ac62bc00e05f357", func := "earshot/earshotlaw01.SatAdds", spec := "satAdds", unfollowed := true, recurses := true, apart := false, narrowed := true }
def SatAddsUptoSaid : Prop := satAddsUptoRow.holds Try.pinned (OpenSpec.upto satAddsSpec)

/-- 'earshotlaw01.SatTells', WHERE WHAT IT READS IS OF BULK AT MOST 1048576: true; the input reads as it did. -/
def satTellsUptoRow : OpenClaim := { program := "ytpaednaeehlofaa", sum := "29170f549a654577e58f84bde40be63b34b9b86585bac6039ac62bc00e05f357", func := "earshot/earshotlaw01.SatTells", spec := "satTells", unfollowed := true, recurses := true, apart := false, narrowed := true }
def SatTellsUptoSaid : Prop := satTellsUptoRow.holds Try.pinned (OpenSpec.upto satTellsSpec)

/-- 'earshotlaw01.SatMul', WHERE WHAT IT READS IS OF BULK AT MOST 1048576: true; the input reads as it did. -/
def satMulUptoRow : OpenClaim := { program := "ytpaednaeehlofaa", sum := "29170f549a654577e58f84bde40be63b34b9b86585bac6039ac62bc00e05f357", func := "earshot/earshotlaw01.SatMul", spec := "satMul", unfollowed := true, recurses := true, apart := false, narrowed := true }
def SatMulUptoSaid : Prop := satMulUptoRow.holds Try.pinned (OpenSpec.upto satMulSpec)

/-- 'earshotlaw02.RoundNear', WHERE WHAT IT READS IS OF BULK AT MOST 1048576: true; the input reads as it did. -/
def roundNearUptoRow : OpenClaim := { program := "ytpaednaeehlofaa", sum := "29170f549a654577e58f84bde40be63b34b9b86585bac6039ac62bc00e05f357", func := "earshot/earshotlaw02.RoundNear", spec := "roundNear", unfollowed := true, recurses := true, apart := false, narrowed := true }
def RoundNearUptoSaid : Prop := roundNearUptoRow.holds Try.pinned (OpenSpec.upto roundNearSpec)

/-- 'earshotlaw02.RoundOrder', WHERE WHAT IT READS IS OF BULK AT MOST 1048576: true; the input reads as it did. -/
def roundOrderUptoRow : OpenClaim := { program := "ytpaednaeehlofaa", sum := "29170f549a654577e58f84bde40be63b34b9b86585bac6039ac62bc00e05f357", func := "earshot/earshotlaw02.RoundOrder", spec := "roundOrder", unfollowed := true, recurses := true, apart := false, narrowed := true }
def RoundOrderUptoSaid : Prop := roundOrderUptoRow.holds Try.pinned (OpenSpec.upto roundOrderSpec)

/-- 'earshotlaw02.RoundScale', WHERE WHAT IT READS IS OF BULK AT MOST 1048576: true; the input reads as it did. -/
def roundScaleUptoRow : OpenClaim := { program := "ytpaednaeehlofaa", sum := "29170f549a654577e58f84bde40be63b34b9b86585bac6039ac62bc00e05f357", func := "earshot/earshotlaw02.RoundScale", spec := "roundScale", unfollowed := true, recurses := true, apart := false, narrowed := true }
def RoundScaleUptoSaid : Prop := roundScaleUptoRow.holds Try.pinned (OpenSpec.upto roundScaleSpec)

/-- 'earshotlaw02.RoundTells', WHERE WHAT IT READS IS OF BULK AT MOST 1048576: true; the input reads as it did. -/
def roundTellsUptoRow : OpenClaim := { program := "ytpaednaeehlofaa", sum := "29170f549a654577e58f84bde40be63b34b9b86585bac6039ac62bc00e05f357", func := "earshot/earshotlaw02.RoundTells", spec := "roundTells", unfollowed := true, recurses := true, apart := false, narrowed := true }
def RoundTellsUptoSaid : Prop := roundTellsUptoRow.holds Try.pinned (OpenSpec.upto roundTellsSpec)

/-- 'earshotlaw02.RoundMean', WHERE WHAT IT READS IS OF BULK AT MOST 1048576: true; the input reads as it did. -/
def roundMeanUptoRow : OpenClaim := { program := "ytpaednaeehlofaa", sum := "29170f549a654577e58f84bde40be63b34b9b86585bac6039ac62bc00e05f357", func := "earshot/earshotlaw02.RoundMean", spec := "roundMean", unfollowed := true, recurses := true, apart := false, narrowed := true }
def RoundMeanUptoSaid : Prop := roundMeanUptoRow.holds Try.pinned (OpenSpec.upto roundMeanSpec)

end Rows
end Go.Proofs.Ytpaednaeehlofaa
