/- Written by xp.py, a program of this session: contracts of the Go functions that a law reaches: each call returns what the Lean function of its name tells. Conditions: those that each theorem names, none else. -/
import Derived.Test.YtpaednaeehlofaaProg
import Derived.Below
import Derived.Deep.Draws
import Derived.Deep.AppendLies
import Derived.Maps.AppendAt
import Derived.OwnWalk
import Derived.Laws.BytesArg
import Derived.Laws.MakeOwn
import Derived.Laws.OwnMore
import Derived.Deep.OwnRows
import Derived.Tactics
import Derived.Lib.ConvBytes
import Derived.Laws.Slices
import Derived.WalkKit
import Derived.KernelRfl
import Derived.RowKit3
import Derived.Deep.LoopGhost
import Derived.Deep.QuietTactic
import Derived.BigQuiet
import Derived.WideLaws
import Derived.Deep.DeepCutAuto
import Derived.Deep.CutBlock
import Derived.Deep.RegionHeld3
import Derived.Laws.Rows
import Derived.Lib.AppendStr
import Derived.ArgAppend
import Derived.Laws.IdiomCopy
import Derived.OrdersHeld
import Derived.Laws.BitsLemmas
import Derived.RowKit
import Derived.Test.YtpaednaeehlofaaWWords
import Derived.Test.YtpaednaeehlofaaWLast
import Derived.Test.YtpaednaeehlofaaWTab
import Derived.Test.YtpaednaeehlofaaWFour
import Derived.Test.YtpaednaeehlofaaWQPut
import Derived.Test.YtpaednaeehlofaaWApart
import Derived.Test.YtpaednaeehlofaaWArr
import Derived.Test.YtpaednaeehlofaaWZeros
import Derived.Test.YtpaednaeehlofaaWFoot
import Derived.Test.YtpaednaeehlofaaWKept
import Derived.Test.YtpaednaeehlofaaWShare
import Derived.Test.YtpaednaeehlofaaWN
import Derived.Test.YtpaednaeehlofaaWFootNe
import Derived.Test.YtpaednaeehlofaaWAt
import Derived.Test.YtpaednaeehlofaaWEqStruct
import Derived.Test.YtpaednaeehlofaaWRepsOne
import Derived.Test.YtpaednaeehlofaaWInv
import Derived.Test.YtpaednaeehlofaaWInvWords
import Derived.Test.YtpaednaeehlofaaWGuard
import Derived.Test.YtpaednaeehlofaaWNEv
import Derived.Test.YtpaednaeehlofaaWMore
namespace Go.Proofs.Ytpaednaeehlofaa.PSatTells
open Go.RowKit Go.Proofs.YtpaednaeehlofaaW.PrintWords Go.Proofs.YtpaednaeehlofaaW.PrintLast Go.Proofs.YtpaednaeehlofaaW.PrintMore
attribute [local go_sem] max2_int min2_int max_two min_two max_three min_three max_four min_four   -- for this text's walks alone
set_option linter.unusedVariables false
set_option linter.unusedSimpArgs false



def errW : Option Int → Value
  | none => .nilIface
  | some c => .iface 0 (.int .i64 c)
theorem errW_none : errW none = .nilIface := rfl
theorem errW_some (c : Int) : errW (some c) = .iface 0 (.int .i64 c) := rfl

theorem info3 : (Try.prog.info? 3).map (fun i => (i.zero, i.size, i.bytes)) = some (some (.int .i64 0), 1, 8) := by kernel_rfl
-- the values' own types

end Go.Proofs.Ytpaednaeehlofaa.PSatTells
