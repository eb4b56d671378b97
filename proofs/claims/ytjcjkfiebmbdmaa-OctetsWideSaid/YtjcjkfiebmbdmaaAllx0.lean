/- Contracts of Go functions that this seat comes to, each with a plain function that tells its answers; conditions: those that each contract names. Written by a program of this session (wip/print) over the print words. -/
import Derived.Test.YtjcjkfiebmbdmaaProg
import Derived.Below
import Derived.Deep.Draws
import Derived.Deep.AppendLies
import Derived.Maps.AppendAt
import Derived.OwnWalk
import Derived.Laws.BytesArg
import Derived.Laws.MakeOwn
import Derived.Laws.OwnMore
import Derived.Deep.OwnRows
import Derived.Tactics
import Derived.Lib.ConvBytes
import Derived.Laws.Slices
import Derived.WalkKit
import Derived.KernelRfl
import Derived.RowKit3
import Derived.Deep.LoopGhost
import Derived.Deep.QuietTactic
import Derived.BigQuiet
import Derived.WideLaws
import Derived.Deep.DeepCutAuto
import Derived.Deep.CutBlock
import Derived.Deep.RegionHeld3
import Derived.Laws.Rows
import Derived.Lib.AppendStr
import Derived.ArgAppend
import Derived.Laws.IdiomCopy
import Derived.OrdersHeld
import Derived.Laws.BitsLemmas
import Derived.RowKit
import Derived.WalkMore
import Derived.ScopeJumps
import Derived.Test.YtjcjkfiebmbdmaaWWords
import Derived.Test.YtjcjkfiebmbdmaaWLast
import Derived.Test.YtjcjkfiebmbdmaaWTab
import Derived.Test.YtjcjkfiebmbdmaaWFour
import Derived.Test.YtjcjkfiebmbdmaaWQPut
import Derived.Test.YtjcjkfiebmbdmaaWApart
import Derived.Test.YtjcjkfiebmbdmaaWArr
import Derived.Test.YtjcjkfiebmbdmaaWZeros
import Derived.Test.YtjcjkfiebmbdmaaWFoot
import Derived.Test.YtjcjkfiebmbdmaaWKept
import Derived.Test.YtjcjkfiebmbdmaaWShare
import Derived.Test.YtjcjkfiebmbdmaaWN
import Derived.Test.YtjcjkfiebmbdmaaWFootNe
import Derived.Test.YtjcjkfiebmbdmaaWAt
import Derived.Test.YtjcjkfiebmbdmaaWEqStruct
import Derived.Test.YtjcjkfiebmbdmaaWRepsOne
import Derived.Test.YtjcjkfiebmbdmaaWInv
import Derived.Test.YtjcjkfiebmbdmaaWInvWords
import Derived.Test.YtjcjkfiebmbdmaaWGuard
import Derived.Test.YtjcjkfiebmbdmaaWNEv
import Derived.Test.YtjcjkfiebmbdmaaWMore
namespace Go.Proofs.Ytjcjkfiebmbdmaa.All
open Go.RowKit Go.Proofs.YtjcjkfiebmbdmaaW.PrintWords Go.Proofs.YtjcjkfiebmbdmaaW.PrintLast Go.Proofs.YtjcjkfiebmbdmaaW.PrintMore
attribute [local go_sem] max2_int min2_int max_two min_two max_three min_three max_four min_four   -- for this text's walks alone
set_option linter.unusedVariables false
set_option linter.unusedSimpArgs false



def errW : Option Int → Value
  | none => .nilIface
  | some c => .iface 0 (.int .i64 c)
theorem errW_none : errW none = .nilIface := rfl
theorem errW_some (c : Int) : errW (some c) = .iface 0 (.int .i64 c) := rfl

theorem info3 : (Try.prog.info? 3).map (fun i => (i.zero, i.size, i.bytes)) = some (some (.int .i64 0), 1, 8) := by kernel_rfl
theorem info5 : (Try.prog.info? 5).map (fun i => (i.zero, i.size, i.bytes)) = some (some (.int .u8 0), 1, 1) := by kernel_rfl
-- the values' own types

end Go.Proofs.Ytjcjkfiebmbdmaa.All
