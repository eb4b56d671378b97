/- Contracts of Go functions that this seat comes to, each with a plain function that tells its answers; conditions: those that each contract names. Written by a program of this session (wip/print) over the print words. -/
import Derived.Test.YtbecakaajbkofaaProg
import Derived.Below
import Derived.Deep.Draws
import Derived.Deep.AppendLies
import Derived.Maps.AppendAt
import Derived.OwnWalk
import Derived.Laws.BytesArg
import Derived.Laws.MakeOwn
import Derived.Laws.OwnMore
import Derived.Deep.OwnRows
import Derived.Tactics
import Derived.Lib.ConvBytes
import Derived.Laws.Slices
import Derived.WalkKit
import Derived.KernelRfl
import Derived.RowKit3
import Derived.Deep.LoopGhost
import Derived.Deep.QuietTactic
import Derived.BigQuiet
import Derived.WideLaws
import Derived.Deep.DeepCutAuto
import Derived.Deep.CutBlock
import Derived.Deep.RegionHeld3
import Derived.Laws.Rows
import Derived.Lib.AppendStr
import Derived.ArgAppend
import Derived.Laws.IdiomCopy
import Derived.OrdersHeld
import Derived.Laws.BitsLemmas
import Derived.RowKit
import Derived.WalkMore
import Derived.ScopeJumps
import Derived.Test.YtbecakaajbkofaaWWords
import Derived.Test.YtbecakaajbkofaaWLast
import Derived.Test.YtbecakaajbkofaaWTab
import Derived.Test.YtbecakaajbkofaaWFour
import Derived.Test.YtbecakaajbkofaaWQPut
import Derived.Test.YtbecakaajbkofaaWApart
import Derived.Test.YtbecakaajbkofaaWArr
import Derived.Test.YtbecakaajbkofaaWZeros
import Derived.Test.YtbecakaajbkofaaWFoot
import Derived.Test.YtbecakaajbkofaaWKept
import Derived.Test.YtbecakaajbkofaaWShare
import Derived.Test.YtbecakaajbkofaaWN
import Derived.Test.YtbecakaajbkofaaWFootNe
import Derived.Test.YtbecakaajbkofaaWAt
import Derived.Test.YtbecakaajbkofaaWEqStruct
import Derived.Test.YtbecakaajbkofaaWRepsOne
import Derived.Test.YtbecakaajbkofaaWInv
import Derived.Test.YtbecakaajbkofaaWInvWords
import Derived.Test.YtbecakaajbkofaaWGuard
import Derived.Test.YtbecakaajbkofaaWNEv
import Derived.Test.YtbecakaajbkofaaWMore
namespace Go.Proofs.Ytbecakaajbkofaa.All
open Go.RowKit Go.Proofs.YtbecakaajbkofaaW.PrintWords Go.Proofs.YtbecakaajbkofaaW.PrintLast Go.Proofs.YtbecakaajbkofaaW.PrintMore
attribute [local go_sem] max2_int min2_int max_two min_two max_three min_three max_four min_four   -- for this text's walks alone
set_option linter.unusedVariables false
set_option linter.unusedSimpArgs false



def errW : Option Int → Value
  | none => .nilIface
  | some c => .iface 0 (.int .i64 c)
theorem errW_none : errW none = .nilIface := rfl
theorem errW_some (c : Int) : errW (some c) = .iface 0 (.int .i64 c) := rfl

-- the values' own types

end Go.Proofs.Ytbecakaajbkofaa.All
