/- Contracts of Go functions that this seat comes to, each with a plain function that tells its answers; conditions: those that each contract names. Written by a program of this session (wip/print) over the print words. -/
import Derived.Test.YtjnbnjlkljpbeaaProg
import Derived.Below
import Derived.Deep.Draws
import Derived.Deep.AppendLies
import Derived.Maps.AppendAt
import Derived.OwnWalk
import Derived.Laws.BytesArg
import Derived.Laws.MakeOwn
import Derived.Laws.OwnMore
import Derived.Deep.OwnRows
import Derived.Tactics
import Derived.Lib.ConvBytes
import Derived.Laws.Slices
import Derived.WalkKit
import Derived.KernelRfl
import Derived.RowKit3
import Derived.Deep.LoopGhost
import Derived.Deep.QuietTactic
import Derived.BigQuiet
import Derived.WideLaws
import Derived.Deep.DeepCutAuto
import Derived.Deep.CutBlock
import Derived.Deep.RegionHeld3
import Derived.Laws.Rows
import Derived.Lib.AppendStr
import Derived.ArgAppend
import Derived.Laws.IdiomCopy
import Derived.OrdersHeld
import Derived.Laws.BitsLemmas
import Derived.RowKit
import Derived.WalkMore
import Derived.ScopeJumps
import Derived.Test.YtjnbnjlkljpbeaaWWords
import Derived.Test.YtjnbnjlkljpbeaaWLast
import Derived.Test.YtjnbnjlkljpbeaaWTab
import Derived.Test.YtjnbnjlkljpbeaaWFour
import Derived.Test.YtjnbnjlkljpbeaaWQPut
import Derived.Test.YtjnbnjlkljpbeaaWApart
import Derived.Test.YtjnbnjlkljpbeaaWArr
import Derived.Test.YtjnbnjlkljpbeaaWZeros
import Derived.Test.YtjnbnjlkljpbeaaWFoot
import Derived.Test.YtjnbnjlkljpbeaaWKept
import Derived.Test.YtjnbnjlkljpbeaaWShare
import Derived.Test.YtjnbnjlkljpbeaaWN
import Derived.Test.YtjnbnjlkljpbeaaWFootNe
import Derived.Test.YtjnbnjlkljpbeaaWAt
import Derived.Test.YtjnbnjlkljpbeaaWEqStruct
import Derived.Test.YtjnbnjlkljpbeaaWRepsOne
import Derived.Test.YtjnbnjlkljpbeaaWInv
import Derived.Test.YtjnbnjlkljpbeaaWInvWords
import Derived.Test.YtjnbnjlkljpbeaaWGuard
import Derived.Test.YtjnbnjlkljpbeaaWNEv
import Derived.Test.YtjnbnjlkljpbeaaWMore
namespace Go.Proofs.Ytjnbnjlkljpbeaa.All
open Go.RowKit Go.Proofs.YtjnbnjlkljpbeaaW.PrintWords Go.Proofs.YtjnbnjlkljpbeaaW.PrintLast Go.Proofs.YtjnbnjlkljpbeaaW.PrintMore
attribute [local go_sem] max2_int min2_int max_two min_two max_three min_three max_four min_four   -- for this text's walks alone
set_option linter.unusedVariables false
set_option linter.unusedSimpArgs false



def errW : Option Int → Value
  | none => .nilIface
  | some c => .iface 0 (.int .i64 c)
theorem errW_none : errW none = .nilIface := rfl
theorem errW_some (c : Int) : errW (some c) = .iface 0 (.int .i64 c) := rfl

theorem info3 : (Try.prog.info? 3).map (fun i => (i.zero, i.size, i.bytes)) = some (some (.int .i64 0), 1, 8) := by kernel_rfl
theorem info5 : (Try.prog.info? 5).map (fun i => (i.zero, i.size, i.bytes)) = some (some (.int .u8 0), 1, 1) := by kernel_rfl
-- the values' own types

end Go.Proofs.Ytjnbnjlkljpbeaa.All
