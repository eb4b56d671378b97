/- Contracts of Go functions that this seat comes to, each with a plain function that tells its answers; conditions: those that each contract names. Written by a program of this session (wip/print) over the print words. -/
import Derived.Test.YtpaoofkahhhjaaaDoorProg
import Derived.Below
import Derived.Deep.Draws
import Derived.Deep.AppendLies
import Derived.Maps.AppendAt
import Derived.OwnWalk
import Derived.Laws.BytesArg
import Derived.Laws.MakeOwn
import Derived.Laws.OwnMore
import Derived.Deep.OwnRows
import Derived.Tactics
import Derived.Lib.ConvBytes
import Derived.Laws.Slices
import Derived.WalkKit
import Derived.KernelRfl
import Derived.RowKit3
import Derived.Deep.LoopGhost
import Derived.Deep.QuietTactic
import Derived.BigQuiet
import Derived.WideLaws
import Derived.Deep.DeepCutAuto
import Derived.Deep.CutBlock
import Derived.Deep.RegionHeld3
import Derived.Laws.Rows
import Derived.Lib.AppendStr
import Derived.ArgAppend
import Derived.Laws.IdiomCopy
import Derived.OrdersHeld
import Derived.Laws.BitsLemmas
import Derived.RowKit
import Derived.WalkMore
import Derived.ScopeJumps
import Derived.Test.YtpaoofkahhhjaaaDoorQ5WWords
import Derived.Test.YtpaoofkahhhjaaaDoorQ5WLast
import Derived.Test.YtpaoofkahhhjaaaDoorQ5WTab
import Derived.Test.YtpaoofkahhhjaaaDoorQ5WApart
import Derived.Test.YtpaoofkahhhjaaaDoorQ5WFoot
import Derived.Test.YtpaoofkahhhjaaaDoorQ5WShare
import Derived.Test.YtpaoofkahhhjaaaDoorQ5WN
import Derived.Test.YtpaoofkahhhjaaaDoorQ5WEqStruct
import Derived.Test.YtpaoofkahhhjaaaDoorQ5WRepsOne
import Derived.Test.YtpaoofkahhhjaaaDoorQ5WMore
namespace Go.Proofs.YtpaoofkahhhjaaaDoor.All
open Go.RowKit Go.Proofs.YtpaoofkahhhjaaaDoorW.PrintWords Go.Proofs.YtpaoofkahhhjaaaDoorW.PrintLast Go.Proofs.YtpaoofkahhhjaaaDoorW.PrintMore
attribute [local go_sem] max2_int min2_int max_two min_two max_three min_three max_four min_four
set_option linter.unusedVariables false
set_option linter.unusedSimpArgs false
def errW : Option Int → Value
 | none => .nilIface
 | some c => .iface 0 (.int .i64 c)
theorem qqj : errW none = .nilIface := rfl
theorem qqi (c : Int) : errW (some c) = .iface 0 (.int .i64 c) := rfl
theorem info3 : (Tryd.prog.info? 3).map (fun i => (i.zero, i.size, i.bytes)) = some (some (.int .i64 0), 1, 8) := by kernel_rfl
theorem info5 : (Tryd.prog.info? 5).map (fun i => (i.zero, i.size, i.bytes)) = some (some (.int .u8 0), 1, 1) := by kernel_rfl
end Go.Proofs.YtpaoofkahhhjaaaDoor.All
