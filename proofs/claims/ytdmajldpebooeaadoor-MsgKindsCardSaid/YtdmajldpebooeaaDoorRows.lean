/-
  NARROWER THAN 'FOR EVERY INPUT', by the rows' own cells (each row's printed sentence says how): MsgTells: laid · MsgKinds: laid · MsgOther: laid · MsgGets: laid · MsgBack: laid · MsgShort: laid.
  DERIVED. THE GIVEN ROWS OF THIS SEAT. 6 by the template 'for every input the law returns true; each argument reads behind the call as it read before'; 0 by the template 'total and deterministic' (their statements: YtdmajldpebooeaaDoorTotals.lean).
  GIVEN WITH THE SEED: the statements are not yours to turn. If you find one false, say at which input.
  Laid BY PROGRAM, IN A SANDBOX (cutbox-rows.mjs): the forced cells as the released guide's own fill.sh prints them over the translation 2804851c2d76f72d… (all of the seat's roots in one cut). By AI agents, Wed Nov 11 2026. No macro, syntax, notation, axiom, sorry.
-/
import Derived.Test.YtdmajldpebooeaaDoorChecked
import GoSem.Claim
import GoSem.ClaimJoined
import GoSem.ClaimMapViews
import Derived.JoinedTies
import Derived.KernelRfl
namespace Go.Proofs.YtdmajldpebooeaaDoor
/- THE CELL 'sum', in the pinned program and in every row, IS THE sha256 OF THE DUMP (.gsa) THAT YtdmajldpebooeaaDoorProg.lean LOADS. Nothing in Lean hashes anything: it is a label: what it is worth is what the hold of that sum in a sandbox is worth. -/
noncomputable def Tryd.pinned : Pinned := { name := "ytdmajldpebooeaadoor", sum := "2804851c2d76f72deb9c483e65cac8dffbb559f65af74206d022f3971b11553d", checked := Tryd.checked }
namespace Rows
def none {H : Type} : Left H := { results := [], args := [] }

/- WHAT THE LISTED PACKAGE-LEVEL VARIABLES READ AS WHEN THE CALL BEGINS. Each datum BY PROGRAM (the guide's laid-datum.mjs) off the statement by which the dump's own 'gosem.cut.vars' lays the variable. In a bare row this is a premise. The card (YtdmajldpebooeaaDoorCards.lean) ties it to the program's text. -/
def laid_wayfinder_msg_kinds {H : Type} : DataW H := .agg [.agg [.agg [.lit (.int .i64 0), .lit (.int .i64 0)], .agg [.lit (.int .i64 0), .lit (.int .i64 0)], .lit (.bool false)], .agg [.agg [.lit (.int .i64 0), .lit (.int .i64 1048576)], .agg [.lit (.int .i64 0), .lit (.int .i64 4095)], .lit (.bool false)], .agg [.agg [.lit (.int .i64 1), .lit (.int .i64 1048576)], .agg [.lit (.int .i64 1), .lit (.int .i64 4095)], .lit (.bool true)], .agg [.agg [.lit (.int .i64 1), .lit (.int .i64 1048576)], .agg [.lit (.int .i64 1), .lit (.int .i64 4095)], .lit (.bool false)], .agg [.agg [.lit (.int .i64 1), .lit (.int .i64 1048576)], .agg [.lit (.int .i64 1), .lit (.int .i64 4095)], .lit (.bool false)], .agg [.agg [.lit (.int .i64 1), .lit (.int .i64 1048576)], .agg [.lit (.int .i64 0), .lit (.int .i64 0)], .lit (.bool false)]]

/-- 'wayfinderlaw05.MsgTells': WHATEVER THE INPUT: true; the input reads as it did. -/
def msgTellsSpec : ChangeSpec := { name := "msgTells", fn := fun _ => fun
  | [d] => { results := [.lit (.bool true)], args := [d] }
  | _ => none }
def msgTellsRow : OpenClaim := { program := "ytdmajldpebooeaadoor", sum := "2804851c2d76f72deb9c483e65cac8dffbb559f65af74206d022f3971b11553d", func := "wayfinder/wayfinderlaw05.MsgTells", spec := "msgTells", named := ["wayfinder/msg.kinds"], apart := false, laid := [("wayfinder/msg.kinds", laid_wayfinder_msg_kinds)] }
def MsgTellsSaid : Prop := msgTellsRow.holds Tryd.pinned (OpenSpec.ofChange msgTellsSpec)

/-- ITS FALSE NEIGHBOUR: 'it returns false'. Refute it at one input. -/
def msgTellsWrong : ChangeSpec := { name := "msgTells", fn := fun _ => fun
  | [d] => { results := [.lit (.bool false)], args := [d] }
  | _ => none }
def MsgTellsWrongFalsely : Prop := msgTellsRow.holds Tryd.pinned (OpenSpec.ofChange msgTellsWrong)

/-- 'wayfinderlaw05.MsgKinds': WHATEVER THE INPUT: true; the input reads as it did. -/
def msgKindsSpec : ChangeSpec := { name := "msgKinds", fn := fun _ => fun
  | [d1, d2] => { results := [.lit (.bool true)], args := [d1, d2] }
  | _ => none }
def msgKindsRow : OpenClaim := { program := "ytdmajldpebooeaadoor", sum := "2804851c2d76f72deb9c483e65cac8dffbb559f65af74206d022f3971b11553d", func := "wayfinder/wayfinderlaw05.MsgKinds", spec := "msgKinds", named := ["wayfinder/msg.kinds"], apart := false, laid := [("wayfinder/msg.kinds", laid_wayfinder_msg_kinds)] }
def MsgKindsSaid : Prop := msgKindsRow.holds Tryd.pinned (OpenSpec.ofChange msgKindsSpec)

/-- ITS FALSE NEIGHBOUR: 'it returns false'. Refute it at one input. -/
def msgKindsWrong : ChangeSpec := { name := "msgKinds", fn := fun _ => fun
  | [d1, d2] => { results := [.lit (.bool false)], args := [d1, d2] }
  | _ => none }
def MsgKindsWrongFalsely : Prop := msgKindsRow.holds Tryd.pinned (OpenSpec.ofChange msgKindsWrong)

/-- 'wayfinderlaw05.MsgOther': WHATEVER THE INPUT: true; the input reads as it did. -/
def msgOtherSpec : ChangeSpec := { name := "msgOther", fn := fun _ => fun
  | [d1, d2] => { results := [.lit (.bool true)], args := [d1, d2] }
  | _ => none }
def msgOtherRow : OpenClaim := { program := "ytdmajldpebooeaadoor", sum := "2804851c2d76f72deb9c483e65cac8dffbb559f65af74206d022f3971b11553d", func := "wayfinder/wayfinderlaw05.MsgOther", spec := "msgOther", named := ["wayfinder/msg.kinds"], apart := false, laid := [("wayfinder/msg.kinds", laid_wayfinder_msg_kinds)] }
def MsgOtherSaid : Prop := msgOtherRow.holds Tryd.pinned (OpenSpec.ofChange msgOtherSpec)

/-- ITS FALSE NEIGHBOUR: 'it returns false'. Refute it at one input. -/
def msgOtherWrong : ChangeSpec := { name := "msgOther", fn := fun _ => fun
  | [d1, d2] => { results := [.lit (.bool false)], args := [d1, d2] }
  | _ => none }
def MsgOtherWrongFalsely : Prop := msgOtherRow.holds Tryd.pinned (OpenSpec.ofChange msgOtherWrong)

/-- 'wayfinderlaw05.MsgGets': WHATEVER THE INPUT: true; the input reads as it did. -/
def msgGetsSpec : ChangeSpec := { name := "msgGets", fn := fun _ => fun
  | [d] => { results := [.lit (.bool true)], args := [d] }
  | _ => none }
def msgGetsRow : OpenClaim := { program := "ytdmajldpebooeaadoor", sum := "2804851c2d76f72deb9c483e65cac8dffbb559f65af74206d022f3971b11553d", func := "wayfinder/wayfinderlaw05.MsgGets", spec := "msgGets", named := ["wayfinder/msg.kinds"], apart := false, laid := [("wayfinder/msg.kinds", laid_wayfinder_msg_kinds)] }
def MsgGetsSaid : Prop := msgGetsRow.holds Tryd.pinned (OpenSpec.ofChange msgGetsSpec)

/-- ITS FALSE NEIGHBOUR: 'it returns false'. Refute it at one input. -/
def msgGetsWrong : ChangeSpec := { name := "msgGets", fn := fun _ => fun
  | [d] => { results := [.lit (.bool false)], args := [d] }
  | _ => none }
def MsgGetsWrongFalsely : Prop := msgGetsRow.holds Tryd.pinned (OpenSpec.ofChange msgGetsWrong)

/-- 'wayfinderlaw05.MsgBack': WHATEVER THE INPUT: true; the input reads as it did. -/
def msgBackSpec : ChangeSpec := { name := "msgBack", fn := fun _ => fun
  | [d1, d2] => { results := [.lit (.bool true)], args := [d1, d2] }
  | _ => none }
def msgBackRow : OpenClaim := { program := "ytdmajldpebooeaadoor", sum := "2804851c2d76f72deb9c483e65cac8dffbb559f65af74206d022f3971b11553d", func := "wayfinder/wayfinderlaw05.MsgBack", spec := "msgBack", named := ["wayfinder/msg.kinds"], apart := false, laid := [("wayfinder/msg.kinds", laid_wayfinder_msg_kinds)] }
def MsgBackSaid : Prop := msgBackRow.holds Tryd.pinned (OpenSpec.ofChange msgBackSpec)

/-- ITS FALSE NEIGHBOUR: 'it returns false'. Refute it at one input. -/
def msgBackWrong : ChangeSpec := { name := "msgBack", fn := fun _ => fun
  | [d1, d2] => { results := [.lit (.bool false)], args := [d1, d2] }
  | _ => none }
def MsgBackWrongFalsely : Prop := msgBackRow.holds Tryd.pinned (OpenSpec.ofChange msgBackWrong)

/-- 'wayfinderlaw05.MsgShort': WHATEVER THE INPUT: true; the input reads as it did. -/
def msgShortSpec : ChangeSpec := { name := "msgShort", fn := fun _ => fun
  | [d1, d2, d3] => { results := [.lit (.bool true)], args := [d1, d2, d3] }
  | _ => none }
def msgShortRow : OpenClaim := { program := "ytdmajldpebooeaadoor", sum := "2804851c2d76f72deb9c483e65cac8dffbb559f65af74206d022f3971b11553d", func := "wayfinder/wayfinderlaw05.MsgShort", spec := "msgShort", named := ["wayfinder/msg.kinds"], apart := false, laid := [("wayfinder/msg.kinds", laid_wayfinder_msg_kinds)] }
def MsgShortSaid : Prop := msgShortRow.holds Tryd.pinned (OpenSpec.ofChange msgShortSpec)

/-- ITS FALSE NEIGHBOUR: 'it returns false'. Refute it at one input. -/
def msgShortWrong : ChangeSpec := { name := "msgShort", fn := fun _ => fun
  | [d1, d2, d3] => { results := [.lit (.bool false)], args := [d1, d2, d3] }
  | _ => none }
def MsgShortWrongFalsely : Prop := msgShortRow.holds Tryd.pinned (OpenSpec.ofChange msgShortWrong)

/- THE SECOND FORM. 'bulk': how many values and letters a reading holds, each counted each time it is reached (what is shared counts as often as it is met; a slice's spare places count too). A statement '..UptoSaid' is the law's where the arguments, and the package variables that the reading takes, are together of bulk at most 1048576: NARROWER than '..Said'. Prove '..Said' where nothing that the law and all that it calls make is longer than what came in: it says more and counts as full. Else prove '..UptoSaid'. A law counts once. -/
mutual
def uptoBulk {H : Type} : DataW H → Nat
  | .lit (.string bytes) => bytes.length + 1
  | .lit _ => 1
  | .nil => 1
  | .ptr d => uptoBulk d + 1
  | .slice elems spare => uptoBulkAll elems + uptoBulkAll spare + 1
  | .agg parts => uptoBulkAll parts + 1
  | .iface _ d => uptoBulk d + 1
  | .map entries => uptoBulkEntries entries + 1
  | .held _ => 1
def uptoBulkAll {H : Type} : List (DataW H) → Nat
  | [] => 0
  | d :: r => uptoBulk d + uptoBulkAll r
def uptoBulkEntries {H : Type} : List (Lit × DataW H) → Nat
  | [] => 0
  | x :: r => uptoBulkEntry x + uptoBulkEntries r
def uptoBulkEntry {H : Type} : Lit × DataW H → Nat
  | (.string bytes, d) => bytes.length + uptoBulk d + 1
  | (_, d) => uptoBulk d + 1
 end
def uptoSmall : (H : Type) → List (DataW H) → Bool := fun _ ds => decide (uptoBulkAll ds ≤ 1048576)
def OpenSpec.upto (s : _root_.Go.ChangeSpec) : _root_.Go.OpenSpec := { _root_.Go.OpenSpec.ofChange s with cond := some uptoSmall }

/-- 'wayfinderlaw05.MsgTells', WHERE WHAT IT READS IS OF BULK AT MOST 1048576: true; the input reads as it did. -/
def msgTellsUptoRow : OpenClaim := { program := "ytdmajldpebooeaadoor", sum := "2804851c2d76f72deb9c483e65cac8dffbb559f65af74206d022f3971b11553d", func := "wayfinder/wayfinderlaw05.MsgTells", spec := "msgTells", named := ["wayfinder/msg.kinds"], apart := false, laid := [("wayfinder/msg.kinds", laid_wayfinder_msg_kinds)], narrowed := true }
def MsgTellsUptoSaid : Prop := msgTellsUptoRow.holds Tryd.pinned (OpenSpec.upto msgTellsSpec)

/-- 'wayfinderlaw05.MsgKinds', WHERE WHAT IT READS IS OF BULK AT MOST 1048576: true; the input reads as it did. -/
def msgKindsUptoRow : OpenClaim := { program := "ytdmajldpebooeaadoor", sum := "2804851c2d76f72deb9c483e65cac8dffbb559f65af74206d022f3971b11553d", func := "wayfinder/wayfinderlaw05.MsgKinds", spec := "msgKinds", named := ["wayfinder/msg.kinds"], apart := false, laid := [("wayfinder/msg.kinds", laid_wayfinder_msg_kinds)], narrowed := true }
def MsgKindsUptoSaid : Prop := msgKindsUptoRow.holds Tryd.pinned (OpenSpec.upto msgKindsSpec)

/-- 'wayfinderlaw05.MsgOther', WHERE WHAT IT READS IS OF BULK AT MOST 1048576: true; the input reads as it did. -/
def msgOtherUptoRow : OpenClaim := { program := "ytdmajldpebooeaadoor", sum := "2804851c2d76f72deb9c483e65cac8dffbb559f65af74206d022f3971b11553d", func := "wayfinder/wayfinderlaw05.MsgOther", spec := "msgOther", named := ["wayfinder/msg.kinds"], apart := false, laid := [("wayfinder/msg.kinds", laid_wayfinder_msg_kinds)], narrowed := true }
def MsgOtherUptoSaid : Prop := msgOtherUptoRow.holds Tryd.pinned (OpenSpec.upto msgOtherSpec)

/-- 'wayfinderlaw05.MsgGets', WHERE WHAT IT READS IS OF BULK AT MOST 1048576: true; the input reads as it did. -/
def msgGetsUptoRow : OpenClaim := { program := "ytdmajldpebooeaadoor", sum := "2804851c2d76f72deb9c483e65cac8dffbb559f65af74206d022f3971b11553d", func := "wayfinder/wayfinderlaw05.MsgGets", spec := "msgGets", named := ["wayfinder/msg.kinds"], apart := false, laid := [("wayfinder/msg.kinds", laid_wayfinder_msg_kinds)], narrowed := true }
def MsgGetsUptoSaid : Prop := msgGetsUptoRow.holds Tryd.pinned (OpenSpec.upto msgGetsSpec)

/-- 'wayfinderlaw05.MsgBack', WHERE WHAT IT READS IS OF BULK AT MOST 1048576: true; the input reads as it did. -/
def msgBackUptoRow : OpenClaim := { program := "ytdmajldpebooeaadoor", sum := "2804851c2d76f72deb9c483e65cac8dffbb559f65af74206d022f3971b11553d", func := "wayfinder/wayfinderlaw05.MsgBack", spec := "msgBack", named := ["wayfinder/msg.kinds"], apart := false, laid := [("wayfinder/msg.kinds", laid_wayfinder_msg_kinds)], narrowed := true }
def MsgBackUptoSaid : Prop := msgBackUptoRow.holds Tryd.pinned (OpenSpec.upto msgBackSpec)

/-- 'wayfinderlaw05.MsgShort', WHERE WHAT IT READS IS OF BULK AT MOST 1048576: true; the input reads as it did. -/
def msgShortUptoRow : OpenClaim := { program := "ytdmajldpebooeaadoor", sum := "2804851c2d76f72deb9c483e65cac8dffbb559f65af74206d022f3971b11553d", func := "wayfinder/wayfinderlaw05.MsgShort", spec := "msgShort", named := ["wayfinder/msg.kinds"], apart := false, laid := [("wayfinder/msg.kinds", laid_wayfinder_msg_kinds)], narrowed := true }
def MsgShortUptoSaid : Prop := msgShortUptoRow.holds Tryd.pinned (OpenSpec.upto msgShortSpec)

end Rows
end Go.Proofs.YtdmajldpebooeaaDoor
