/-
  NARROWER THAN 'FOR EVERY INPUT', by the rows' own cells (each row's printed sentence says how): FrameOther: laid · FrameTells: laid · FrameBack: laid · FrameSpoilt: laid · FrameSame: laid · FrameMark: laid.
  DERIVED. THE GIVEN ROWS OF THIS SEAT. 6 by the template 'for every input the law returns true; each argument reads behind the call as it read before'; 0 by the template 'total and deterministic' (their statements: YtpaoofkahhhjaaaDoorTotals.lean).
  GIVEN WITH THE SEED: the statements are not yours to turn. If you find one false, say at which input.
  Laid BY PROGRAM, IN A SANDBOX (cutbox-rows.mjs): the forced cells as the released guide's own fill.sh prints them over the translation 08afacfebc98e2e4… (all of the seat's roots in one cut). By AI agents, Wed Nov 11 2026. No macro, syntax, notation, axiom, sorry.
-/
import Derived.Test.YtpaoofkahhhjaaaDoorChecked
import GoSem.Claim
import GoSem.ClaimJoined
import GoSem.ClaimMapViews
import Derived.JoinedTies
import Derived.KernelRfl
namespace Go.Proofs.YtpaoofkahhhjaaaDoor
/- THE CELL 'sum', in the pinned program and in every row, IS THE sha256 OF THE DUMP (.gsa) THAT YtpaoofkahhhjaaaDoorProg.lean LOADS. Nothing in Lean hashes anything: it is a label: what it is worth is what the hold of that sum in a sandbox is worth. -/
noncomputable def Tryd.pinned : Pinned := { name := "ytpaoofkahhhjaaadoor", sum := "08afacfebc98e2e4fc44f5692a244424f4de01c57404d99302a994ee3a24a88b", checked := Tryd.checked }
namespace Rows
def none {H : Type} : Left H := { results := [], args := [] }

/- WHAT THE LISTED PACKAGE-LEVEL VARIABLES READ AS WHEN THE CALL BEGINS. Each datum BY PROGRAM (the guide's laid-datum.mjs) off the statement by which the dump's own 'gosem.cut.vars' lays the variable. In a bare row this is a premise. The card (YtpaoofkahhhjaaaDoorCards.lean) ties it to the program's text. -/
def laid_wayfinder_msg_kinds {H : Type} : DataW H := .agg [.agg [.agg [.lit (.int .i64 0), .lit (.int .i64 0)], .agg [.lit (.int .i64 0), .lit (.int .i64 0)], .lit (.bool false)], .agg [.agg [.lit (.int .i64 0), .lit (.int .i64 1048576)], .agg [.lit (.int .i64 0), .lit (.int .i64 4095)], .lit (.bool false)], .agg [.agg [.lit (.int .i64 1), .lit (.int .i64 1048576)], .agg [.lit (.int .i64 1), .lit (.int .i64 4095)], .lit (.bool true)], .agg [.agg [.lit (.int .i64 1), .lit (.int .i64 1048576)], .agg [.lit (.int .i64 1), .lit (.int .i64 4095)], .lit (.bool false)], .agg [.agg [.lit (.int .i64 1), .lit (.int .i64 1048576)], .agg [.lit (.int .i64 1), .lit (.int .i64 4095)], .lit (.bool false)], .agg [.agg [.lit (.int .i64 1), .lit (.int .i64 1048576)], .agg [.lit (.int .i64 0), .lit (.int .i64 0)], .lit (.bool false)]]

/-- 'wayfinderlaw06.FrameOther': WHATEVER THE INPUT: true; the input reads as it did. -/
def frameOtherSpec : ChangeSpec := { name := "frameOther", fn := fun _ => fun
  | [d1, d2] => { results := [.lit (.bool true)], args := [d1, d2] }
  | _ => none }
def frameOtherRow : OpenClaim := { program := "ytpaoofkahhhjaaadoor", sum := "08afacfebc98e2e4fc44f5692a244424f4de01c57404d99302a994ee3a24a88b", func := "wayfinder/wayfinderlaw06.FrameOther", spec := "frameOther", named := ["wayfinder/msg.kinds"], apart := false, laid := [("wayfinder/msg.kinds", laid_wayfinder_msg_kinds)] }
def FrameOtherSaid : Prop := frameOtherRow.holds Tryd.pinned (OpenSpec.ofChange frameOtherSpec)

/-- ITS FALSE NEIGHBOUR: 'it returns false'. Refute it at one input. -/
def frameOtherWrong : ChangeSpec := { name := "frameOther", fn := fun _ => fun
  | [d1, d2] => { results := [.lit (.bool false)], args := [d1, d2] }
  | _ => none }
def FrameOtherWrongFalsely : Prop := frameOtherRow.holds Tryd.pinned (OpenSpec.ofChange frameOtherWrong)

/-- 'wayfinderlaw06.FrameTells': WHATEVER THE INPUT: true; the input reads as it did. -/
def frameTellsSpec : ChangeSpec := { name := "frameTells", fn := fun _ => fun
  | [d1, d2] => { results := [.lit (.bool true)], args := [d1, d2] }
  | _ => none }
def frameTellsRow : OpenClaim := { program := "ytpaoofkahhhjaaadoor", sum := "08afacfebc98e2e4fc44f5692a244424f4de01c57404d99302a994ee3a24a88b", func := "wayfinder/wayfinderlaw06.FrameTells", spec := "frameTells", unfollowed := true, recurses := true, named := ["wayfinder/msg.kinds"], apart := false, laid := [("wayfinder/msg.kinds", laid_wayfinder_msg_kinds)] }
def FrameTellsSaid : Prop := frameTellsRow.holds Tryd.pinned (OpenSpec.ofChange frameTellsSpec)

/-- ITS FALSE NEIGHBOUR: 'it returns false'. Refute it at one input. -/
def frameTellsWrong : ChangeSpec := { name := "frameTells", fn := fun _ => fun
  | [d1, d2] => { results := [.lit (.bool false)], args := [d1, d2] }
  | _ => none }
def FrameTellsWrongFalsely : Prop := frameTellsRow.holds Tryd.pinned (OpenSpec.ofChange frameTellsWrong)

/-- 'wayfinderlaw06.FrameBack': WHATEVER THE INPUT: true; the input reads as it did. -/
def frameBackSpec : ChangeSpec := { name := "frameBack", fn := fun _ => fun
  | [d] => { results := [.lit (.bool true)], args := [d] }
  | _ => none }
def frameBackRow : OpenClaim := { program := "ytpaoofkahhhjaaadoor", sum := "08afacfebc98e2e4fc44f5692a244424f4de01c57404d99302a994ee3a24a88b", func := "wayfinder/wayfinderlaw06.FrameBack", spec := "frameBack", unfollowed := true, recurses := true, named := ["wayfinder/msg.kinds"], apart := false, laid := [("wayfinder/msg.kinds", laid_wayfinder_msg_kinds)] }
def FrameBackSaid : Prop := frameBackRow.holds Tryd.pinned (OpenSpec.ofChange frameBackSpec)

/-- ITS FALSE NEIGHBOUR: 'it returns false'. Refute it at one input. -/
def frameBackWrong : ChangeSpec := { name := "frameBack", fn := fun _ => fun
  | [d] => { results := [.lit (.bool false)], args := [d] }
  | _ => none }
def FrameBackWrongFalsely : Prop := frameBackRow.holds Tryd.pinned (OpenSpec.ofChange frameBackWrong)

/-- 'wayfinderlaw06.FrameSpoilt': WHATEVER THE INPUT: true; the input reads as it did. -/
def frameSpoiltSpec : ChangeSpec := { name := "frameSpoilt", fn := fun _ => fun
  | [d1, d2, d3] => { results := [.lit (.bool true)], args := [d1, d2, d3] }
  | _ => none }
def frameSpoiltRow : OpenClaim := { program := "ytpaoofkahhhjaaadoor", sum := "08afacfebc98e2e4fc44f5692a244424f4de01c57404d99302a994ee3a24a88b", func := "wayfinder/wayfinderlaw06.FrameSpoilt", spec := "frameSpoilt", unfollowed := true, recurses := true, named := ["wayfinder/msg.kinds"], apart := false, laid := [("wayfinder/msg.kinds", laid_wayfinder_msg_kinds)] }
def FrameSpoiltSaid : Prop := frameSpoiltRow.holds Tryd.pinned (OpenSpec.ofChange frameSpoiltSpec)

/-- ITS FALSE NEIGHBOUR: 'it returns false'. Refute it at one input. -/
def frameSpoiltWrong : ChangeSpec := { name := "frameSpoilt", fn := fun _ => fun
  | [d1, d2, d3] => { results := [.lit (.bool false)], args := [d1, d2, d3] }
  | _ => none }
def FrameSpoiltWrongFalsely : Prop := frameSpoiltRow.holds Tryd.pinned (OpenSpec.ofChange frameSpoiltWrong)

/-- 'wayfinderlaw06.FrameSame': WHATEVER THE INPUT: true; the input reads as it did. -/
def frameSameSpec : ChangeSpec := { name := "frameSame", fn := fun _ => fun
  | [d] => { results := [.lit (.bool true)], args := [d] }
  | _ => none }
def frameSameRow : OpenClaim := { program := "ytpaoofkahhhjaaadoor", sum := "08afacfebc98e2e4fc44f5692a244424f4de01c57404d99302a994ee3a24a88b", func := "wayfinder/wayfinderlaw06.FrameSame", spec := "frameSame", unfollowed := true, recurses := true, named := ["wayfinder/msg.kinds"], apart := false, laid := [("wayfinder/msg.kinds", laid_wayfinder_msg_kinds)] }
def FrameSameSaid : Prop := frameSameRow.holds Tryd.pinned (OpenSpec.ofChange frameSameSpec)

/-- ITS FALSE NEIGHBOUR: 'it returns false'. Refute it at one input. -/
def frameSameWrong : ChangeSpec := { name := "frameSame", fn := fun _ => fun
  | [d] => { results := [.lit (.bool false)], args := [d] }
  | _ => none }
def FrameSameWrongFalsely : Prop := frameSameRow.holds Tryd.pinned (OpenSpec.ofChange frameSameWrong)

/-- 'wayfinderlaw06.FrameMark': WHATEVER THE INPUT: true; the input reads as it did. -/
def frameMarkSpec : ChangeSpec := { name := "frameMark", fn := fun _ => fun
  | [d1, d2] => { results := [.lit (.bool true)], args := [d1, d2] }
  | _ => none }
def frameMarkRow : OpenClaim := { program := "ytpaoofkahhhjaaadoor", sum := "08afacfebc98e2e4fc44f5692a244424f4de01c57404d99302a994ee3a24a88b", func := "wayfinder/wayfinderlaw06.FrameMark", spec := "frameMark", unfollowed := true, recurses := true, named := ["wayfinder/msg.kinds"], apart := false, laid := [("wayfinder/msg.kinds", laid_wayfinder_msg_kinds)] }
def FrameMarkSaid : Prop := frameMarkRow.holds Tryd.pinned (OpenSpec.ofChange frameMarkSpec)

/-- ITS FALSE NEIGHBOUR: 'it returns false'. Refute it at one input. -/
def frameMarkWrong : ChangeSpec := { name := "frameMark", fn := fun _ => fun
  | [d1, d2] => { results := [.lit (.bool false)], args := [d1, d2] }
  | _ => none }
def FrameMarkWrongFalsely : Prop := frameMarkRow.holds Tryd.pinned (OpenSpec.ofChange frameMarkWrong)

/- THE SECOND FORM. 'bulk': how many values and letters a reading holds, each counted each time it is reached (what is shared counts as often as it is met; a slice's spare places count too). A statement '..UptoSaid' is the law's where the arguments, and the package variables that the reading takes, are together of bulk at most 1048576: NARROWER than '..Said'. Prove '..Said' where nothing that the law and all that it calls make is longer than what came in: it says more and counts as full. Else prove '..UptoSaid'. A law counts once. -/
mutual
def uptoBulk {H : Type} : DataW H → Nat
  | .lit (.string bytes) => bytes.length + 1
  | .lit _ => 1
  | .nil => 1
  | .ptr d => uptoBulk d + 1
  | .slice elems spare => uptoBulkAll elems + uptoBulkAll spare + 1
  | .agg parts => uptoBulkAll parts + 1
  | .iface _ d => uptoBulk d + 1
  | .map entries => uptoBulkEntries entries + 1
  | .held _ => 1
def uptoBulkAll {H : Type} : List (DataW H) → Nat
  | [] => 0
  | d :: r => uptoBulk d + uptoBulkAll r
def uptoBulkEntries {H : Type} : List (Lit × DataW H) → Nat
  | [] => 0
  | x :: r => uptoBulkEntry x + uptoBulkEntries r
def uptoBulkEntry {H : Type} : Lit × DataW H → Nat
  | (.string bytes, d) => bytes.length + uptoBulk d + 1
  | (_, d) => uptoBulk d + 1
 end
def uptoSmall : (H : Type) → List (DataW H) → Bool := fun _ ds => decide (uptoBulkAll ds ≤ 1048576)
def OpenSpec.upto (s : _root_.Go.ChangeSpec) : _root_.Go.OpenSpec := { _root_.Go.OpenSpec.ofChange s with cond := some uptoSmall }

/-- 'wayfinderlaw06.FrameOther', WHERE WHAT IT READS IS OF BULK AT MOST 1048576: true; the input reads as it did. -/
def frameOtherUptoRow : OpenClaim := { program := "ytpaoofkahhhjaaadoor", sum := "08afacfebc98e2e4fc44f5692a244424f4de01c57404d99302a994ee3a24a88b", func := "wayfinder/wayfinderlaw06.FrameOther", spec := "frameOther", named := ["wayfinder/msg.kinds"], apart := false, laid := [("wayfinder/msg.kinds", laid_wayfinder_msg_kinds)], narrowed := true }
def FrameOtherUptoSaid : Prop := frameOtherUptoRow.holds Tryd.pinned (OpenSpec.upto frameOtherSpec)

/-- 'wayfinderlaw06.FrameTells', WHERE WHAT IT READS IS OF BULK AT MOST 1048576: true; the input reads as it did. -/
def frameTellsUptoRow : OpenClaim := { program := "ytpaoofkahhhjaaadoor", sum := "08afacfebc98e2e4fc44f5692a244424f4de01c57404d99302a994ee3a24a88b", func := "wayfinder/wayfinderlaw06.FrameTells", spec := "frameTells", unfollowed := true, recurses := true, named := ["wayfinder/msg.kinds"], apart := false, laid := [("wayfinder/msg.kinds", laid_wayfinder_msg_kinds)], narrowed := true }
def FrameTellsUptoSaid : Prop := frameTellsUptoRow.holds Tryd.pinned (OpenSpec.upto frameTellsSpec)

/-- 'wayfinderlaw06.FrameBack', WHERE WHAT IT READS IS OF BULK AT MOST 1048576: true; the input reads as it did. -/
def frameBackUptoRow : OpenClaim := { program := "ytpaoofkahhhjaaadoor", sum := "08afacfebc98e2e4fc44f5692a244424f4de01c57404d99302a994ee3a24a88b", func := "wayfinder/wayfinderlaw06.FrameBack", spec := "frameBack", unfollowed := true, recurses := true, named := ["wayfinder/msg.kinds"], apart := false, laid := [("wayfinder/msg.kinds", laid_wayfinder_msg_kinds)], narrowed := true }
def FrameBackUptoSaid : Prop := frameBackUptoRow.holds Tryd.pinned (OpenSpec.upto frameBackSpec)

/-- 'wayfinderlaw06.FrameSpoilt', WHERE WHAT IT READS IS OF BULK AT MOST 1048576: true; the input reads as it did. -/
def frameSpoiltUptoRow : OpenClaim := { program := "ytpaoofkahhhjaaadoor", sum := "08afacfebc98e2e4fc44f5692a244424f4de01c57404d99302a994ee3a24a88b", func := "wayfinder/wayfinderlaw06.FrameSpoilt", spec := "frameSpoilt", unfollowed := true, recurses := true, named := ["wayfinder/msg.kinds"], apart := false, laid := [("wayfinder/msg.kinds", laid_wayfinder_msg_kinds)], narrowed := true }
def FrameSpoiltUptoSaid : Prop := frameSpoiltUptoRow.holds Tryd.pinned (OpenSpec.upto frameSpoiltSpec)

/-- 'wayfinderlaw06.FrameSame', WHERE WHAT IT READS IS OF BULK AT MOST 1048576: true; the input reads as it did. -/
def frameSameUptoRow : OpenClaim := { program := "ytpaoofkahhhjaaadoor", sum := "08afacfebc98e2e4fc44f5692a244424f4de01c57404d99302a994ee3a24a88b", func := "wayfinder/wayfinderlaw06.FrameSame", spec := "frameSame", unfollowed := true, recurses := true, named := ["wayfinder/msg.kinds"], apart := false, laid := [("wayfinder/msg.kinds", laid_wayfinder_msg_kinds)], narrowed := true }
def FrameSameUptoSaid : Prop := frameSameUptoRow.holds Tryd.pinned (OpenSpec.upto frameSameSpec)

/-- 'wayfinderlaw06.FrameMark', WHERE WHAT IT READS IS OF BULK AT MOST 1048576: true; the input reads as it did. -/
def frameMarkUptoRow : OpenClaim := { program := "ytpaoofkahhhjaaadoor", sum := "08afacfebc98e2e4fc44f5692a244424f4de01c57404d99302a994ee3a24a88b", func := "wayfinder/wayfinderlaw06.FrameMark", spec := "frameMark", unfollowed := true, recurses := true, named := ["wayfinder/msg.kinds"], apart := false, laid := [("wayfinder/msg.kinds", laid_wayfinder_msg_kinds)], narrowed := true }
def FrameMarkUptoSaid : Prop := frameMarkUptoRow.holds Tryd.pinned (OpenSpec.upto frameMarkSpec)

end Rows
end Go.Proofs.YtpaoofkahhhjaaaDoor
