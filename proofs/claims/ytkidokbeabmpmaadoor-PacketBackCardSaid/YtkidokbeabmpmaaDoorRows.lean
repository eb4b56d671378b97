/-
  NARROWER THAN 'FOR EVERY INPUT', by the rows' own cells (each row's printed sentence says how): PacketFields: laid · PacketMay: laid · PacketTag: laid · PacketTells: laid · PacketBack: laid · PacketSpoilt: laid.
  DERIVED. THE GIVEN ROWS OF THIS SEAT. 6 by the template 'for every input the law returns true; each argument reads behind the call as it read before'; 0 by the template 'total and deterministic' (their statements: YtkidokbeabmpmaaDoorTotals.lean).
  GIVEN WITH THE SEED: the statements are not yours to turn. If you find one false, say at which input.
  Laid BY PROGRAM, IN A SANDBOX (cutbox-rows.mjs): the forced cells as the released guide's own fill.sh prints them over the translation bf77764740182a41… (all of the seat's roots in one cut). By AI agents, Wed Nov 11 2026. No macro, syntax, notation, axiom, sorry.
-/
import Derived.Test.YtkidokbeabmpmaaDoorChecked
import GoSem.Claim
import GoSem.ClaimJoined
import GoSem.ClaimMapViews
import Derived.JoinedTies
import Derived.KernelRfl
namespace Go.Proofs.YtkidokbeabmpmaaDoor
/- THE CELL 'sum', in the pinned program and in every row, IS THE sha256 OF THE DUMP (.gsa) THAT YtkidokbeabmpmaaDoorProg.lean LOADS. Nothing in Lean hashes anything: it is a label: what it is worth is what the hold of that sum in a sandbox is worth. -/
noncomputable def Tryd.pinned : Pinned := { name := "ytkidokbeabmpmaadoor", sum := "bf77764740182a41f4af0d5458ca5bd6a6aba39cba607de5cc916568cacf67d2", checked := Tryd.checked }
namespace Rows
def none {H : Type} : Left H := { results := [], args := [] }

/- WHAT THE LISTED PACKAGE-LEVEL VARIABLES READ AS WHEN THE CALL BEGINS. Each datum BY PROGRAM (the guide's laid-datum.mjs) off the statement by which the dump's own 'gosem.cut.vars' lays the variable. In a bare row this is a premise. The card (YtkidokbeabmpmaaDoorCards.lean) ties it to the program's text. -/
def laid_wayfinder_packet_widths {H : Type} : DataW H := .agg [.lit (.int .i64 4), .lit (.int .i64 4), .lit (.int .i64 4), .lit (.int .i64 2), .lit (.int .i64 2)]

/-- 'wayfinderlaw03.PacketFields': WHATEVER THE INPUT: true; the input reads as it did. -/
def packetFieldsSpec : ChangeSpec := { name := "packetFields", fn := fun _ => fun
  | [d1, d2] => { results := [.lit (.bool true)], args := [d1, d2] }
  | _ => none }
def packetFieldsRow : OpenClaim := { program := "ytkidokbeabmpmaadoor", sum := "bf77764740182a41f4af0d5458ca5bd6a6aba39cba607de5cc916568cacf67d2", func := "wayfinder/wayfinderlaw03.PacketFields", spec := "packetFields", unfollowed := true, recurses := true, named := ["wayfinder/packet.widths"], apart := false, laid := [("wayfinder/packet.widths", laid_wayfinder_packet_widths)] }
def PacketFieldsSaid : Prop := packetFieldsRow.holds Tryd.pinned (OpenSpec.ofChange packetFieldsSpec)

/-- ITS FALSE NEIGHBOUR: 'it returns false'. Refute it at one input. -/
def packetFieldsWrong : ChangeSpec := { name := "packetFields", fn := fun _ => fun
  | [d1, d2] => { results := [.lit (.bool false)], args := [d1, d2] }
  | _ => none }
def PacketFieldsWrongFalsely : Prop := packetFieldsRow.holds Tryd.pinned (OpenSpec.ofChange packetFieldsWrong)

/-- 'wayfinderlaw03.PacketMay': WHATEVER THE INPUT: true; the input reads as it did. -/
def packetMaySpec : ChangeSpec := { name := "packetMay", fn := fun _ => fun
  | [d1, d2] => { results := [.lit (.bool true)], args := [d1, d2] }
  | _ => none }
def packetMayRow : OpenClaim := { program := "ytkidokbeabmpmaadoor", sum := "bf77764740182a41f4af0d5458ca5bd6a6aba39cba607de5cc916568cacf67d2", func := "wayfinder/wayfinderlaw03.PacketMay", spec := "packetMay", unfollowed := true, recurses := true, named := ["wayfinder/packet.widths"], apart := false, laid := [("wayfinder/packet.widths", laid_wayfinder_packet_widths)] }
def PacketMaySaid : Prop := packetMayRow.holds Tryd.pinned (OpenSpec.ofChange packetMaySpec)

/-- ITS FALSE NEIGHBOUR: 'it returns false'. Refute it at one input. -/
def packetMayWrong : ChangeSpec := { name := "packetMay", fn := fun _ => fun
  | [d1, d2] => { results := [.lit (.bool false)], args := [d1, d2] }
  | _ => none }
def PacketMayWrongFalsely : Prop := packetMayRow.holds Tryd.pinned (OpenSpec.ofChange packetMayWrong)

/-- 'wayfinderlaw03.PacketTag': WHATEVER THE INPUT: true; the input reads as it did. -/
def packetTagSpec : ChangeSpec := { name := "packetTag", fn := fun _ => fun
  | [d1, d2] => { results := [.lit (.bool true)], args := [d1, d2] }
  | _ => none }
def packetTagRow : OpenClaim := { program := "ytkidokbeabmpmaadoor", sum := "bf77764740182a41f4af0d5458ca5bd6a6aba39cba607de5cc916568cacf67d2", func := "wayfinder/wayfinderlaw03.PacketTag", spec := "packetTag", unfollowed := true, recurses := true, named := ["wayfinder/packet.widths"], apart := false, laid := [("wayfinder/packet.widths", laid_wayfinder_packet_widths)] }
def PacketTagSaid : Prop := packetTagRow.holds Tryd.pinned (OpenSpec.ofChange packetTagSpec)

/-- ITS FALSE NEIGHBOUR: 'it returns false'. Refute it at one input. -/
def packetTagWrong : ChangeSpec := { name := "packetTag", fn := fun _ => fun
  | [d1, d2] => { results := [.lit (.bool false)], args := [d1, d2] }
  | _ => none }
def PacketTagWrongFalsely : Prop := packetTagRow.holds Tryd.pinned (OpenSpec.ofChange packetTagWrong)

/-- 'wayfinderlaw03.PacketTells': WHATEVER THE INPUT: true; the input reads as it did. -/
def packetTellsSpec : ChangeSpec := { name := "packetTells", fn := fun _ => fun
  | [d1, d2] => { results := [.lit (.bool true)], args := [d1, d2] }
  | _ => none }
def packetTellsRow : OpenClaim := { program := "ytkidokbeabmpmaadoor", sum := "bf77764740182a41f4af0d5458ca5bd6a6aba39cba607de5cc916568cacf67d2", func := "wayfinder/wayfinderlaw03.PacketTells", spec := "packetTells", unfollowed := true, recurses := true, named := ["wayfinder/packet.widths"], apart := false, laid := [("wayfinder/packet.widths", laid_wayfinder_packet_widths)] }
def PacketTellsSaid : Prop := packetTellsRow.holds Tryd.pinned (OpenSpec.ofChange packetTellsSpec)

/-- ITS FALSE NEIGHBOUR: 'it returns false'. Refute it at one input. -/
def packetTellsWrong : ChangeSpec := { name := "packetTells", fn := fun _ => fun
  | [d1, d2] => { results := [.lit (.bool false)], args := [d1, d2] }
  | _ => none }
def PacketTellsWrongFalsely : Prop := packetTellsRow.holds Tryd.pinned (OpenSpec.ofChange packetTellsWrong)

/-- 'wayfinderlaw03.PacketBack': WHATEVER THE INPUT: true; the input reads as it did. -/
def packetBackSpec : ChangeSpec := { name := "packetBack", fn := fun _ => fun
  | [d1, d2] => { results := [.lit (.bool true)], args := [d1, d2] }
  | _ => none }
def packetBackRow : OpenClaim := { program := "ytkidokbeabmpmaadoor", sum := "bf77764740182a41f4af0d5458ca5bd6a6aba39cba607de5cc916568cacf67d2", func := "wayfinder/wayfinderlaw03.PacketBack", spec := "packetBack", unfollowed := true, recurses := true, named := ["wayfinder/packet.widths"], apart := false, laid := [("wayfinder/packet.widths", laid_wayfinder_packet_widths)] }
def PacketBackSaid : Prop := packetBackRow.holds Tryd.pinned (OpenSpec.ofChange packetBackSpec)

/-- ITS FALSE NEIGHBOUR: 'it returns false'. Refute it at one input. -/
def packetBackWrong : ChangeSpec := { name := "packetBack", fn := fun _ => fun
  | [d1, d2] => { results := [.lit (.bool false)], args := [d1, d2] }
  | _ => none }
def PacketBackWrongFalsely : Prop := packetBackRow.holds Tryd.pinned (OpenSpec.ofChange packetBackWrong)

/-- 'wayfinderlaw03.PacketSpoilt': WHATEVER THE INPUT: true; the input reads as it did. -/
def packetSpoiltSpec : ChangeSpec := { name := "packetSpoilt", fn := fun _ => fun
  | [d1, d2, d3] => { results := [.lit (.bool true)], args := [d1, d2, d3] }
  | _ => none }
def packetSpoiltRow : OpenClaim := { program := "ytkidokbeabmpmaadoor", sum := "bf77764740182a41f4af0d5458ca5bd6a6aba39cba607de5cc916568cacf67d2", func := "wayfinder/wayfinderlaw03.PacketSpoilt", spec := "packetSpoilt", unfollowed := true, recurses := true, named := ["wayfinder/packet.widths"], apart := false, laid := [("wayfinder/packet.widths", laid_wayfinder_packet_widths)] }
def PacketSpoiltSaid : Prop := packetSpoiltRow.holds Tryd.pinned (OpenSpec.ofChange packetSpoiltSpec)

/-- ITS FALSE NEIGHBOUR: 'it returns false'. Refute it at one input. -/
def packetSpoiltWrong : ChangeSpec := { name := "packetSpoilt", fn := fun _ => fun
  | [d1, d2, d3] => { results := [.lit (.bool false)], args := [d1, d2, d3] }
  | _ => none }
def PacketSpoiltWrongFalsely : Prop := packetSpoiltRow.holds Tryd.pinned (OpenSpec.ofChange packetSpoiltWrong)

/- THE SECOND FORM. 'bulk': how many values and letters a reading holds, each counted each time it is reached (what is shared counts as often as it is met; a slice's spare places count too). A statement '..UptoSaid' is the law's where the arguments, and the package variables that the reading takes, are together of bulk at most 1048576: NARROWER than '..Said'. Prove '..Said' where nothing that the law and all that it calls make is longer than what came in: it says more and counts as full. Else prove '..UptoSaid'. A law counts once. -/
mutual
def uptoBulk {H : Type} : DataW H → Nat
  | .lit (.string bytes) => bytes.length + 1
  | .lit _ => 1
  | .nil => 1
  | .ptr d => uptoBulk d + 1
  | .slice elems spare => uptoBulkAll elems + uptoBulkAll spare + 1
  | .agg parts => uptoBulkAll parts + 1
  | .iface _ d => uptoBulk d + 1
  | .map entries => uptoBulkEntries entries + 1
  | .held _ => 1
def uptoBulkAll {H : Type} : List (DataW H) → Nat
  | [] => 0
  | d :: r => uptoBulk d + uptoBulkAll r
def uptoBulkEntries {H : Type} : List (Lit × DataW H) → Nat
  | [] => 0
  | x :: r => uptoBulkEntry x + uptoBulkEntries r
def uptoBulkEntry {H : Type} : Lit × DataW H → Nat
  | (.string bytes, d) => bytes.length + uptoBulk d + 1
  | (_, d) => uptoBulk d + 1
 end
def uptoSmall : (H : Type) → List (DataW H) → Bool := fun _ ds => decide (uptoBulkAll ds ≤ 1048576)
def OpenSpec.upto (s : _root_.Go.ChangeSpec) : _root_.Go.OpenSpec := { _root_.Go.OpenSpec.ofChange s with cond := some uptoSmall }

/-- 'wayfinderlaw03.PacketFields', WHERE WHAT IT READS IS OF BULK AT MOST 1048576: true; the input reads as it did. -/
def packetFieldsUptoRow : OpenClaim := { program := "ytkidokbeabmpmaadoor", sum := "bf77764740182a41f4af0d5458ca5bd6a6aba39cba607de5cc916568cacf67d2", func := "wayfinder/wayfinderlaw03.PacketFields", spec := "packetFields", unfollowed := true, recurses := true, named := ["wayfinder/packet.widths"], apart := false, laid := [("wayfinder/packet.widths", laid_wayfinder_packet_widths)], narrowed := true }
def PacketFieldsUptoSaid : Prop := packetFieldsUptoRow.holds Tryd.pinned (OpenSpec.upto packetFieldsSpec)

/-- 'wayfinderlaw03.PacketMay', WHERE WHAT IT READS IS OF BULK AT MOST 1048576: true; the input reads as it did. -/
def packetMayUptoRow : OpenClaim := { program := "ytkidokbeabmpmaadoor", sum := "bf77764740182a41f4af0d5458ca5bd6a6aba39cba607de5cc916568cacf67d2", func := "wayfinder/wayfinderlaw03.PacketMay", spec := "packetMay", unfollowed := true, recurses := true, named := ["wayfinder/packet.widths"], apart := false, laid := [("wayfinder/packet.widths", laid_wayfinder_packet_widths)], narrowed := true }
def PacketMayUptoSaid : Prop := packetMayUptoRow.holds Tryd.pinned (OpenSpec.upto packetMaySpec)

/-- 'wayfinderlaw03.PacketTag', WHERE WHAT IT READS IS OF BULK AT MOST 1048576: true; the input reads as it did. -/
def packetTagUptoRow : OpenClaim := { program := "ytkidokbeabmpmaadoor", sum := "bf77764740182a41f4af0d5458ca5bd6a6aba39cba607de5cc916568cacf67d2", func := "wayfinder/wayfinderlaw03.PacketTag", spec := "packetTag", unfollowed := true, recurses := true, named := ["wayfinder/packet.widths"], apart := false, laid := [("wayfinder/packet.widths", laid_wayfinder_packet_widths)], narrowed := true }
def PacketTagUptoSaid : Prop := packetTagUptoRow.holds Tryd.pinned (OpenSpec.upto packetTagSpec)

/-- 'wayfinderlaw03.PacketTells', WHERE WHAT IT READS IS OF BULK AT MOST 1048576: true; the input reads as it did. -/
def packetTellsUptoRow : OpenClaim := { program := "ytkidokbeabmpmaadoor", sum := "bf77764740182a41f4af0d5458ca5bd6a6aba39cba607de5cc916568cacf67d2", func := "wayfinder/wayfinderlaw03.PacketTells", spec := "packetTells", unfollowed := true, recurses := true, named := ["wayfinder/packet.widths"], apart := false, laid := [("wayfinder/packet.widths", laid_wayfinder_packet_widths)], narrowed := true }
def PacketTellsUptoSaid : Prop := packetTellsUptoRow.holds Tryd.pinned (OpenSpec.upto packetTellsSpec)

/-- 'wayfinderlaw03.PacketBack', WHERE WHAT IT READS IS OF BULK AT MOST 1048576: true; the input reads as it did. -/
def packetBackUptoRow : OpenClaim := { program := "ytkidokbeabmpmaadoor", sum := "bf77764740182a41f4af0d5458ca5bd6a6aba39cba607de5cc916568cacf67d2", func := "wayfinder/wayfinderlaw03.PacketBack", spec := "packetBack", unfollowed := true, recurses := true, named := ["wayfinder/packet.widths"], apart := false, laid := [("wayfinder/packet.widths", laid_wayfinder_packet_widths)], narrowed := true }
def PacketBackUptoSaid : Prop := packetBackUptoRow.holds Tryd.pinned (OpenSpec.upto packetBackSpec)

/-- 'wayfinderlaw03.PacketSpoilt', WHERE WHAT IT READS IS OF BULK AT MOST 1048576: true; the input reads as it did. -/
def packetSpoiltUptoRow : OpenClaim := { program := "ytkidokbeabmpmaadoor", sum := "bf77764740182a41f4af0d5458ca5bd6a6aba39cba607de5cc916568cacf67d2", func := "wayfinder/wayfinderlaw03.PacketSpoilt", spec := "packetSpoilt", unfollowed := true, recurses := true, named := ["wayfinder/packet.widths"], apart := false, laid := [("wayfinder/packet.widths", laid_wayfinder_packet_widths)], narrowed := true }
def PacketSpoiltUptoSaid : Prop := packetSpoiltUptoRow.holds Tryd.pinned (OpenSpec.upto packetSpoiltSpec)

end Rows
end Go.Proofs.YtkidokbeabmpmaaDoor
