/-
  DERIVED. GIVEN WITH THE SEED: THE CARDS: each row of YtkidokbeabmpmaaDoorRows.lean that lists a variable, with what it lists TIED to the program's text (the seventh form; the later family's looks); each row that meets fmt, with fmt's text TOLD by the authors' own Lean function (tested against real Go, not proved from fmt's source: count such statements apart). THE CARD IS WHAT COUNTS. Prove the row's statement (the work); the ties are given (YtkidokbeabmpmaaDoorTie.lean); close each card by the builder's one call (the guide's Derived/Test/ToyasCard.lean, 'card_holds'). Laid BY PROGRAM, IN A SANDBOX (cutbox-door.mjs). By AI agents, Wed Nov 11 2026. No macro, syntax, notation, axiom, sorry.
-/
import Derived.Test.YtkidokbeabmpmaaDoorRows
import GoSem.ClaimSeven
namespace Go.Proofs.YtkidokbeabmpmaaDoor
namespace Rows

/-- THE TIED CARD OF 'wayfinderlaw03.PacketFields'. -/
def packetFieldsCard : Claim7 := { stood := { row := packetFieldsRow, standIns := [], harness := (true, "f7d83fd7bc4e5e113c82927d222029c5fb81af911744b01da869a448c9ff6d27"), looks := false }, kinds := [], alts := [], laidByText := true, laidKinds := [.widerDeep], laidTests := true, laidLooks := .later }
def PacketFieldsCardSaid : Prop := Claim7.holds Tryd.pinned (.plain (OpenSpec.ofChange packetFieldsSpec)) packetFieldsCard

/-- THE TIED CARD OF 'wayfinderlaw03.PacketMay'. -/
def packetMayCard : Claim7 := { stood := { row := packetMayRow, standIns := [], harness := (true, "f7d83fd7bc4e5e113c82927d222029c5fb81af911744b01da869a448c9ff6d27"), looks := false }, kinds := [], alts := [], laidByText := true, laidKinds := [.widerDeep], laidTests := true, laidLooks := .later }
def PacketMayCardSaid : Prop := Claim7.holds Tryd.pinned (.plain (OpenSpec.ofChange packetMaySpec)) packetMayCard

/-- THE TIED CARD OF 'wayfinderlaw03.PacketTag'. -/
def packetTagCard : Claim7 := { stood := { row := packetTagRow, standIns := [], harness := (true, "f7d83fd7bc4e5e113c82927d222029c5fb81af911744b01da869a448c9ff6d27"), looks := false }, kinds := [], alts := [], laidByText := true, laidKinds := [.widerDeep], laidTests := true, laidLooks := .later }
def PacketTagCardSaid : Prop := Claim7.holds Tryd.pinned (.plain (OpenSpec.ofChange packetTagSpec)) packetTagCard

/-- THE TIED CARD OF 'wayfinderlaw03.PacketTells'. -/
def packetTellsCard : Claim7 := { stood := { row := packetTellsRow, standIns := [], harness := (true, "f7d83fd7bc4e5e113c82927d222029c5fb81af911744b01da869a448c9ff6d27"), looks := false }, kinds := [], alts := [], laidByText := true, laidKinds := [.widerDeep], laidTests := true, laidLooks := .later }
def PacketTellsCardSaid : Prop := Claim7.holds Tryd.pinned (.plain (OpenSpec.ofChange packetTellsSpec)) packetTellsCard

/-- THE TIED CARD OF 'wayfinderlaw03.PacketBack'. -/
def packetBackCard : Claim7 := { stood := { row := packetBackRow, standIns := [], harness := (true, "f7d83fd7bc4e5e113c82927d222029c5fb81af911744b01da869a448c9ff6d27"), looks := false }, kinds := [], alts := [], laidByText := true, laidKinds := [.widerDeep], laidTests := true, laidLooks := .later }
def PacketBackCardSaid : Prop := Claim7.holds Tryd.pinned (.plain (OpenSpec.ofChange packetBackSpec)) packetBackCard

/-- THE TIED CARD OF 'wayfinderlaw03.PacketSpoilt'. -/
def packetSpoiltCard : Claim7 := { stood := { row := packetSpoiltRow, standIns := [], harness := (true, "f7d83fd7bc4e5e113c82927d222029c5fb81af911744b01da869a448c9ff6d27"), looks := false }, kinds := [], alts := [], laidByText := true, laidKinds := [.widerDeep], laidTests := true, laidLooks := .later }
def PacketSpoiltCardSaid : Prop := Claim7.holds Tryd.pinned (.plain (OpenSpec.ofChange packetSpoiltSpec)) packetSpoiltCard

/-- THE SECOND FORM's CARD OF 'wayfinderlaw03.PacketFields'. -/
def packetFieldsUptoCard : Claim7 := { stood := { row := packetFieldsUptoRow, standIns := [], harness := (true, "f7d83fd7bc4e5e113c82927d222029c5fb81af911744b01da869a448c9ff6d27"), looks := false }, kinds := [], alts := [], laidByText := true, laidKinds := [.widerDeep], laidTests := true, laidLooks := .later }
def PacketFieldsUptoCardSaid : Prop := Claim7.holds Tryd.pinned (.plain (OpenSpec.upto packetFieldsSpec)) packetFieldsUptoCard

/-- THE SECOND FORM's CARD OF 'wayfinderlaw03.PacketMay'. -/
def packetMayUptoCard : Claim7 := { stood := { row := packetMayUptoRow, standIns := [], harness := (true, "f7d83fd7bc4e5e113c82927d222029c5fb81af911744b01da869a448c9ff6d27"), looks := false }, kinds := [], alts := [], laidByText := true, laidKinds := [.widerDeep], laidTests := true, laidLooks := .later }
def PacketMayUptoCardSaid : Prop := Claim7.holds Tryd.pinned (.plain (OpenSpec.upto packetMaySpec)) packetMayUptoCard

/-- THE SECOND FORM's CARD OF 'wayfinderlaw03.PacketTag'. -/
def packetTagUptoCard : Claim7 := { stood := { row := packetTagUptoRow, standIns := [], harness := (true, "f7d83fd7bc4e5e113c82927d222029c5fb81af911744b01da869a448c9ff6d27"), looks := false }, kinds := [], alts := [], laidByText := true, laidKinds := [.widerDeep], laidTests := true, laidLooks := .later }
def PacketTagUptoCardSaid : Prop := Claim7.holds Tryd.pinned (.plain (OpenSpec.upto packetTagSpec)) packetTagUptoCard

/-- THE SECOND FORM's CARD OF 'wayfinderlaw03.PacketTells'. -/
def packetTellsUptoCard : Claim7 := { stood := { row := packetTellsUptoRow, standIns := [], harness := (true, "f7d83fd7bc4e5e113c82927d222029c5fb81af911744b01da869a448c9ff6d27"), looks := false }, kinds := [], alts := [], laidByText := true, laidKinds := [.widerDeep], laidTests := true, laidLooks := .later }
def PacketTellsUptoCardSaid : Prop := Claim7.holds Tryd.pinned (.plain (OpenSpec.upto packetTellsSpec)) packetTellsUptoCard

/-- THE SECOND FORM's CARD OF 'wayfinderlaw03.PacketBack'. -/
def packetBackUptoCard : Claim7 := { stood := { row := packetBackUptoRow, standIns := [], harness := (true, "f7d83fd7bc4e5e113c82927d222029c5fb81af911744b01da869a448c9ff6d27"), looks := false }, kinds := [], alts := [], laidByText := true, laidKinds := [.widerDeep], laidTests := true, laidLooks := .later }
def PacketBackUptoCardSaid : Prop := Claim7.holds Tryd.pinned (.plain (OpenSpec.upto packetBackSpec)) packetBackUptoCard

/-- THE SECOND FORM's CARD OF 'wayfinderlaw03.PacketSpoilt'. -/
def packetSpoiltUptoCard : Claim7 := { stood := { row := packetSpoiltUptoRow, standIns := [], harness := (true, "f7d83fd7bc4e5e113c82927d222029c5fb81af911744b01da869a448c9ff6d27"), looks := false }, kinds := [], alts := [], laidByText := true, laidKinds := [.widerDeep], laidTests := true, laidLooks := .later }
def PacketSpoiltUptoCardSaid : Prop := Claim7.holds Tryd.pinned (.plain (OpenSpec.upto packetSpoiltSpec)) packetSpoiltUptoCard
end Rows
end Go.Proofs.YtkidokbeabmpmaaDoor
