/-
  DERIVED. GIVEN WITH THE SEED: THE CARDS: each row of YtdmajldpebooeaaDoorRows.lean that lists a variable, with what it lists TIED to the program's text (the seventh form; the later family's looks); each row that meets fmt, with fmt's text TOLD by the authors' own Lean function (tested against real Go, not proved from fmt's source: count such statements apart). THE CARD IS WHAT COUNTS. Prove the row's statement (the work); the ties are given (YtdmajldpebooeaaDoorTie.lean); close each card by the builder's one call (the guide's Derived/Test/ToyasCard.lean, 'card_holds'). Laid BY PROGRAM, IN A SANDBOX (cutbox-door.mjs). By AI agents, Wed Nov 11 2026. No macro, syntax, notation, axiom, sorry.
-/
import Derived.Test.YtdmajldpebooeaaDoorRows
import GoSem.ClaimSeven
namespace Go.Proofs.YtdmajldpebooeaaDoor
namespace Rows

/-- THE TIED CARD OF 'wayfinderlaw05.MsgTells'. -/
def msgTellsCard : Claim7 := { stood := { row := msgTellsRow, standIns := [], harness := (true, "284be0e2a3dfad9a0eef8dea4d37944202ea272b7b1296c5f495a1706a4773d4"), looks := false }, kinds := [], alts := [], laidByText := true, laidKinds := [.data], laidTests := true, laidLooks := .later }
def MsgTellsCardSaid : Prop := Claim7.holds Tryd.pinned (.plain (OpenSpec.ofChange msgTellsSpec)) msgTellsCard

/-- THE TIED CARD OF 'wayfinderlaw05.MsgKinds'. -/
def msgKindsCard : Claim7 := { stood := { row := msgKindsRow, standIns := [], harness := (true, "284be0e2a3dfad9a0eef8dea4d37944202ea272b7b1296c5f495a1706a4773d4"), looks := false }, kinds := [], alts := [], laidByText := true, laidKinds := [.data], laidTests := true, laidLooks := .later }
def MsgKindsCardSaid : Prop := Claim7.holds Tryd.pinned (.plain (OpenSpec.ofChange msgKindsSpec)) msgKindsCard

/-- THE TIED CARD OF 'wayfinderlaw05.MsgOther'. -/
def msgOtherCard : Claim7 := { stood := { row := msgOtherRow, standIns := [], harness := (true, "284be0e2a3dfad9a0eef8dea4d37944202ea272b7b1296c5f495a1706a4773d4"), looks := false }, kinds := [], alts := [], laidByText := true, laidKinds := [.data], laidTests := true, laidLooks := .later }
def MsgOtherCardSaid : Prop := Claim7.holds Tryd.pinned (.plain (OpenSpec.ofChange msgOtherSpec)) msgOtherCard

/-- THE TIED CARD OF 'wayfinderlaw05.MsgGets'. -/
def msgGetsCard : Claim7 := { stood := { row := msgGetsRow, standIns := [], harness := (true, "284be0e2a3dfad9a0eef8dea4d37944202ea272b7b1296c5f495a1706a4773d4"), looks := false }, kinds := [], alts := [], laidByText := true, laidKinds := [.data], laidTests := true, laidLooks := .later }
def MsgGetsCardSaid : Prop := Claim7.holds Tryd.pinned (.plain (OpenSpec.ofChange msgGetsSpec)) msgGetsCard

/-- THE TIED CARD OF 'wayfinderlaw05.MsgBack'. -/
def msgBackCard : Claim7 := { stood := { row := msgBackRow, standIns := [], harness := (true, "284be0e2a3dfad9a0eef8dea4d37944202ea272b7b1296c5f495a1706a4773d4"), looks := false }, kinds := [], alts := [], laidByText := true, laidKinds := [.data], laidTests := true, laidLooks := .later }
def MsgBackCardSaid : Prop := Claim7.holds Tryd.pinned (.plain (OpenSpec.ofChange msgBackSpec)) msgBackCard

/-- THE TIED CARD OF 'wayfinderlaw05.MsgShort'. -/
def msgShortCard : Claim7 := { stood := { row := msgShortRow, standIns := [], harness := (true, "284be0e2a3dfad9a0eef8dea4d37944202ea272b7b1296c5f495a1706a4773d4"), looks := false }, kinds := [], alts := [], laidByText := true, laidKinds := [.data], laidTests := true, laidLooks := .later }
def MsgShortCardSaid : Prop := Claim7.holds Tryd.pinned (.plain (OpenSpec.ofChange msgShortSpec)) msgShortCard

/-- THE SECOND FORM's CARD OF 'wayfinderlaw05.MsgTells'. -/
def msgTellsUptoCard : Claim7 := { stood := { row := msgTellsUptoRow, standIns := [], harness := (true, "284be0e2a3dfad9a0eef8dea4d37944202ea272b7b1296c5f495a1706a4773d4"), looks := false }, kinds := [], alts := [], laidByText := true, laidKinds := [.data], laidTests := true, laidLooks := .later }
def MsgTellsUptoCardSaid : Prop := Claim7.holds Tryd.pinned (.plain (OpenSpec.upto msgTellsSpec)) msgTellsUptoCard

/-- THE SECOND FORM's CARD OF 'wayfinderlaw05.MsgKinds'. -/
def msgKindsUptoCard : Claim7 := { stood := { row := msgKindsUptoRow, standIns := [], harness := (true, "284be0e2a3dfad9a0eef8dea4d37944202ea272b7b1296c5f495a1706a4773d4"), looks := false }, kinds := [], alts := [], laidByText := true, laidKinds := [.data], laidTests := true, laidLooks := .later }
def MsgKindsUptoCardSaid : Prop := Claim7.holds Tryd.pinned (.plain (OpenSpec.upto msgKindsSpec)) msgKindsUptoCard

/-- THE SECOND FORM's CARD OF 'wayfinderlaw05.MsgOther'. -/
def msgOtherUptoCard : Claim7 := { stood := { row := msgOtherUptoRow, standIns := [], harness := (true, "284be0e2a3dfad9a0eef8dea4d37944202ea272b7b1296c5f495a1706a4773d4"), looks := false }, kinds := [], alts := [], laidByText := true, laidKinds := [.data], laidTests := true, laidLooks := .later }
def MsgOtherUptoCardSaid : Prop := Claim7.holds Tryd.pinned (.plain (OpenSpec.upto msgOtherSpec)) msgOtherUptoCard

/-- THE SECOND FORM's CARD OF 'wayfinderlaw05.MsgGets'. -/
def msgGetsUptoCard : Claim7 := { stood := { row := msgGetsUptoRow, standIns := [], harness := (true, "284be0e2a3dfad9a0eef8dea4d37944202ea272b7b1296c5f495a1706a4773d4"), looks := false }, kinds := [], alts := [], laidByText := true, laidKinds := [.data], laidTests := true, laidLooks := .later }
def MsgGetsUptoCardSaid : Prop := Claim7.holds Tryd.pinned (.plain (OpenSpec.upto msgGetsSpec)) msgGetsUptoCard

/-- THE SECOND FORM's CARD OF 'wayfinderlaw05.MsgBack'. -/
def msgBackUptoCard : Claim7 := { stood := { row := msgBackUptoRow, standIns := [], harness := (true, "284be0e2a3dfad9a0eef8dea4d37944202ea272b7b1296c5f495a1706a4773d4"), looks := false }, kinds := [], alts := [], laidByText := true, laidKinds := [.data], laidTests := true, laidLooks := .later }
def MsgBackUptoCardSaid : Prop := Claim7.holds Tryd.pinned (.plain (OpenSpec.upto msgBackSpec)) msgBackUptoCard

/-- THE SECOND FORM's CARD OF 'wayfinderlaw05.MsgShort'. -/
def msgShortUptoCard : Claim7 := { stood := { row := msgShortUptoRow, standIns := [], harness := (true, "284be0e2a3dfad9a0eef8dea4d37944202ea272b7b1296c5f495a1706a4773d4"), looks := false }, kinds := [], alts := [], laidByText := true, laidKinds := [.data], laidTests := true, laidLooks := .later }
def MsgShortUptoCardSaid : Prop := Claim7.holds Tryd.pinned (.plain (OpenSpec.upto msgShortSpec)) msgShortUptoCard
end Rows
end Go.Proofs.YtdmajldpebooeaaDoor
