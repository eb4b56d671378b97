/-
  DERIVED. GIVEN WITH THE SEED: THE CARDS: each row of YtpaoofkahhhjaaaDoorRows.lean that lists a variable, with what it lists TIED to the program's text (the seventh form; the later family's looks); each row that meets fmt, with fmt's text TOLD by the authors' own Lean function (tested against real Go, not proved from fmt's source: count such statements apart). THE CARD IS WHAT COUNTS. Prove the row's statement (the work); the ties are given (YtpaoofkahhhjaaaDoorTie.lean); close each card by the builder's one call (the guide's Derived/Test/ToyasCard.lean, 'card_holds'). Laid BY PROGRAM, IN A SANDBOX (cutbox-door.mjs). By AI agents, Wed Nov 11 2026. No macro, syntax, notation, axiom, sorry.
-/
import Derived.Test.YtpaoofkahhhjaaaDoorRows
import GoSem.ClaimSeven
namespace Go.Proofs.YtpaoofkahhhjaaaDoor
namespace Rows

/-- THE TIED CARD OF 'wayfinderlaw06.FrameOther'. -/
def frameOtherCard : Claim7 := { stood := { row := frameOtherRow, standIns := [], harness := (true, "e0a697f3f95e3b1bea23c0079388b2b1bfbe4ed4c5c11a06a7bb7284a26b0a01"), looks := false }, kinds := [], alts := [], laidByText := true, laidKinds := [.data], laidTests := true, laidLooks := .later }
def FrameOtherCardSaid : Prop := Claim7.holds Tryd.pinned (.plain (OpenSpec.ofChange frameOtherSpec)) frameOtherCard

/-- THE TIED CARD OF 'wayfinderlaw06.FrameTells'. -/
def frameTellsCard : Claim7 := { stood := { row := frameTellsRow, standIns := [], harness := (true, "e0a697f3f95e3b1bea23c0079388b2b1bfbe4ed4c5c11a06a7bb7284a26b0a01"), looks := false }, kinds := [], alts := [], laidByText := true, laidKinds := [.data], laidTests := true, laidLooks := .later }
def FrameTellsCardSaid : Prop := Claim7.holds Tryd.pinned (.plain (OpenSpec.ofChange frameTellsSpec)) frameTellsCard

/-- THE TIED CARD OF 'wayfinderlaw06.FrameBack'. -/
def frameBackCard : Claim7 := { stood := { row := frameBackRow, standIns := [], harness := (true, "e0a697f3f95e3b1bea23c0079388b2b1bfbe4ed4c5c11a06a7bb7284a26b0a01"), looks := false }, kinds := [], alts := [], laidByText := true, laidKinds := [.data], laidTests := true, laidLooks := .later }
def FrameBackCardSaid : Prop := Claim7.holds Tryd.pinned (.plain (OpenSpec.ofChange frameBackSpec)) frameBackCard

/-- THE TIED CARD OF 'wayfinderlaw06.FrameSpoilt'. -/
def frameSpoiltCard : Claim7 := { stood := { row := frameSpoiltRow, standIns := [], harness := (true, "e0a697f3f95e3b1bea23c0079388b2b1bfbe4ed4c5c11a06a7bb7284a26b0a01"), looks := false }, kinds := [], alts := [], laidByText := true, laidKinds := [.data], laidTests := true, laidLooks := .later }
def FrameSpoiltCardSaid : Prop := Claim7.holds Tryd.pinned (.plain (OpenSpec.ofChange frameSpoiltSpec)) frameSpoiltCard

/-- THE TIED CARD OF 'wayfinderlaw06.FrameSame'. -/
def frameSameCard : Claim7 := { stood := { row := frameSameRow, standIns := [], harness := (true, "e0a697f3f95e3b1bea23c0079388b2b1bfbe4ed4c5c11a06a7bb7284a26b0a01"), looks := false }, kinds := [], alts := [], laidByText := true, laidKinds := [.data], laidTests := true, laidLooks := .later }
def FrameSameCardSaid : Prop := Claim7.holds Tryd.pinned (.plain (OpenSpec.ofChange frameSameSpec)) frameSameCard

/-- THE TIED CARD OF 'wayfinderlaw06.FrameMark'. -/
def frameMarkCard : Claim7 := { stood := { row := frameMarkRow, standIns := [], harness := (true, "e0a697f3f95e3b1bea23c0079388b2b1bfbe4ed4c5c11a06a7bb7284a26b0a01"), looks := false }, kinds := [], alts := [], laidByText := true, laidKinds := [.data], laidTests := true, laidLooks := .later }
def FrameMarkCardSaid : Prop := Claim7.holds Tryd.pinned (.plain (OpenSpec.ofChange frameMarkSpec)) frameMarkCard

/-- THE SECOND FORM's CARD OF 'wayfinderlaw06.FrameOther'. -/
def frameOtherUptoCard : Claim7 := { stood := { row := frameOtherUptoRow, standIns := [], harness := (true, "e0a697f3f95e3b1bea23c0079388b2b1bfbe4ed4c5c11a06a7bb7284a26b0a01"), looks := false }, kinds := [], alts := [], laidByText := true, laidKinds := [.data], laidTests := true, laidLooks := .later }
def FrameOtherUptoCardSaid : Prop := Claim7.holds Tryd.pinned (.plain (OpenSpec.upto frameOtherSpec)) frameOtherUptoCard

/-- THE SECOND FORM's CARD OF 'wayfinderlaw06.FrameTells'. -/
def frameTellsUptoCard : Claim7 := { stood := { row := frameTellsUptoRow, standIns := [], harness := (true, "e0a697f3f95e3b1bea23c0079388b2b1bfbe4ed4c5c11a06a7bb7284a26b0a01"), looks := false }, kinds := [], alts := [], laidByText := true, laidKinds := [.data], laidTests := true, laidLooks := .later }
def FrameTellsUptoCardSaid : Prop := Claim7.holds Tryd.pinned (.plain (OpenSpec.upto frameTellsSpec)) frameTellsUptoCard

/-- THE SECOND FORM's CARD OF 'wayfinderlaw06.FrameBack'. -/
def frameBackUptoCard : Claim7 := { stood := { row := frameBackUptoRow, standIns := [], harness := (true, "e0a697f3f95e3b1bea23c0079388b2b1bfbe4ed4c5c11a06a7bb7284a26b0a01"), looks := false }, kinds := [], alts := [], laidByText := true, laidKinds := [.data], laidTests := true, laidLooks := .later }
def FrameBackUptoCardSaid : Prop := Claim7.holds Tryd.pinned (.plain (OpenSpec.upto frameBackSpec)) frameBackUptoCard

/-- THE SECOND FORM's CARD OF 'wayfinderlaw06.FrameSpoilt'. -/
def frameSpoiltUptoCard : Claim7 := { stood := { row := frameSpoiltUptoRow, standIns := [], harness := (true, "e0a697f3f95e3b1bea23c0079388b2b1bfbe4ed4c5c11a06a7bb7284a26b0a01"), looks := false }, kinds := [], alts := [], laidByText := true, laidKinds := [.data], laidTests := true, laidLooks := .later }
def FrameSpoiltUptoCardSaid : Prop := Claim7.holds Tryd.pinned (.plain (OpenSpec.upto frameSpoiltSpec)) frameSpoiltUptoCard

/-- THE SECOND FORM's CARD OF 'wayfinderlaw06.FrameSame'. -/
def frameSameUptoCard : Claim7 := { stood := { row := frameSameUptoRow, standIns := [], harness := (true, "e0a697f3f95e3b1bea23c0079388b2b1bfbe4ed4c5c11a06a7bb7284a26b0a01"), looks := false }, kinds := [], alts := [], laidByText := true, laidKinds := [.data], laidTests := true, laidLooks := .later }
def FrameSameUptoCardSaid : Prop := Claim7.holds Tryd.pinned (.plain (OpenSpec.upto frameSameSpec)) frameSameUptoCard

/-- THE SECOND FORM's CARD OF 'wayfinderlaw06.FrameMark'. -/
def frameMarkUptoCard : Claim7 := { stood := { row := frameMarkUptoRow, standIns := [], harness := (true, "e0a697f3f95e3b1bea23c0079388b2b1bfbe4ed4c5c11a06a7bb7284a26b0a01"), looks := false }, kinds := [], alts := [], laidByText := true, laidKinds := [.data], laidTests := true, laidLooks := .later }
def FrameMarkUptoCardSaid : Prop := Claim7.holds Tryd.pinned (.plain (OpenSpec.upto frameMarkSpec)) frameMarkUptoCard
end Rows
end Go.Proofs.YtpaoofkahhhjaaaDoor
