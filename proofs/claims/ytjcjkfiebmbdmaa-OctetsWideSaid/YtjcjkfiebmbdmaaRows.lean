/-
  No cell of these rows narrows 'for every input' (looked for: loops, veiled, ifaces, maps, wideKeys, modest, calm, conditions, laid).
  DERIVED. THE GIVEN ROWS OF THIS SEAT. 8 by the template 'for every input the law returns true; each argument reads behind the call as it read before'; 0 by the template 'total and deterministic' (their statements: YtjcjkfiebmbdmaaTotals.lean).
  GIVEN WITH THE SEED: the statements are not yours to turn. If you find one false, say at which input.
  Laid BY PROGRAM, IN A SANDBOX (cutbox-rows.mjs): the forced cells as the released guide's own fill.sh prints them over the translation 1a7a16cdf9101554… (all of the seat's roots in one cut). By AI agents, Wed Nov 11 2026. No macro, syntax, notation, axiom, sorry.
-/
import Derived.Test.YtjcjkfiebmbdmaaChecked
import GoSem.Claim
import GoSem.ClaimJoined
import GoSem.ClaimMapViews
import Derived.JoinedTies
import Derived.KernelRfl
namespace Go.Proofs.Ytjcjkfiebmbdmaa
/- THE CELL 'sum', in the pinned program and in every row, IS THE sha256 OF THE DUMP (.gsa) THAT YtjcjkfiebmbdmaaProg.lean LOADS. Nothing in Lean hashes anything: it is a label: what it is worth is what the hold of that sum in a sandbox is worth. -/
noncomputable def Try.pinned : Pinned := { name := "ytjcjkfiebmbdmaa", sum := "1a7a16cdf9101554790cb05fdd9eb51e40ef4c875e37e6edbbcc16f31fa5ecb1", checked := Try.checked }
namespace Rows
def none {H : Type} : Left H := { results := [], args := [] }

/-- 'wayfinderlaw02.OctetsSum': WHATEVER THE INPUT: true; the input reads as it did. -/
def octetsSumSpec : ChangeSpec := { name := "octetsSum", fn := fun _ => fun
  | [d1, d2, d3] => { results := [.lit (.bool true)], args := [d1, d2, d3] }
  | _ => none }
def octetsSumRow : OpenClaim := { program := "ytjcjkfiebmbdmaa", sum := "1a7a16cdf9101554790cb05fdd9eb51e40ef4c875e37e6edbbcc16f31fa5ecb1", func := "wayfinder/wayfinderlaw02.OctetsSum", spec := "octetsSum", apart := false }
def OctetsSumSaid : Prop := octetsSumRow.holds Try.pinned (OpenSpec.ofChange octetsSumSpec)

/-- ITS FALSE NEIGHBOUR: 'it returns false'. Refute it at one input. -/
def octetsSumWrong : ChangeSpec := { name := "octetsSum", fn := fun _ => fun
  | [d1, d2, d3] => { results := [.lit (.bool false)], args := [d1, d2, d3] }
  | _ => none }
def OctetsSumWrongFalsely : Prop := octetsSumRow.holds Try.pinned (OpenSpec.ofChange octetsSumWrong)

/-- 'wayfinderlaw02.OctetsOrder': WHATEVER THE INPUT: true; the input reads as it did. -/
def octetsOrderSpec : ChangeSpec := { name := "octetsOrder", fn := fun _ => fun
  | [d1, d2, d3] => { results := [.lit (.bool true)], args := [d1, d2, d3] }
  | _ => none }
def octetsOrderRow : OpenClaim := { program := "ytjcjkfiebmbdmaa", sum := "1a7a16cdf9101554790cb05fdd9eb51e40ef4c875e37e6edbbcc16f31fa5ecb1", func := "wayfinder/wayfinderlaw02.OctetsOrder", spec := "octetsOrder", apart := false }
def OctetsOrderSaid : Prop := octetsOrderRow.holds Try.pinned (OpenSpec.ofChange octetsOrderSpec)

/-- ITS FALSE NEIGHBOUR: 'it returns false'. Refute it at one input. -/
def octetsOrderWrong : ChangeSpec := { name := "octetsOrder", fn := fun _ => fun
  | [d1, d2, d3] => { results := [.lit (.bool false)], args := [d1, d2, d3] }
  | _ => none }
def OctetsOrderWrongFalsely : Prop := octetsOrderRow.holds Try.pinned (OpenSpec.ofChange octetsOrderWrong)

/-- 'wayfinderlaw02.OctetsTurn': WHATEVER THE INPUT: true; the input reads as it did. -/
def octetsTurnSpec : ChangeSpec := { name := "octetsTurn", fn := fun _ => fun
  | [d1, d2, d3] => { results := [.lit (.bool true)], args := [d1, d2, d3] }
  | _ => none }
def octetsTurnRow : OpenClaim := { program := "ytjcjkfiebmbdmaa", sum := "1a7a16cdf9101554790cb05fdd9eb51e40ef4c875e37e6edbbcc16f31fa5ecb1", func := "wayfinder/wayfinderlaw02.OctetsTurn", spec := "octetsTurn", apart := false }
def OctetsTurnSaid : Prop := octetsTurnRow.holds Try.pinned (OpenSpec.ofChange octetsTurnSpec)

/-- ITS FALSE NEIGHBOUR: 'it returns false'. Refute it at one input. -/
def octetsTurnWrong : ChangeSpec := { name := "octetsTurn", fn := fun _ => fun
  | [d1, d2, d3] => { results := [.lit (.bool false)], args := [d1, d2, d3] }
  | _ => none }
def OctetsTurnWrongFalsely : Prop := octetsTurnRow.holds Try.pinned (OpenSpec.ofChange octetsTurnWrong)

/-- 'wayfinderlaw02.OctetsWide': WHATEVER THE INPUT: true; the input reads as it did. -/
def octetsWideSpec : ChangeSpec := { name := "octetsWide", fn := fun _ => fun
  | [d1, d2] => { results := [.lit (.bool true)], args := [d1, d2] }
  | _ => none }
def octetsWideRow : OpenClaim := { program := "ytjcjkfiebmbdmaa", sum := "1a7a16cdf9101554790cb05fdd9eb51e40ef4c875e37e6edbbcc16f31fa5ecb1", func := "wayfinder/wayfinderlaw02.OctetsWide", spec := "octetsWide", apart := false }
def OctetsWideSaid : Prop := octetsWideRow.holds Try.pinned (OpenSpec.ofChange octetsWideSpec)

/-- ITS FALSE NEIGHBOUR: 'it returns false'. Refute it at one input. -/
def octetsWideWrong : ChangeSpec := { name := "octetsWide", fn := fun _ => fun
  | [d1, d2] => { results := [.lit (.bool false)], args := [d1, d2] }
  | _ => none }
def OctetsWideWrongFalsely : Prop := octetsWideRow.holds Try.pinned (OpenSpec.ofChange octetsWideWrong)

/-- 'wayfinderlaw02.OctetsTell': WHATEVER THE INPUT: true; the input reads as it did. -/
def octetsTellSpec : ChangeSpec := { name := "octetsTell", fn := fun _ => fun
  | [d1, d2, d3] => { results := [.lit (.bool true)], args := [d1, d2, d3] }
  | _ => none }
def octetsTellRow : OpenClaim := { program := "ytjcjkfiebmbdmaa", sum := "1a7a16cdf9101554790cb05fdd9eb51e40ef4c875e37e6edbbcc16f31fa5ecb1", func := "wayfinder/wayfinderlaw02.OctetsTell", spec := "octetsTell", apart := false }
def OctetsTellSaid : Prop := octetsTellRow.holds Try.pinned (OpenSpec.ofChange octetsTellSpec)

/-- ITS FALSE NEIGHBOUR: 'it returns false'. Refute it at one input. -/
def octetsTellWrong : ChangeSpec := { name := "octetsTell", fn := fun _ => fun
  | [d1, d2, d3] => { results := [.lit (.bool false)], args := [d1, d2, d3] }
  | _ => none }
def OctetsTellWrongFalsely : Prop := octetsTellRow.holds Try.pinned (OpenSpec.ofChange octetsTellWrong)

/-- 'wayfinderlaw02.OctetsShort': WHATEVER THE INPUT: true; the input reads as it did. -/
def octetsShortSpec : ChangeSpec := { name := "octetsShort", fn := fun _ => fun
  | [d1, d2] => { results := [.lit (.bool true)], args := [d1, d2] }
  | _ => none }
def octetsShortRow : OpenClaim := { program := "ytjcjkfiebmbdmaa", sum := "1a7a16cdf9101554790cb05fdd9eb51e40ef4c875e37e6edbbcc16f31fa5ecb1", func := "wayfinder/wayfinderlaw02.OctetsShort", spec := "octetsShort", apart := false }
def OctetsShortSaid : Prop := octetsShortRow.holds Try.pinned (OpenSpec.ofChange octetsShortSpec)

/-- ITS FALSE NEIGHBOUR: 'it returns false'. Refute it at one input. -/
def octetsShortWrong : ChangeSpec := { name := "octetsShort", fn := fun _ => fun
  | [d1, d2] => { results := [.lit (.bool false)], args := [d1, d2] }
  | _ => none }
def OctetsShortWrongFalsely : Prop := octetsShortRow.holds Try.pinned (OpenSpec.ofChange octetsShortWrong)

/-- 'wayfinderlaw02.OctetsAll': WHATEVER THE INPUT: true; the input reads as it did. -/
def octetsAllSpec : ChangeSpec := { name := "octetsAll", fn := fun _ => fun
  | [d1, d2, d3] => { results := [.lit (.bool true)], args := [d1, d2, d3] }
  | _ => none }
def octetsAllRow : OpenClaim := { program := "ytjcjkfiebmbdmaa", sum := "1a7a16cdf9101554790cb05fdd9eb51e40ef4c875e37e6edbbcc16f31fa5ecb1", func := "wayfinder/wayfinderlaw02.OctetsAll", spec := "octetsAll", apart := false }
def OctetsAllSaid : Prop := octetsAllRow.holds Try.pinned (OpenSpec.ofChange octetsAllSpec)

/-- ITS FALSE NEIGHBOUR: 'it returns false'. Refute it at one input. -/
def octetsAllWrong : ChangeSpec := { name := "octetsAll", fn := fun _ => fun
  | [d1, d2, d3] => { results := [.lit (.bool false)], args := [d1, d2, d3] }
  | _ => none }
def OctetsAllWrongFalsely : Prop := octetsAllRow.holds Try.pinned (OpenSpec.ofChange octetsAllWrong)

/-- 'wayfinderlaw02.OctetsBack': WHATEVER THE INPUT: true; the input reads as it did. -/
def octetsBackSpec : ChangeSpec := { name := "octetsBack", fn := fun _ => fun
  | [d1, d2, d3] => { results := [.lit (.bool true)], args := [d1, d2, d3] }
  | _ => none }
def octetsBackRow : OpenClaim := { program := "ytjcjkfiebmbdmaa", sum := "1a7a16cdf9101554790cb05fdd9eb51e40ef4c875e37e6edbbcc16f31fa5ecb1", func := "wayfinder/wayfinderlaw02.OctetsBack", spec := "octetsBack", apart := false }
def OctetsBackSaid : Prop := octetsBackRow.holds Try.pinned (OpenSpec.ofChange octetsBackSpec)

/-- ITS FALSE NEIGHBOUR: 'it returns false'. Refute it at one input. -/
def octetsBackWrong : ChangeSpec := { name := "octetsBack", fn := fun _ => fun
  | [d1, d2, d3] => { results := [.lit (.bool false)], args := [d1, d2, d3] }
  | _ => none }
def OctetsBackWrongFalsely : Prop := octetsBackRow.holds Try.pinned (OpenSpec.ofChange octetsBackWrong)

/- THE SECOND FORM. 'bulk': how many values and letters a reading holds, each counted each time it is reached (what is shared counts as often as it is met; a slice's spare places count too). A statement '..UptoSaid' is the law's where the arguments, and the package variables that the reading takes, are together of bulk at most 1048576: NARROWER than '..Said'. Prove '..Said' where nothing that the law and all that it calls make is longer than what came in: it says more and counts as full. Else prove '..UptoSaid'. A law counts once. -/
mutual
def uptoBulk {H : Type} : DataW H → Nat
  | .lit (.string bytes) => bytes.length + 1
  | .lit _ => 1
  | .nil => 1
  | .ptr d => uptoBulk d + 1
  | .slice elems spare => uptoBulkAll elems + uptoBulkAll spare + 1
  | .agg parts => uptoBulkAll parts + 1
  | .iface _ d => uptoBulk d + 1
  | .map entries => uptoBulkEntries entries + 1
  | .held _ => 1
def uptoBulkAll {H : Type} : List (DataW H) → Nat
  | [] => 0
  | d :: r => uptoBulk d + uptoBulkAll r
def uptoBulkEntries {H : Type} : List (Lit × DataW H) → Nat
  | [] => 0
  | x :: r => uptoBulkEntry x + uptoBulkEntries r
def uptoBulkEntry {H : Type} : Lit × DataW H → Nat
  | (.string bytes, d) => bytes.length + uptoBulk d + 1
  | (_, d) => uptoBulk d + 1
 end
def uptoSmall : (H : Type) → List (DataW H) → Bool := fun _ ds => decide (uptoBulkAll ds ≤ 1048576)
def OpenSpec.upto (s : _root_.Go.ChangeSpec) : _root_.Go.OpenSpec := { _root_.Go.OpenSpec.ofChange s with cond := some uptoSmall }

/-- 'wayfinderlaw02.OctetsSum', WHERE WHAT IT READS IS OF BULK AT MOST 1048576: true; the input reads as it did. -/
def octetsSumUptoRow : OpenClaim := { program := "ytjcjkfiebmbdmaa", sum := "1a7a16cdf9101554790cb05fdd9eb51e40ef4c875e37e6edbbcc16f31fa5ecb1", func := "wayfinder/wayfinderlaw02.OctetsSum", spec := "octetsSum", apart := false, narrowed := true }
def OctetsSumUptoSaid : Prop := octetsSumUptoRow.holds Try.pinned (OpenSpec.upto octetsSumSpec)

/-- 'wayfinderlaw02.OctetsOrder', WHERE WHAT IT READS IS OF BULK AT MOST 1048576: true; the input reads as it did. -/
def octetsOrderUptoRow : OpenClaim := { program := "ytjcjkfiebmbdmaa", sum := "1a7a16cdf9101554790cb05fdd9eb51e40ef4c875e37e6edbbcc16f31fa5ecb1", func := "wayfinder/wayfinderlaw02.OctetsOrder", spec := "octetsOrder", apart := false, narrowed := true }
def OctetsOrderUptoSaid : Prop := octetsOrderUptoRow.holds Try.pinned (OpenSpec.upto octetsOrderSpec)

/-- 'wayfinderlaw02.OctetsTurn', WHERE WHAT IT READS IS OF BULK AT MOST 1048576: true; the input reads as it did. -/
def octetsTurnUptoRow : OpenClaim := { program := "ytjcjkfiebmbdmaa", sum := "1a7a16cdf9101554790cb05fdd9eb51e40ef4c875e37e6edbbcc16f31fa5ecb1", func := "wayfinder/wayfinderlaw02.OctetsTurn", spec := "octetsTurn", apart := false, narrowed := true }
def OctetsTurnUptoSaid : Prop := octetsTurnUptoRow.holds Try.pinned (OpenSpec.upto octetsTurnSpec)

/-- 'wayfinderlaw02.OctetsWide', WHERE WHAT IT READS IS OF BULK AT MOST 1048576: true; the input reads as it did. -/
def octetsWideUptoRow : OpenClaim := { program := "ytjcjkfiebmbdmaa", sum := "1a7a16cdf9101554790cb05fdd9eb51e40ef4c875e37e6edbbcc16f31fa5ecb1", func := "wayfinder/wayfinderlaw02.OctetsWide", spec := "octetsWide", apart := false, narrowed := true }
def OctetsWideUptoSaid : Prop := octetsWideUptoRow.holds Try.pinned (OpenSpec.upto octetsWideSpec)

/-- 'wayfinderlaw02.OctetsTell', WHERE WHAT IT READS IS OF BULK AT MOST 1048576: true; the input reads as it did. -/
def octetsTellUptoRow : OpenClaim := { program := "ytjcjkfiebmbdmaa", sum := "1a7a16cdf9101554790cb05fdd9eb51e40ef4c875e37e6edbbcc16f31fa5ecb1", func := "wayfinder/wayfinderlaw02.OctetsTell", spec := "octetsTell", apart := false, narrowed := true }
def OctetsTellUptoSaid : Prop := octetsTellUptoRow.holds Try.pinned (OpenSpec.upto octetsTellSpec)

/-- 'wayfinderlaw02.OctetsShort', WHERE WHAT IT READS IS OF BULK AT MOST 1048576: true; the input reads as it did. -/
def octetsShortUptoRow : OpenClaim := { program := "ytjcjkfiebmbdmaa", sum := "1a7a16cdf9101554790cb05fdd9eb51e40ef4c875e37e6edbbcc16f31fa5ecb1", func := "wayfinder/wayfinderlaw02.OctetsShort", spec := "octetsShort", apart := false, narrowed := true }
def OctetsShortUptoSaid : Prop := octetsShortUptoRow.holds Try.pinned (OpenSpec.upto octetsShortSpec)

/-- 'wayfinderlaw02.OctetsAll', WHERE WHAT IT READS IS OF BULK AT MOST 1048576: true; the input reads as it did. -/
def octetsAllUptoRow : OpenClaim := { program := "ytjcjkfiebmbdmaa", sum := "1a7a16cdf9101554790cb05fdd9eb51e40ef4c875e37e6edbbcc16f31fa5ecb1", func := "wayfinder/wayfinderlaw02.OctetsAll", spec := "octetsAll", apart := false, narrowed := true }
def OctetsAllUptoSaid : Prop := octetsAllUptoRow.holds Try.pinned (OpenSpec.upto octetsAllSpec)

/-- 'wayfinderlaw02.OctetsBack', WHERE WHAT IT READS IS OF BULK AT MOST 1048576: true; the input reads as it did. -/
def octetsBackUptoRow : OpenClaim := { program := "ytjcjkfiebmbdmaa", sum := "1a7a16cdf9101554790cb05fdd9eb51e40ef4c875e37e6edbbcc16f31fa5ecb1", func := "wayfinder/wayfinderlaw02.OctetsBack", spec := "octetsBack", apart := false, narrowed := true }
def OctetsBackUptoSaid : Prop := octetsBackUptoRow.holds Try.pinned (OpenSpec.upto octetsBackSpec)

end Rows
end Go.Proofs.Ytjcjkfiebmbdmaa
