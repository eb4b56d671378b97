/-
  No cell of these rows narrows 'for every input' (looked for: loops, veiled, ifaces, maps, wideKeys, modest, calm, conditions, laid).
  DERIVED. THE GIVEN ROWS OF THIS SEAT. 8 by the template 'for every input the law returns true; each argument reads behind the call as it read before'; 0 by the template 'total and deterministic' (their statements: YtbecakaajbkofaaTotals.lean).
  GIVEN WITH THE SEED: the statements are not yours to turn. If you find one false, say at which input.
  Laid BY PROGRAM, IN A SANDBOX (cutbox-rows.mjs): the forced cells as the released guide's own fill.sh prints them over the translation 9bf4b55568cb6f4d… (all of the seat's roots in one cut). By AI agents, Wed Nov 11 2026. No macro, syntax, notation, axiom, sorry.
-/
import Derived.Test.YtbecakaajbkofaaChecked
import GoSem.Claim
import GoSem.ClaimJoined
import GoSem.ClaimMapViews
import Derived.JoinedTies
import Derived.KernelRfl
namespace Go.Proofs.Ytbecakaajbkofaa
/- THE CELL 'sum', in the pinned program and in every row, IS THE sha256 OF THE DUMP (.gsa) THAT YtbecakaajbkofaaProg.lean LOADS. Nothing in Lean hashes anything: it is a label: what it is worth is what the hold of that sum in a sandbox is worth. -/
noncomputable def Try.pinned : Pinned := { name := "ytbecakaajbkofaa", sum := "9bf4b55568cb6f4d263a093f050bf35037f587e7587dfb8eb7ddc89e456cc2ea", checked := Try.checked }
namespace Rows
def none {H : Type} : Left H := { results := [], args := [] }

/-- 'wayfinderlaw01.BitsNine': WHATEVER THE INPUT: true; the input reads as it did. -/
def bitsNineSpec : ChangeSpec := { name := "bitsNine", fn := fun _ => fun
  | [d1, d2] => { results := [.lit (.bool true)], args := [d1, d2] }
  | _ => none }
def bitsNineRow : OpenClaim := { program := "ytbecakaajbkofaa", sum := "9bf4b55568cb6f4d263a093f050bf35037f587e7587dfb8eb7ddc89e456cc2ea", func := "wayfinder/wayfinderlaw01.BitsNine", spec := "bitsNine", apart := false }
def BitsNineSaid : Prop := bitsNineRow.holds Try.pinned (OpenSpec.ofChange bitsNineSpec)

/-- ITS FALSE NEIGHBOUR: 'it returns false'. Refute it at one input. -/
def bitsNineWrong : ChangeSpec := { name := "bitsNine", fn := fun _ => fun
  | [d1, d2] => { results := [.lit (.bool false)], args := [d1, d2] }
  | _ => none }
def BitsNineWrongFalsely : Prop := bitsNineRow.holds Try.pinned (OpenSpec.ofChange bitsNineWrong)

/-- 'wayfinderlaw01.BitsMay': WHATEVER THE INPUT: true; the input reads as it did. -/
def bitsMaySpec : ChangeSpec := { name := "bitsMay", fn := fun _ => fun
  | [d1, d2, d3] => { results := [.lit (.bool true)], args := [d1, d2, d3] }
  | _ => none }
def bitsMayRow : OpenClaim := { program := "ytbecakaajbkofaa", sum := "9bf4b55568cb6f4d263a093f050bf35037f587e7587dfb8eb7ddc89e456cc2ea", func := "wayfinder/wayfinderlaw01.BitsMay", spec := "bitsMay", apart := false }
def BitsMaySaid : Prop := bitsMayRow.holds Try.pinned (OpenSpec.ofChange bitsMaySpec)

/-- ITS FALSE NEIGHBOUR: 'it returns false'. Refute it at one input. -/
def bitsMayWrong : ChangeSpec := { name := "bitsMay", fn := fun _ => fun
  | [d1, d2, d3] => { results := [.lit (.bool false)], args := [d1, d2, d3] }
  | _ => none }
def BitsMayWrongFalsely : Prop := bitsMayRow.holds Try.pinned (OpenSpec.ofChange bitsMayWrong)

/-- 'wayfinderlaw01.BitsTwo': WHATEVER THE INPUT: true; the input reads as it did. -/
def bitsTwoSpec : ChangeSpec := { name := "bitsTwo", fn := fun _ => fun
  | [d1, d2, d3] => { results := [.lit (.bool true)], args := [d1, d2, d3] }
  | _ => none }
def bitsTwoRow : OpenClaim := { program := "ytbecakaajbkofaa", sum := "9bf4b55568cb6f4d263a093f050bf35037f587e7587dfb8eb7ddc89e456cc2ea", func := "wayfinder/wayfinderlaw01.BitsTwo", spec := "bitsTwo", apart := false }
def BitsTwoSaid : Prop := bitsTwoRow.holds Try.pinned (OpenSpec.ofChange bitsTwoSpec)

/-- ITS FALSE NEIGHBOUR: 'it returns false'. Refute it at one input. -/
def bitsTwoWrong : ChangeSpec := { name := "bitsTwo", fn := fun _ => fun
  | [d1, d2, d3] => { results := [.lit (.bool false)], args := [d1, d2, d3] }
  | _ => none }
def BitsTwoWrongFalsely : Prop := bitsTwoRow.holds Try.pinned (OpenSpec.ofChange bitsTwoWrong)

/-- 'wayfinderlaw01.BitsCut': WHATEVER THE INPUT: true; the input reads as it did. -/
def bitsCutSpec : ChangeSpec := { name := "bitsCut", fn := fun _ => fun
  | [d1, d2, d3, d4] => { results := [.lit (.bool true)], args := [d1, d2, d3, d4] }
  | _ => none }
def bitsCutRow : OpenClaim := { program := "ytbecakaajbkofaa", sum := "9bf4b55568cb6f4d263a093f050bf35037f587e7587dfb8eb7ddc89e456cc2ea", func := "wayfinder/wayfinderlaw01.BitsCut", spec := "bitsCut", apart := false }
def BitsCutSaid : Prop := bitsCutRow.holds Try.pinned (OpenSpec.ofChange bitsCutSpec)

/-- ITS FALSE NEIGHBOUR: 'it returns false'. Refute it at one input. -/
def bitsCutWrong : ChangeSpec := { name := "bitsCut", fn := fun _ => fun
  | [d1, d2, d3, d4] => { results := [.lit (.bool false)], args := [d1, d2, d3, d4] }
  | _ => none }
def BitsCutWrongFalsely : Prop := bitsCutRow.holds Try.pinned (OpenSpec.ofChange bitsCutWrong)

/-- 'wayfinderlaw01.BitsChain': WHATEVER THE INPUT: true; the input reads as it did. -/
def bitsChainSpec : ChangeSpec := { name := "bitsChain", fn := fun _ => fun
  | [d1, d2, d3, d4] => { results := [.lit (.bool true)], args := [d1, d2, d3, d4] }
  | _ => none }
def bitsChainRow : OpenClaim := { program := "ytbecakaajbkofaa", sum := "9bf4b55568cb6f4d263a093f050bf35037f587e7587dfb8eb7ddc89e456cc2ea", func := "wayfinder/wayfinderlaw01.BitsChain", spec := "bitsChain", apart := false }
def BitsChainSaid : Prop := bitsChainRow.holds Try.pinned (OpenSpec.ofChange bitsChainSpec)

/-- ITS FALSE NEIGHBOUR: 'it returns false'. Refute it at one input. -/
def bitsChainWrong : ChangeSpec := { name := "bitsChain", fn := fun _ => fun
  | [d1, d2, d3, d4] => { results := [.lit (.bool false)], args := [d1, d2, d3, d4] }
  | _ => none }
def BitsChainWrongFalsely : Prop := bitsChainRow.holds Try.pinned (OpenSpec.ofChange bitsChainWrong)

/-- 'wayfinderlaw01.BitsTell': WHATEVER THE INPUT: true; the input reads as it did. -/
def bitsTellSpec : ChangeSpec := { name := "bitsTell", fn := fun _ => fun
  | [d1, d2, d3] => { results := [.lit (.bool true)], args := [d1, d2, d3] }
  | _ => none }
def bitsTellRow : OpenClaim := { program := "ytbecakaajbkofaa", sum := "9bf4b55568cb6f4d263a093f050bf35037f587e7587dfb8eb7ddc89e456cc2ea", func := "wayfinder/wayfinderlaw01.BitsTell", spec := "bitsTell", unfollowed := true, recurses := true, apart := false }
def BitsTellSaid : Prop := bitsTellRow.holds Try.pinned (OpenSpec.ofChange bitsTellSpec)

/-- ITS FALSE NEIGHBOUR: 'it returns false'. Refute it at one input. -/
def bitsTellWrong : ChangeSpec := { name := "bitsTell", fn := fun _ => fun
  | [d1, d2, d3] => { results := [.lit (.bool false)], args := [d1, d2, d3] }
  | _ => none }
def BitsTellWrongFalsely : Prop := bitsTellRow.holds Try.pinned (OpenSpec.ofChange bitsTellWrong)

/-- 'wayfinderlaw01.BitsCommon': WHATEVER THE INPUT: true; the input reads as it did. -/
def bitsCommonSpec : ChangeSpec := { name := "bitsCommon", fn := fun _ => fun
  | [d1, d2, d3] => { results := [.lit (.bool true)], args := [d1, d2, d3] }
  | _ => none }
def bitsCommonRow : OpenClaim := { program := "ytbecakaajbkofaa", sum := "9bf4b55568cb6f4d263a093f050bf35037f587e7587dfb8eb7ddc89e456cc2ea", func := "wayfinder/wayfinderlaw01.BitsCommon", spec := "bitsCommon", unfollowed := true, recurses := true, apart := false }
def BitsCommonSaid : Prop := bitsCommonRow.holds Try.pinned (OpenSpec.ofChange bitsCommonSpec)

/-- ITS FALSE NEIGHBOUR: 'it returns false'. Refute it at one input. -/
def bitsCommonWrong : ChangeSpec := { name := "bitsCommon", fn := fun _ => fun
  | [d1, d2, d3] => { results := [.lit (.bool false)], args := [d1, d2, d3] }
  | _ => none }
def BitsCommonWrongFalsely : Prop := bitsCommonRow.holds Try.pinned (OpenSpec.ofChange bitsCommonWrong)

/-- 'wayfinderlaw01.BitsMask': WHATEVER THE INPUT: true; the input reads as it did. -/
def bitsMaskSpec : ChangeSpec := { name := "bitsMask", fn := fun _ => fun
  | [d1, d2, d3] => { results := [.lit (.bool true)], args := [d1, d2, d3] }
  | _ => none }
def bitsMaskRow : OpenClaim := { program := "ytbecakaajbkofaa", sum := "9bf4b55568cb6f4d263a093f050bf35037f587e7587dfb8eb7ddc89e456cc2ea", func := "wayfinder/wayfinderlaw01.BitsMask", spec := "bitsMask", unfollowed := true, recurses := true, apart := false }
def BitsMaskSaid : Prop := bitsMaskRow.holds Try.pinned (OpenSpec.ofChange bitsMaskSpec)

/-- ITS FALSE NEIGHBOUR: 'it returns false'. Refute it at one input. -/
def bitsMaskWrong : ChangeSpec := { name := "bitsMask", fn := fun _ => fun
  | [d1, d2, d3] => { results := [.lit (.bool false)], args := [d1, d2, d3] }
  | _ => none }
def BitsMaskWrongFalsely : Prop := bitsMaskRow.holds Try.pinned (OpenSpec.ofChange bitsMaskWrong)

/- THE SECOND FORM. 'bulk': how many values and letters a reading holds, each counted each time it is reached (what is shared counts as often as it is met; a slice's spare places count too). A statement '..UptoSaid' is the law's where the arguments, and the package variables that the reading takes, are together of bulk at most 1048576: NARROWER than '..Said'. Prove '..Said' where nothing that the law and all that it calls make is longer than what came in: it says more and counts as full. Else prove '..UptoSaid'. A law counts once. -/
mutual
def uptoBulk {H : Type} : DataW H → Nat
  | .lit (.string bytes) => bytes.length + 1
  | .lit _ => 1
  | .nil => 1
  | .ptr d => uptoBulk d + 1
  | .slice elems spare => uptoBulkAll elems + uptoBulkAll spare + 1
  | .agg parts => uptoBulkAll parts + 1
  | .iface _ d => uptoBulk d + 1
  | .map entries => uptoBulkEntries entries + 1
  | .held _ => 1
def uptoBulkAll {H : Type} : List (DataW H) → Nat
  | [] => 0
  | d :: r => uptoBulk d + uptoBulkAll r
def uptoBulkEntries {H : Type} : List (Lit × DataW H) → Nat
  | [] => 0
  | x :: r => uptoBulkEntry x + uptoBulkEntries r
def uptoBulkEntry {H : Type} : Lit × DataW H → Nat
  | (.string bytes, d) => bytes.length + uptoBulk d + 1
  | (_, d) => uptoBulk d + 1
 end
def uptoSmall : (H : Type) → List (DataW H) → Bool := fun _ ds => decide (uptoBulkAll ds ≤ 1048576)
def OpenSpec.upto (s : _root_.Go.ChangeSpec) : _root_.Go.OpenSpec := { _root_.Go.OpenSpec.ofChange s with cond := some uptoSmall }

/-- 'wayfinderlaw01.BitsNine', WHERE WHAT IT READS IS OF BULK AT MOST 1048576: true; the input reads as it did. -/
def bitsNineUptoRow : OpenClaim := { program := "ytbecakaajbkofaa", sum := "9bf4b55568cb6f4d263a093f050bf35037f587e7587dfb8eb7ddc89e456cc2ea", func := "wayfinder/wayfinderlaw01.BitsNine", spec := "bitsNine", apart := false, narrowed := true }
def BitsNineUptoSaid : Prop := bitsNineUptoRow.holds Try.pinned (OpenSpec.upto bitsNineSpec)

/-- 'wayfinderlaw01.BitsMay', WHERE WHAT IT READS IS OF BULK AT MOST 1048576: true; the input reads as it did. -/
def bitsMayUptoRow : OpenClaim := { program := "ytbecakaajbkofaa", sum := "9bf4b55568cb6f4d263a093f050bf35037f587e7587dfb8eb7ddc89e456cc2ea", func := "wayfinder/wayfinderlaw01.BitsMay", spec := "bitsMay", apart := false, narrowed := true }
def BitsMayUptoSaid : Prop := bitsMayUptoRow.holds Try.pinned (OpenSpec.upto bitsMaySpec)

/-- 'wayfinderlaw01.BitsTwo', WHERE WHAT IT READS IS OF BULK AT MOST 1048576: true; the input reads as it did. -/
def bitsTwoUptoRow : OpenClaim := { program := "ytbecakaajbkofaa", sum := "9bf4b55568cb6f4d263a093f050bf35037f587e7587dfb8eb7ddc89e456cc2ea", func := "wayfinder/wayfinderlaw01.BitsTwo", spec := "bitsTwo", apart := false, narrowed := true }
def BitsTwoUptoSaid : Prop := bitsTwoUptoRow.holds Try.pinned (OpenSpec.upto bitsTwoSpec)

/-- 'wayfinderlaw01.BitsCut', WHERE WHAT IT READS IS OF BULK AT MOST 1048576: true; the input reads as it did. -/
def bitsCutUptoRow : OpenClaim := { program := "ytbecakaajbkofaa", sum := "9bf4b55568cb6f4d263a093f050bf35037f587e7587dfb8eb7ddc89e456cc2ea", func := "wayfinder/wayfinderlaw01.BitsCut", spec := "bitsCut", apart := false, narrowed := true }
def BitsCutUptoSaid : Prop := bitsCutUptoRow.holds Try.pinned (OpenSpec.upto bitsCutSpec)

/-- 'wayfinderlaw01.BitsChain', WHERE WHAT IT READS IS OF BULK AT MOST 1048576: true; the input reads as it did. -/
def bitsChainUptoRow : OpenClaim := { program := "ytbecakaajbkofaa", sum := "9bf4b55568cb6f4d263a093f050bf35037f587e7587dfb8eb7ddc89e456cc2ea", func := "wayfinder/wayfinderlaw01.BitsChain", spec := "bitsChain", apart := false, narrowed := true }
def BitsChainUptoSaid : Prop := bitsChainUptoRow.holds Try.pinned (OpenSpec.upto bitsChainSpec)

/-- 'wayfinderlaw01.BitsTell', WHERE WHAT IT READS IS OF BULK AT MOST 1048576: true; the input reads as it did. -/
def bitsTellUptoRow : OpenClaim := { program := "ytbecakaajbkofaa", sum := "9bf4b55568cb6f4d263a093f050bf35037f587e7587dfb8eb7ddc89e456cc2ea", func := "wayfinder/wayfinderlaw01.BitsTell", spec := "bitsTell", unfollowed := true, recurses := true, apart := false, narrowed := true }
def BitsTellUptoSaid : Prop := bitsTellUptoRow.holds Try.pinned (OpenSpec.upto bitsTellSpec)

/-- 'wayfinderlaw01.BitsCommon', WHERE WHAT IT READS IS OF BULK AT MOST 1048576: true; the input reads as it did. -/
def bitsCommonUptoRow : OpenClaim := { program := "ytbecakaajbkofaa", sum := "9bf4b55568cb6f4d263a093f050bf35037f587e7587dfb8eb7ddc89e456cc2ea", func := "wayfinder/wayfinderlaw01.BitsCommon", spec := "bitsCommon", unfollowed := true, recurses := true, apart := false, narrowed := true }
def BitsCommonUptoSaid : Prop := bitsCommonUptoRow.holds Try.pinned (OpenSpec.upto bitsCommonSpec)

/-- 'wayfinderlaw01.BitsMask', WHERE WHAT IT READS IS OF BULK AT MOST 1048576: true; the input reads as it did. -/
def bitsMaskUptoRow : OpenClaim := { program := "ytbecakaajbkofaa", sum := "9bf4b55568cb6f4d263a093f050bf35037f587e7587dfb8eb7ddc89e456cc2ea", func := "wayfinder/wayfinderlaw01.BitsMask", spec := "bitsMask", unfollowed := true, recurses := true, apart := false, narrowed := true }
def BitsMaskUptoSaid : Prop := bitsMaskUptoRow.holds Try.pinned (OpenSpec.upto bitsMaskSpec)

end Rows
end Go.Proofs.Ytbecakaajbkofaa
