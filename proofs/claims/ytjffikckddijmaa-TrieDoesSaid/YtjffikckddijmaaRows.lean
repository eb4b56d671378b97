/-
  No cell of these rows narrows 'for every input' (looked for: loops, veiled, ifaces, maps, wideKeys, modest, calm, conditions, laid).
  DERIVED. THE GIVEN ROWS OF THIS SEAT. 7 by the template 'for every input the law returns true; each argument reads behind the call as it read before'; 0 by the template 'total and deterministic' (their statements: YtjffikckddijmaaTotals.lean).
  GIVEN WITH THE SEED: the statements are not yours to turn. If you find one false, say at which input.
  Laid BY PROGRAM, IN A SANDBOX (cutbox-rows.mjs): the forced cells as the released guide's own fill.sh prints them over the translation b8fed4f07a26462c… (all of the seat's roots in one cut). By AI agents, Wed Nov 11 2026. No macro, syntax, notation, axiom, sorry.
-/
import Derived.Test.YtjffikckddijmaaChecked
import GoSem.Claim
import GoSem.ClaimJoined
import GoSem.ClaimMapViews
import Derived.JoinedTies
import Derived.KernelRfl
namespace Go.Proofs.Ytjffikckddijmaa
/- THE CELL 'sum', in the pinned program and in every row, IS THE sha256 OF THE DUMP (.gsa) THAT YtjffikckddijmaaProg.lean LOADS. Nothing in Lean hashes anything: it is a label: what it is worth is what the hold of that sum in a sandbox is worth. -/
noncomputable def Try.pinned : Pinned := { name := "ytjffikckddijmaa", sum := "b8fed4f07a26462c6fc966e510da12a722f856d013655bb80b2ffe4763b79da8", checked := Try.checked }
namespace Rows
def none {H : Type} : Left H := { results := [], args := [] }

/-- 'wayfinderlaw07.TrieSmall': WHATEVER THE INPUT: true; the input reads as it did. -/
def trieSmallSpec : ChangeSpec := { name := "trieSmall", fn := fun _ => fun
  | [d1, d2] => { results := [.lit (.bool true)], args := [d1, d2] }
  | _ => none }
def trieSmallRow : OpenClaim := { program := "ytjffikckddijmaa", sum := "b8fed4f07a26462c6fc966e510da12a722f856d013655bb80b2ffe4763b79da8", func := "wayfinder/wayfinderlaw07.TrieSmall", spec := "trieSmall", unfollowed := true, recurses := true, apart := false }
def TrieSmallSaid : Prop := trieSmallRow.holds Try.pinned (OpenSpec.ofChange trieSmallSpec)

/-- ITS FALSE NEIGHBOUR: 'it returns false'. Refute it at one input. -/
def trieSmallWrong : ChangeSpec := { name := "trieSmall", fn := fun _ => fun
  | [d1, d2] => { results := [.lit (.bool false)], args := [d1, d2] }
  | _ => none }
def TrieSmallWrongFalsely : Prop := trieSmallRow.holds Try.pinned (OpenSpec.ofChange trieSmallWrong)

/-- 'wayfinderlaw07.TrieBack': WHATEVER THE INPUT: true; the input reads as it did. -/
def trieBackSpec : ChangeSpec := { name := "trieBack", fn := fun _ => fun
  | [d1, d2] => { results := [.lit (.bool true)], args := [d1, d2] }
  | _ => none }
def trieBackRow : OpenClaim := { program := "ytjffikckddijmaa", sum := "b8fed4f07a26462c6fc966e510da12a722f856d013655bb80b2ffe4763b79da8", func := "wayfinder/wayfinderlaw07.TrieBack", spec := "trieBack", unfollowed := true, recurses := true, apart := false }
def TrieBackSaid : Prop := trieBackRow.holds Try.pinned (OpenSpec.ofChange trieBackSpec)

/-- ITS FALSE NEIGHBOUR: 'it returns false'. Refute it at one input. -/
def trieBackWrong : ChangeSpec := { name := "trieBack", fn := fun _ => fun
  | [d1, d2] => { results := [.lit (.bool false)], args := [d1, d2] }
  | _ => none }
def TrieBackWrongFalsely : Prop := trieBackRow.holds Try.pinned (OpenSpec.ofChange trieBackWrong)

/-- 'wayfinderlaw07.TrieFinds': WHATEVER THE INPUT: true; the input reads as it did. -/
def trieFindsSpec : ChangeSpec := { name := "trieFinds", fn := fun _ => fun
  | [d1, d2] => { results := [.lit (.bool true)], args := [d1, d2] }
  | _ => none }
def trieFindsRow : OpenClaim := { program := "ytjffikckddijmaa", sum := "b8fed4f07a26462c6fc966e510da12a722f856d013655bb80b2ffe4763b79da8", func := "wayfinder/wayfinderlaw07.TrieFinds", spec := "trieFinds", unfollowed := true, recurses := true, apart := false }
def TrieFindsSaid : Prop := trieFindsRow.holds Try.pinned (OpenSpec.ofChange trieFindsSpec)

/-- ITS FALSE NEIGHBOUR: 'it returns false'. Refute it at one input. -/
def trieFindsWrong : ChangeSpec := { name := "trieFinds", fn := fun _ => fun
  | [d1, d2] => { results := [.lit (.bool false)], args := [d1, d2] }
  | _ => none }
def TrieFindsWrongFalsely : Prop := trieFindsRow.holds Try.pinned (OpenSpec.ofChange trieFindsWrong)

/-- 'wayfinderlaw07.TrieWalks': WHATEVER THE INPUT: true; the input reads as it did. -/
def trieWalksSpec : ChangeSpec := { name := "trieWalks", fn := fun _ => fun
  | [d] => { results := [.lit (.bool true)], args := [d] }
  | _ => none }
def trieWalksRow : OpenClaim := { program := "ytjffikckddijmaa", sum := "b8fed4f07a26462c6fc966e510da12a722f856d013655bb80b2ffe4763b79da8", func := "wayfinder/wayfinderlaw07.TrieWalks", spec := "trieWalks", unfollowed := true, recurses := true, apart := false }
def TrieWalksSaid : Prop := trieWalksRow.holds Try.pinned (OpenSpec.ofChange trieWalksSpec)

/-- ITS FALSE NEIGHBOUR: 'it returns false'. Refute it at one input. -/
def trieWalksWrong : ChangeSpec := { name := "trieWalks", fn := fun _ => fun
  | [d] => { results := [.lit (.bool false)], args := [d] }
  | _ => none }
def TrieWalksWrongFalsely : Prop := trieWalksRow.holds Try.pinned (OpenSpec.ofChange trieWalksWrong)

/-- 'wayfinderlaw07.TrieLast': WHATEVER THE INPUT: true; the input reads as it did. -/
def trieLastSpec : ChangeSpec := { name := "trieLast", fn := fun _ => fun
  | [d1, d2] => { results := [.lit (.bool true)], args := [d1, d2] }
  | _ => none }
def trieLastRow : OpenClaim := { program := "ytjffikckddijmaa", sum := "b8fed4f07a26462c6fc966e510da12a722f856d013655bb80b2ffe4763b79da8", func := "wayfinder/wayfinderlaw07.TrieLast", spec := "trieLast", unfollowed := true, recurses := true, apart := false }
def TrieLastSaid : Prop := trieLastRow.holds Try.pinned (OpenSpec.ofChange trieLastSpec)

/-- ITS FALSE NEIGHBOUR: 'it returns false'. Refute it at one input. -/
def trieLastWrong : ChangeSpec := { name := "trieLast", fn := fun _ => fun
  | [d1, d2] => { results := [.lit (.bool false)], args := [d1, d2] }
  | _ => none }
def TrieLastWrongFalsely : Prop := trieLastRow.holds Try.pinned (OpenSpec.ofChange trieLastWrong)

/-- 'wayfinderlaw07.TrieDoes': WHATEVER THE INPUT: true; the input reads as it did. -/
def trieDoesSpec : ChangeSpec := { name := "trieDoes", fn := fun _ => fun
  | [d1, d2] => { results := [.lit (.bool true)], args := [d1, d2] }
  | _ => none }
def trieDoesRow : OpenClaim := { program := "ytjffikckddijmaa", sum := "b8fed4f07a26462c6fc966e510da12a722f856d013655bb80b2ffe4763b79da8", func := "wayfinder/wayfinderlaw07.TrieDoes", spec := "trieDoes", unfollowed := true, recurses := true, apart := false }
def TrieDoesSaid : Prop := trieDoesRow.holds Try.pinned (OpenSpec.ofChange trieDoesSpec)

/-- ITS FALSE NEIGHBOUR: 'it returns false'. Refute it at one input. -/
def trieDoesWrong : ChangeSpec := { name := "trieDoes", fn := fun _ => fun
  | [d1, d2] => { results := [.lit (.bool false)], args := [d1, d2] }
  | _ => none }
def TrieDoesWrongFalsely : Prop := trieDoesRow.holds Try.pinned (OpenSpec.ofChange trieDoesWrong)

/-- 'wayfinderlaw07.TrieOrder': WHATEVER THE INPUT: true; the input reads as it did. -/
def trieOrderSpec : ChangeSpec := { name := "trieOrder", fn := fun _ => fun
  | [d1, d2] => { results := [.lit (.bool true)], args := [d1, d2] }
  | _ => none }
def trieOrderRow : OpenClaim := { program := "ytjffikckddijmaa", sum := "b8fed4f07a26462c6fc966e510da12a722f856d013655bb80b2ffe4763b79da8", func := "wayfinder/wayfinderlaw07.TrieOrder", spec := "trieOrder", unfollowed := true, recurses := true, apart := false }
def TrieOrderSaid : Prop := trieOrderRow.holds Try.pinned (OpenSpec.ofChange trieOrderSpec)

/-- ITS FALSE NEIGHBOUR: 'it returns false'. Refute it at one input. -/
def trieOrderWrong : ChangeSpec := { name := "trieOrder", fn := fun _ => fun
  | [d1, d2] => { results := [.lit (.bool false)], args := [d1, d2] }
  | _ => none }
def TrieOrderWrongFalsely : Prop := trieOrderRow.holds Try.pinned (OpenSpec.ofChange trieOrderWrong)

/- THE SECOND FORM. 'bulk': how many values and letters a reading holds, each counted each time it is reached (what is shared counts as often as it is met; a slice's spare places count too). A statement '..UptoSaid' is the law's where the arguments, and the package variables that the reading takes, are together of bulk at most 1048576: NARROWER than '..Said'. Prove '..Said' where nothing that the law and all that it calls make is longer than what came in: it says more and counts as full. Else prove '..UptoSaid'. A law counts once. -/
mutual
def uptoBulk {H : Type} : DataW H → Nat
  | .lit (.string bytes) => bytes.length + 1
  | .lit _ => 1
  | .nil => 1
  | .ptr d => uptoBulk d + 1
  | .slice elems spare => uptoBulkAll elems + uptoBulkAll spare + 1
  | .agg parts => uptoBulkAll parts + 1
  | .iface _ d => uptoBulk d + 1
  | .map entries => uptoBulkEntries entries + 1
  | .held _ => 1
def uptoBulkAll {H : Type} : List (DataW H) → Nat
  | [] => 0
  | d :: r => uptoBulk d + uptoBulkAll r
def uptoBulkEntries {H : Type} : List (Lit × DataW H) → Nat
  | [] => 0
  | x :: r => uptoBulkEntry x + uptoBulkEntries r
def uptoBulkEntry {H : Type} : Lit × DataW H → Nat
  | (.string bytes, d) => bytes.length + uptoBulk d + 1
  | (_, d) => uptoBulk d + 1
 end
def uptoSmall : (H : Type) → List (DataW H) → Bool := fun _ ds => decide (uptoBulkAll ds ≤ 1048576)
def OpenSpec.upto (s : _root_.Go.ChangeSpec) : _root_.Go.OpenSpec := { _root_.Go.OpenSpec.ofChange s with cond := some uptoSmall }

/-- 'wayfinderlaw07.TrieSmall', WHERE WHAT IT READS IS OF BULK AT MOST 1048576: true; the input reads as it did. -/
def trieSmallUptoRow : OpenClaim := { program := "ytjffikckddijmaa", sum := "b8fed4f07a26462c6fc966e510da12a722f856d013655bb80b2ffe4763b79da8", func := "wayfinder/wayfinderlaw07.TrieSmall", spec := "trieSmall", unfollowed := true, recurses := true, apart := false, narrowed := true }
def TrieSmallUptoSaid : Prop := trieSmallUptoRow.holds Try.pinned (OpenSpec.upto trieSmallSpec)

/-- 'wayfinderlaw07.TrieBack', WHERE WHAT IT READS IS OF BULK AT MOST 1048576: true; the input reads as it did. -/
def trieBackUptoRow : OpenClaim := { program := "ytjffikckddijmaa", sum := "b8fed4f07a26462c6fc966e510da12a722f856d013655bb80b2ffe4763b79da8", func := "wayfinder/wayfinderlaw07.TrieBack", spec := "trieBack", unfollowed := true, recurses := true, apart := false, narrowed := true }
def TrieBackUptoSaid : Prop := trieBackUptoRow.holds Try.pinned (OpenSpec.upto trieBackSpec)

/-- 'wayfinderlaw07.TrieFinds', WHERE WHAT IT READS IS OF BULK AT MOST 1048576: true; the input reads as it did. -/
def trieFindsUptoRow : OpenClaim := { program := "ytjffikckddijmaa", sum := "b8fed4f07a26462c6fc966e510da12a722f856d013655bb80b2ffe4763b79da8", func := "wayfinder/wayfinderlaw07.TrieFinds", spec := "trieFinds", unfollowed := true, recurses := true, apart := false, narrowed := true }
def TrieFindsUptoSaid : Prop := trieFindsUptoRow.holds Try.pinned (OpenSpec.upto trieFindsSpec)

/-- 'wayfinderlaw07.TrieWalks', WHERE WHAT IT READS IS OF BULK AT MOST 1048576: true; the input reads as it did. -/
def trieWalksUptoRow : OpenClaim := { program := "ytjffikckddijmaa", sum := "b8fed4f07a26462c6fc966e510da12a722f856d013655bb80b2ffe4763b79da8", func := "wayfinder/wayfinderlaw07.TrieWalks", spec := "trieWalks", unfollowed := true, recurses := true, apart := false, narrowed := true }
def TrieWalksUptoSaid : Prop := trieWalksUptoRow.holds Try.pinned (OpenSpec.upto trieWalksSpec)

/-- 'wayfinderlaw07.TrieLast', WHERE WHAT IT READS IS OF BULK AT MOST 1048576: true; the input reads as it did. -/
def trieLastUptoRow : OpenClaim := { program := "ytjffikckddijmaa", sum := "b8fed4f07a26462c6fc966e510da12a722f856d013655bb80b2ffe4763b79da8", func := "wayfinder/wayfinderlaw07.TrieLast", spec := "trieLast", unfollowed := true, recurses := true, apart := false, narrowed := true }
def TrieLastUptoSaid : Prop := trieLastUptoRow.holds Try.pinned (OpenSpec.upto trieLastSpec)

/-- 'wayfinderlaw07.TrieDoes', WHERE WHAT IT READS IS OF BULK AT MOST 1048576: true; the input reads as it did. -/
def trieDoesUptoRow : OpenClaim := { program := "ytjffikckddijmaa", sum := "b8fed4f07a26462c6fc966e510da12a722f856d013655bb80b2ffe4763b79da8", func := "wayfinder/wayfinderlaw07.TrieDoes", spec := "trieDoes", unfollowed := true, recurses := true, apart := false, narrowed := true }
def TrieDoesUptoSaid : Prop := trieDoesUptoRow.holds Try.pinned (OpenSpec.upto trieDoesSpec)

/-- 'wayfinderlaw07.TrieOrder', WHERE WHAT IT READS IS OF BULK AT MOST 1048576: true; the input reads as it did. -/
def trieOrderUptoRow : OpenClaim := { program := "ytjffikckddijmaa", sum := "b8fed4f07a26462c6fc966e510da12a722f856d013655bb80b2ffe4763b79da8", func := "wayfinder/wayfinderlaw07.TrieOrder", spec := "trieOrder", unfollowed := true, recurses := true, apart := false, narrowed := true }
def TrieOrderUptoSaid : Prop := trieOrderUptoRow.holds Try.pinned (OpenSpec.upto trieOrderSpec)

end Rows
end Go.Proofs.Ytjffikckddijmaa
