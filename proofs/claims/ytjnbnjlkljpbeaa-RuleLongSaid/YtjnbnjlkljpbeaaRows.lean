/-
  No cell of these rows narrows 'for every input' (looked for: loops, veiled, ifaces, maps, wideKeys, modest, calm, conditions, laid).
  DERIVED. THE GIVEN ROWS OF THIS SEAT. 8 by the template 'for every input the law returns true; each argument reads behind the call as it read before'; 0 by the template 'total and deterministic' (their statements: YtjnbnjlkljpbeaaTotals.lean).
  GIVEN WITH THE SEED: the statements are not yours to turn. If you find one false, say at which input.
  Laid BY PROGRAM, IN A SANDBOX (cutbox-rows.mjs): the forced cells as the released guide's own fill.sh prints them over the translation 1caa9055b2490f96… (all of the seat's roots in one cut). By AI agents, Wed Nov 11 2026. No macro, syntax, notation, axiom, sorry.
-/
import Derived.Test.YtjnbnjlkljpbeaaChecked
import GoSem.Claim
import GoSem.ClaimJoined
import GoSem.ClaimMapViews
import Derived.JoinedTies
import Derived.KernelRfl
namespace Go.Proofs.Ytjnbnjlkljpbeaa
/- THE CELL 'sum', in the pinned program and in every row, IS THE sha256 OF THE DUMP (.gsa) THAT YtjnbnjlkljpbeaaProg.lean LOADS. Nothing in Lean hashes anything: it is a label: what it is worth is what the hold of that sum in a sandbox is worth. -/
noncomputable def Try.pinned : Pinned := { name := "ytjnbnjlkljpbeaa", sum := "1caa9055b2490f967c65b913a255da1da14a16b35bd2c50aa058d291ad6f75df", checked := Try.checked }
namespace Rows
def none {H : Type} : Left H := { results := [], args := [] }

/-- 'wayfinderlaw04.RuleFits': WHATEVER THE INPUT: true; the input reads as it did. -/
def ruleFitsSpec : ChangeSpec := { name := "ruleFits", fn := fun _ => fun
  | [d1, d2, d3, d4] => { results := [.lit (.bool true)], args := [d1, d2, d3, d4] }
  | _ => none }
def ruleFitsRow : OpenClaim := { program := "ytjnbnjlkljpbeaa", sum := "1caa9055b2490f967c65b913a255da1da14a16b35bd2c50aa058d291ad6f75df", func := "wayfinder/wayfinderlaw04.RuleFits", spec := "ruleFits", apart := false }
def RuleFitsSaid : Prop := ruleFitsRow.holds Try.pinned (OpenSpec.ofChange ruleFitsSpec)

/-- ITS FALSE NEIGHBOUR: 'it returns false'. Refute it at one input. -/
def ruleFitsWrong : ChangeSpec := { name := "ruleFits", fn := fun _ => fun
  | [d1, d2, d3, d4] => { results := [.lit (.bool false)], args := [d1, d2, d3, d4] }
  | _ => none }
def RuleFitsWrongFalsely : Prop := ruleFitsRow.holds Try.pinned (OpenSpec.ofChange ruleFitsWrong)

/-- 'wayfinderlaw04.RuleLong': WHATEVER THE INPUT: true; the input reads as it did. -/
def ruleLongSpec : ChangeSpec := { name := "ruleLong", fn := fun _ => fun
  | [d1, d2] => { results := [.lit (.bool true)], args := [d1, d2] }
  | _ => none }
def ruleLongRow : OpenClaim := { program := "ytjnbnjlkljpbeaa", sum := "1caa9055b2490f967c65b913a255da1da14a16b35bd2c50aa058d291ad6f75df", func := "wayfinder/wayfinderlaw04.RuleLong", spec := "ruleLong", apart := false }
def RuleLongSaid : Prop := ruleLongRow.holds Try.pinned (OpenSpec.ofChange ruleLongSpec)

/-- ITS FALSE NEIGHBOUR: 'it returns false'. Refute it at one input. -/
def ruleLongWrong : ChangeSpec := { name := "ruleLong", fn := fun _ => fun
  | [d1, d2] => { results := [.lit (.bool false)], args := [d1, d2] }
  | _ => none }
def RuleLongWrongFalsely : Prop := ruleLongRow.holds Try.pinned (OpenSpec.ofChange ruleLongWrong)

/-- 'wayfinderlaw04.RuleTells': WHATEVER THE INPUT: true; the input reads as it did. -/
def ruleTellsSpec : ChangeSpec := { name := "ruleTells", fn := fun _ => fun
  | [d1, d2, d3, d4] => { results := [.lit (.bool true)], args := [d1, d2, d3, d4] }
  | _ => none }
def ruleTellsRow : OpenClaim := { program := "ytjnbnjlkljpbeaa", sum := "1caa9055b2490f967c65b913a255da1da14a16b35bd2c50aa058d291ad6f75df", func := "wayfinder/wayfinderlaw04.RuleTells", spec := "ruleTells", apart := false }
def RuleTellsSaid : Prop := ruleTellsRow.holds Try.pinned (OpenSpec.ofChange ruleTellsSpec)

/-- ITS FALSE NEIGHBOUR: 'it returns false'. Refute it at one input. -/
def ruleTellsWrong : ChangeSpec := { name := "ruleTells", fn := fun _ => fun
  | [d1, d2, d3, d4] => { results := [.lit (.bool false)], args := [d1, d2, d3, d4] }
  | _ => none }
def RuleTellsWrongFalsely : Prop := ruleTellsRow.holds Try.pinned (OpenSpec.ofChange ruleTellsWrong)

/-- 'wayfinderlaw04.RuleOne': WHATEVER THE INPUT: true; the input reads as it did. -/
def ruleOneSpec : ChangeSpec := { name := "ruleOne", fn := fun _ => fun
  | [d1, d2, d3, d4, d5] => { results := [.lit (.bool true)], args := [d1, d2, d3, d4, d5] }
  | _ => none }
def ruleOneRow : OpenClaim := { program := "ytjnbnjlkljpbeaa", sum := "1caa9055b2490f967c65b913a255da1da14a16b35bd2c50aa058d291ad6f75df", func := "wayfinder/wayfinderlaw04.RuleOne", spec := "ruleOne", apart := false }
def RuleOneSaid : Prop := ruleOneRow.holds Try.pinned (OpenSpec.ofChange ruleOneSpec)

/-- ITS FALSE NEIGHBOUR: 'it returns false'. Refute it at one input. -/
def ruleOneWrong : ChangeSpec := { name := "ruleOne", fn := fun _ => fun
  | [d1, d2, d3, d4, d5] => { results := [.lit (.bool false)], args := [d1, d2, d3, d4, d5] }
  | _ => none }
def RuleOneWrongFalsely : Prop := ruleOneRow.holds Try.pinned (OpenSpec.ofChange ruleOneWrong)

/-- 'wayfinderlaw04.RuleAct': WHATEVER THE INPUT: true; the input reads as it did. -/
def ruleActSpec : ChangeSpec := { name := "ruleAct", fn := fun _ => fun
  | [d1, d2, d3, d4, d5] => { results := [.lit (.bool true)], args := [d1, d2, d3, d4, d5] }
  | _ => none }
def ruleActRow : OpenClaim := { program := "ytjnbnjlkljpbeaa", sum := "1caa9055b2490f967c65b913a255da1da14a16b35bd2c50aa058d291ad6f75df", func := "wayfinder/wayfinderlaw04.RuleAct", spec := "ruleAct", apart := false }
def RuleActSaid : Prop := ruleActRow.holds Try.pinned (OpenSpec.ofChange ruleActSpec)

/-- ITS FALSE NEIGHBOUR: 'it returns false'. Refute it at one input. -/
def ruleActWrong : ChangeSpec := { name := "ruleAct", fn := fun _ => fun
  | [d1, d2, d3, d4, d5] => { results := [.lit (.bool false)], args := [d1, d2, d3, d4, d5] }
  | _ => none }
def RuleActWrongFalsely : Prop := ruleActRow.holds Try.pinned (OpenSpec.ofChange ruleActWrong)

/-- 'wayfinderlaw04.RuleGets': WHATEVER THE INPUT: true; the input reads as it did. -/
def ruleGetsSpec : ChangeSpec := { name := "ruleGets", fn := fun _ => fun
  | [d] => { results := [.lit (.bool true)], args := [d] }
  | _ => none }
def ruleGetsRow : OpenClaim := { program := "ytjnbnjlkljpbeaa", sum := "1caa9055b2490f967c65b913a255da1da14a16b35bd2c50aa058d291ad6f75df", func := "wayfinder/wayfinderlaw04.RuleGets", spec := "ruleGets", apart := false }
def RuleGetsSaid : Prop := ruleGetsRow.holds Try.pinned (OpenSpec.ofChange ruleGetsSpec)

/-- ITS FALSE NEIGHBOUR: 'it returns false'. Refute it at one input. -/
def ruleGetsWrong : ChangeSpec := { name := "ruleGets", fn := fun _ => fun
  | [d] => { results := [.lit (.bool false)], args := [d] }
  | _ => none }
def RuleGetsWrongFalsely : Prop := ruleGetsRow.holds Try.pinned (OpenSpec.ofChange ruleGetsWrong)

/-- 'wayfinderlaw04.RuleBack': WHATEVER THE INPUT: true; the input reads as it did. -/
def ruleBackSpec : ChangeSpec := { name := "ruleBack", fn := fun _ => fun
  | [d1, d2] => { results := [.lit (.bool true)], args := [d1, d2] }
  | _ => none }
def ruleBackRow : OpenClaim := { program := "ytjnbnjlkljpbeaa", sum := "1caa9055b2490f967c65b913a255da1da14a16b35bd2c50aa058d291ad6f75df", func := "wayfinder/wayfinderlaw04.RuleBack", spec := "ruleBack", apart := false }
def RuleBackSaid : Prop := ruleBackRow.holds Try.pinned (OpenSpec.ofChange ruleBackSpec)

/-- ITS FALSE NEIGHBOUR: 'it returns false'. Refute it at one input. -/
def ruleBackWrong : ChangeSpec := { name := "ruleBack", fn := fun _ => fun
  | [d1, d2] => { results := [.lit (.bool false)], args := [d1, d2] }
  | _ => none }
def RuleBackWrongFalsely : Prop := ruleBackRow.holds Try.pinned (OpenSpec.ofChange ruleBackWrong)

/-- 'wayfinderlaw04.RuleShort': WHATEVER THE INPUT: true; the input reads as it did. -/
def ruleShortSpec : ChangeSpec := { name := "ruleShort", fn := fun _ => fun
  | [d1, d2] => { results := [.lit (.bool true)], args := [d1, d2] }
  | _ => none }
def ruleShortRow : OpenClaim := { program := "ytjnbnjlkljpbeaa", sum := "1caa9055b2490f967c65b913a255da1da14a16b35bd2c50aa058d291ad6f75df", func := "wayfinder/wayfinderlaw04.RuleShort", spec := "ruleShort", apart := false }
def RuleShortSaid : Prop := ruleShortRow.holds Try.pinned (OpenSpec.ofChange ruleShortSpec)

/-- ITS FALSE NEIGHBOUR: 'it returns false'. Refute it at one input. -/
def ruleShortWrong : ChangeSpec := { name := "ruleShort", fn := fun _ => fun
  | [d1, d2] => { results := [.lit (.bool false)], args := [d1, d2] }
  | _ => none }
def RuleShortWrongFalsely : Prop := ruleShortRow.holds Try.pinned (OpenSpec.ofChange ruleShortWrong)

/- THE SECOND FORM. 'bulk': how many values and letters a reading holds, each counted each time it is reached (what is shared counts as often as it is met; a slice's spare places count too). A statement '..UptoSaid' is the law's where the arguments, and the package variables that the reading takes, are together of bulk at most 1048576: NARROWER than '..Said'. Prove '..Said' where nothing that the law and all that it calls make is longer than what came in: it says more and counts as full. Else prove '..UptoSaid'. A law counts once. -/
mutual
def uptoBulk {H : Type} : DataW H → Nat
  | .lit (.string bytes) => bytes.length + 1
  | .lit _ => 1
  | .nil => 1
  | .ptr d => uptoBulk d + 1
  | .slice elems spare => uptoBulkAll elems + uptoBulkAll spare + 1
  | .agg parts => uptoBulkAll parts + 1
  | .iface _ d => uptoBulk d + 1
  | .map entries => uptoBulkEntries entries + 1
  | .held _ => 1
def uptoBulkAll {H : Type} : List (DataW H) → Nat
  | [] => 0
  | d :: r => uptoBulk d + uptoBulkAll r
def uptoBulkEntries {H : Type} : List (Lit × DataW H) → Nat
  | [] => 0
  | x :: r => uptoBulkEntry x + uptoBulkEntries r
def uptoBulkEntry {H : Type} : Lit × DataW H → Nat
  | (.string bytes, d) => bytes.length + uptoBulk d + 1
  | (_, d) => uptoBulk d + 1
 end
def uptoSmall : (H : Type) → List (DataW H) → Bool := fun _ ds => decide (uptoBulkAll ds ≤ 1048576)
def OpenSpec.upto (s : _root_.Go.ChangeSpec) : _root_.Go.OpenSpec := { _root_.Go.OpenSpec.ofChange s with cond := some uptoSmall }

/-- 'wayfinderlaw04.RuleFits', WHERE WHAT IT READS IS OF BULK AT MOST 1048576: true; the input reads as it did. -/
def ruleFitsUptoRow : OpenClaim := { program := "ytjnbnjlkljpbeaa", sum := "1caa9055b2490f967c65b913a255da1da14a16b35bd2c50aa058d291ad6f75df", func := "wayfinder/wayfinderlaw04.RuleFits", spec := "ruleFits", apart := false, narrowed := true }
def RuleFitsUptoSaid : Prop := ruleFitsUptoRow.holds Try.pinned (OpenSpec.upto ruleFitsSpec)

/-- 'wayfinderlaw04.RuleLong', WHERE WHAT IT READS IS OF BULK AT MOST 1048576: true; the input reads as it did. -/
def ruleLongUptoRow : OpenClaim := { program := "ytjnbnjlkljpbeaa", sum := "1caa9055b2490f967c65b913a255da1da14a16b35bd2c50aa058d291ad6f75df", func := "wayfinder/wayfinderlaw04.RuleLong", spec := "ruleLong", apart := false, narrowed := true }
def RuleLongUptoSaid : Prop := ruleLongUptoRow.holds Try.pinned (OpenSpec.upto ruleLongSpec)

/-- 'wayfinderlaw04.RuleTells', WHERE WHAT IT READS IS OF BULK AT MOST 1048576: true; the input reads as it did. -/
def ruleTellsUptoRow : OpenClaim := { program := "ytjnbnjlkljpbeaa", sum := "1caa9055b2490f967c65b913a255da1da14a16b35bd2c50aa058d291ad6f75df", func := "wayfinder/wayfinderlaw04.RuleTells", spec := "ruleTells", apart := false, narrowed := true }
def RuleTellsUptoSaid : Prop := ruleTellsUptoRow.holds Try.pinned (OpenSpec.upto ruleTellsSpec)

/-- 'wayfinderlaw04.RuleOne', WHERE WHAT IT READS IS OF BULK AT MOST 1048576: true; the input reads as it did. -/
def ruleOneUptoRow : OpenClaim := { program := "ytjnbnjlkljpbeaa", sum := "1caa9055b2490f967c65b913a255da1da14a16b35bd2c50aa058d291ad6f75df", func := "wayfinder/wayfinderlaw04.RuleOne", spec := "ruleOne", apart := false, narrowed := true }
def RuleOneUptoSaid : Prop := ruleOneUptoRow.holds Try.pinned (OpenSpec.upto ruleOneSpec)

/-- 'wayfinderlaw04.RuleAct', WHERE WHAT IT READS IS OF BULK AT MOST 1048576: true; the input reads as it did. -/
def ruleActUptoRow : OpenClaim := { program := "ytjnbnjlkljpbeaa", sum := "1caa9055b2490f967c65b913a255da1da14a16b35bd2c50aa058d291ad6f75df", func := "wayfinder/wayfinderlaw04.RuleAct", spec := "ruleAct", apart := false, narrowed := true }
def RuleActUptoSaid : Prop := ruleActUptoRow.holds Try.pinned (OpenSpec.upto ruleActSpec)

/-- 'wayfinderlaw04.RuleGets', WHERE WHAT IT READS IS OF BULK AT MOST 1048576: true; the input reads as it did. -/
def ruleGetsUptoRow : OpenClaim := { program := "ytjnbnjlkljpbeaa", sum := "1caa9055b2490f967c65b913a255da1da14a16b35bd2c50aa058d291ad6f75df", func := "wayfinder/wayfinderlaw04.RuleGets", spec := "ruleGets", apart := false, narrowed := true }
def RuleGetsUptoSaid : Prop := ruleGetsUptoRow.holds Try.pinned (OpenSpec.upto ruleGetsSpec)

/-- 'wayfinderlaw04.RuleBack', WHERE WHAT IT READS IS OF BULK AT MOST 1048576: true; the input reads as it did. -/
def ruleBackUptoRow : OpenClaim := { program := "ytjnbnjlkljpbeaa", sum := "1caa9055b2490f967c65b913a255da1da14a16b35bd2c50aa058d291ad6f75df", func := "wayfinder/wayfinderlaw04.RuleBack", spec := "ruleBack", apart := false, narrowed := true }
def RuleBackUptoSaid : Prop := ruleBackUptoRow.holds Try.pinned (OpenSpec.upto ruleBackSpec)

/-- 'wayfinderlaw04.RuleShort', WHERE WHAT IT READS IS OF BULK AT MOST 1048576: true; the input reads as it did. -/
def ruleShortUptoRow : OpenClaim := { program := "ytjnbnjlkljpbeaa", sum := "1caa9055b2490f967c65b913a255da1da14a16b35bd2c50aa058d291ad6f75df", func := "wayfinder/wayfinderlaw04.RuleShort", spec := "ruleShort", apart := false, narrowed := true }
def RuleShortUptoSaid : Prop := ruleShortUptoRow.holds Try.pinned (OpenSpec.upto ruleShortSpec)

end Rows
end Go.Proofs.Ytjnbnjlkljpbeaa
