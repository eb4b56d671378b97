/- A rule's bytes, cut short, hold no rule. -/
import Derived.Test.YtjnbnjlkljpbeaaAllx18
import Derived.Test.YtjnbnjlkljpbeaaMathJ
set_option linter.unusedVariables false
set_option linter.unusedSimpArgs false
namespace Go.Proofs.Ytjnbnjlkljpbeaa.Pure
open Go.RowKit Go.Proofs.Ytjnbnjlkljpbeaa.All Go.Proofs.YtjnbnjlkljpbeaaW.PrintWords Go.Proofs.YtjnbnjlkljpbeaaW.PrintLast
open Go.Proofs.Ytjnbnjlkljpbeaa.All.BM Go.Proofs.Ytjnbnjlkljpbeaa.All.OB
theorem RuleShort : wayfinderlaw04_RuleShort.Pure := by
  intro p l i q k o n _ _ _ _ _ _ _
  refine ⟨5001, ?_⟩
  unfold wayfinderlaw04_RuleShort.f
  rw [f_awake4 _ (by omega), f_RPut _ (by omega)]
  simp only [Option.bind_some, if_true]
  unfold rPutR
  by_cases hr : isRule p l i q k o
  · rw [if_pos hr]
    have hn := ruleBytes_length p l i q k o
    have hbb := ruleBytes_bytes hr
    simp only [if_true, hn]
    by_cases h1 : n < 0
    · rw [if_pos h1]
    rw [if_neg h1]
    by_cases h2 : n ≥ ((9 : Nat) : Int)
    · rw [if_pos h2]
    rw [if_neg h2, if_pos (by omega), if_pos (by omega), f_RGet _ (by omega) _ (hbb.take _)]
    have hs : (List.take n.toNat (ruleBytes p l i q k o)).length < 9 := by rw [List.length_take]; omega
    unfold rGetR
    rw [if_pos hs]
    rfl
  · rw [if_neg hr]
    simp
end Go.Proofs.Ytjnbnjlkljpbeaa.Pure
