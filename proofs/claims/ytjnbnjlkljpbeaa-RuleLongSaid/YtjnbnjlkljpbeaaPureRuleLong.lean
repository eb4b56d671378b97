/- A rule of a longer prefix is ahead of one of a shorter one, whatever else; of the same length the greater priority is. -/
import Derived.Test.YtjnbnjlkljpbeaaAllx19
import Derived.Test.YtjnbnjlkljpbeaaMathG
set_option linter.unusedVariables false
set_option linter.unusedSimpArgs false
namespace Go.Proofs.Ytjnbnjlkljpbeaa.Pure
open Go.RowKit Go.Proofs.Ytjnbnjlkljpbeaa.All Go.Proofs.YtjnbnjlkljpbeaaW.PrintWords Go.Proofs.YtjnbnjlkljpbeaaW.PrintLast
open Go.Proofs.Ytjnbnjlkljpbeaa.All.BM Go.Proofs.Ytjnbnjlkljpbeaa.All.OB
theorem f_Ahead4 (p l i q k o p' l' i' q' k' o' : Int) : rule_Ahead.f p l i q k o p' l' i' q' k' o' = some (decide (l > l' ∨ (l = l' ∧ (q > q' ∨ (q = q' ∧ i > i'))))) := by
  unfold rule_Ahead.f
  by_cases e1 : l = l'
  · rw [if_pos e1]
    by_cases e2 : q = q'
    · rw [if_pos e2]; congr 1; rw [Bool.eq_iff_iff, decide_eq_true_iff, decide_eq_true_iff]; omega
    · rw [if_neg e2]; congr 1; rw [Bool.eq_iff_iff, decide_eq_true_iff, decide_eq_true_iff]; omega
  · rw [if_neg e1]; congr 1; rw [Bool.eq_iff_iff, decide_eq_true_iff, decide_eq_true_iff]; omega

theorem RuleLong : wayfinderlaw04_RuleLong.Pure := by
  intro p l i q k o p' l' i' q' k' o' _ _ _ _ _ _ _ _ _ _ _ _
  refine ⟨5001, ?_⟩
  unfold wayfinderlaw04_RuleLong.f
  rw [f_awake4 _ (by omega)]
  simp only [Option.bind_some, f_Ahead4]
  rw [if_pos ⟨trivial, fun h => ⟨decide_eq_true (Or.inl h), decide_eq_false (by omega)⟩, fun h => decide_eq_true (Or.inr ⟨trivial, Or.inl (by omega)⟩)⟩]
end Go.Proofs.Ytjnbnjlkljpbeaa.Pure
