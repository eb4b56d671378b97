/- What a rule does does not matter to which packets it is for, and where it stands. -/
import Derived.Test.YtjnbnjlkljpbeaaAllx22
import Derived.Test.YtjnbnjlkljpbeaaMathG
import Derived.Test.YtjnbnjlkljpbeaaMathH
set_option linter.unusedVariables false
set_option linter.unusedSimpArgs false
namespace Go.Proofs.Ytjnbnjlkljpbeaa.Pure
open Go.RowKit Go.Proofs.Ytjnbnjlkljpbeaa.All Go.Proofs.YtjnbnjlkljpbeaaW.PrintWords Go.Proofs.YtjnbnjlkljpbeaaW.PrintLast
open Go.Proofs.Ytjnbnjlkljpbeaa.All.BM Go.Proofs.Ytjnbnjlkljpbeaa.All.OB
theorem f_Ahead4 (p l i q k o p' l' i' q' k' o' : Int) : rule_Ahead.f p l i q k o p' l' i' q' k' o' = some (decide (l > l' ∨ (l = l' ∧ (q > q' ∨ (q = q' ∧ i > i'))))) := by
  unfold rule_Ahead.f
  by_cases e1 : l = l'
  · rw [if_pos e1]
    by_cases e2 : q = q'
    · rw [if_pos e2]; congr 1; rw [Bool.eq_iff_iff, decide_eq_true_iff, decide_eq_true_iff]; omega
    · rw [if_neg e2]; congr 1; rw [Bool.eq_iff_iff, decide_eq_true_iff, decide_eq_true_iff]; omega
  · rw [if_neg e1]; congr 1; rw [Bool.eq_iff_iff, decide_eq_true_iff, decide_eq_true_iff]; omega
theorem f_Alike4 (p l i q k o p' l' i' q' k' o' : Int) : rule_Alike.f p l i q k o p' l' i' q' k' o' = some (decide (p = p' ∧ l = l' ∧ i = i' ∧ q = q')) := by
  unfold rule_Alike.f
  congr 1
  rw [Bool.eq_iff_iff, decide_eq_true_iff]
  simp only [Bool.and_eq_true, beq_iff_eq]
  exact ⟨fun h => ⟨h.1.1, h.1.2, h.2.1, h.2.2⟩, fun h => ⟨⟨h.1, h.2.1⟩, h.2.2.1, h.2.2.2⟩⟩

theorem RuleAct : wayfinderlaw04_RuleAct.Pure := by
  intro p l i q k o p' l' i' q' k' o' k2 o2 n a _ _ _ _ _ _ _ _ _ _ _ _ _ _ _ _
  refine ⟨5001, ?_⟩
  unfold wayfinderlaw04_RuleAct.f
  rw [f_awake4 _ (by omega)]
  simp only [Option.bind_some, if_true, f_Ahead4, f_Alike4, f_RFits, beq_self_eq_true]
  simp
end Go.Proofs.Ytjnbnjlkljpbeaa.Pure
