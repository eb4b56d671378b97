/- What layer 4 answers on rules is what the document's own functions tell. -/
import Derived.Test.YtjnbnjlkljpbeaaAllx10
import Derived.Test.YtjnbnjlkljpbeaaMathI
import Derived.Test.YtjnbnjlkljpbeaaMathH
set_option linter.unusedVariables false
set_option linter.unusedSimpArgs false
namespace Go.Proofs.Ytjnbnjlkljpbeaa.Pure
open Go.RowKit Go.Proofs.Ytjnbnjlkljpbeaa.All Go.Proofs.YtjnbnjlkljpbeaaW.PrintWords Go.Proofs.YtjnbnjlkljpbeaaW.PrintLast
open Go.Proofs.Ytjnbnjlkljpbeaa.All.BM Go.Proofs.Ytjnbnjlkljpbeaa.All.OB
theorem RuleTells : wayfinderlaw04_RuleTells.Pure := by
  intro p l i q k o p' l' i' q' k' o' n a _ _ _ _ _ _ _ _ _ _ _ _ _ _
  refine ⟨5001, ?_⟩
  unfold wayfinderlaw04_RuleTells.f
  rw [f_awake4 _ (by omega), f_RPut _ (by omega), r_RPut _ (by omega), r_RMay _ (by omega), r_RFits _ (by omega), f_RMay, f_RFits]
  unfold wayfinderref04_Ahead.f rule_Ahead.f wayfinderref04_Alike.f rule_Alike.f
  by_cases e1 : l = l' <;> by_cases e2 : q = q' <;> by_cases e3 : p = p' <;> by_cases e4 : i = i' <;> simp [e1, e2, e3, e4]
end Go.Proofs.Ytjnbnjlkljpbeaa.Pure
