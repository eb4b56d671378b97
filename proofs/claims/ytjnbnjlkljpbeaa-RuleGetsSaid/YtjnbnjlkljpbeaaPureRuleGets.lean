/- The rule that any bytes begin with is the one that the document's own functions tell (at most 3000 bytes). -/
import Derived.Test.YtjnbnjlkljpbeaaAllx16
import Derived.Test.YtjnbnjlkljpbeaaMathK
set_option linter.unusedVariables false
set_option linter.unusedSimpArgs false
namespace Go.Proofs.Ytjnbnjlkljpbeaa.Pure
open Go.RowKit Go.Proofs.Ytjnbnjlkljpbeaa.All Go.Proofs.YtjnbnjlkljpbeaaW.PrintWords Go.Proofs.YtjnbnjlkljpbeaaW.PrintLast
open Go.Proofs.Ytjnbnjlkljpbeaa.All.BM Go.Proofs.Ytjnbnjlkljpbeaa.All.OB
theorem RuleGets : wayfinderlaw04_RuleGets.Pure := by
  intro b _ _ hw
  have hb := Bys.of_wf hw
  refine ⟨5001, ?_⟩
  unfold wayfinderlaw04_RuleGets.f
  rw [f_awake4 _ (by omega)]
  simp only [Option.bind_some, if_true, wayfinderlaw04_RuleGets.j0]
  by_cases h : (b.length : Int) > 3000
  · rw [decide_eq_true h, if_pos rfl]
  · rw [decide_eq_false h, if_neg (by decide), f_RGet _ (by omega) _ hb, r_RGet _ (by omega) _ hb (by omega)]
    simp
end Go.Proofs.Ytjnbnjlkljpbeaa.Pure
