/- What rule.Fits comes to. -/
import Derived.Test.YtjnbnjlkljpbeaaAllx0
import Derived.Test.YtjnbnjlkljpbeaaAllx6
import Derived.Test.YtjnbnjlkljpbeaaMathA
import Derived.Test.YtjnbnjlkljpbeaaMathB
set_option linter.unusedVariables false
set_option linter.unusedSimpArgs false
namespace Go.Proofs.Ytjnbnjlkljpbeaa.All
open Go.RowKit Go.Proofs.YtjnbnjlkljpbeaaW.PrintWords Go.Proofs.YtjnbnjlkljpbeaaW.PrintLast Go.Proofs.YtjnbnjlkljpbeaaW.PrintMore
open BM
theorem f_RFits (p l i q k o n a : Int) : rule_Fits.f p l i q k o n a = some (((((cut (lo a) (bd l) : Nat) : Int) == p) && ((bd l : Int) == l)) && decide (i = -1 ∨ i = n)) := by
  unfold rule_Fits.f
  rw [f_Has]
  simp only [Option.bind_some]
  by_cases h : ((((cut (lo a) (bd l) : Nat) : Int) == p) && ((bd l : Int) == l)) = true
  · rw [if_pos h, h]
    by_cases h1 : i = -1
    · rw [if_pos h1]; simp [h1]
    · rw [if_neg h1]
      congr 1
      rw [Bool.true_and, Bool.eq_iff_iff, beq_iff_eq, decide_eq_true_iff]
      omega
  · rw [if_neg h]
    simp only [Bool.not_eq_true] at h
    rw [h, Bool.false_and]
end Go.Proofs.Ytjnbnjlkljpbeaa.All
