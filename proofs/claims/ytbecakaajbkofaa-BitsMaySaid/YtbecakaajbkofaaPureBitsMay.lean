/- Whether any prefix may be, has any address, and is within any other one, is what the document's own functions tell (on whole numbers of 64 bits). -/
import Derived.Test.YtbecakaajbkofaaAllx5
import Derived.Test.YtbecakaajbkofaaMathC
set_option linter.unusedVariables false
set_option linter.unusedSimpArgs false
namespace Go.Proofs.Ytbecakaajbkofaa.Pure
open Go.RowKit Go.Proofs.Ytbecakaajbkofaa.All Go.Proofs.YtbecakaajbkofaaW.PrintWords Go.Proofs.YtbecakaajbkofaaW.PrintLast Go.Proofs.YtbecakaajbkofaaW.PrintMore
open Go.Proofs.Ytbecakaajbkofaa.All.BM

theorem BitsMay : wayfinderlaw01_BitsMay.Pure := by
  intro p l q m a _ _ _ _ _
  refine ⟨100, ?_⟩
  unfold wayfinderlaw01_BitsMay.f
  rw [f_awake, r_May _ (by omega), r_Has _ (by omega), r_Within _ (by omega), f_May, f_Has, f_Within]
  simp only [Option.bind_some, beq_self_eq_true, if_true]
end Go.Proofs.Ytbecakaajbkofaa.Pure
