/- Each bit of any address, what two have in common, any mask, and what any address begins with, is what the document's own functions tell (on whole numbers of 64 bits). -/
import Derived.Test.YtbecakaajbkofaaAllx8
import Derived.Test.YtbecakaajbkofaaMathD
set_option linter.unusedVariables false
set_option linter.unusedSimpArgs false
namespace Go.Proofs.Ytbecakaajbkofaa.Pure
open Go.RowKit Go.Proofs.Ytbecakaajbkofaa.All Go.Proofs.YtbecakaajbkofaaW.PrintWords Go.Proofs.YtbecakaajbkofaaW.PrintLast Go.Proofs.YtbecakaajbkofaaW.PrintMore
open Go.Proofs.Ytbecakaajbkofaa.All.BM

theorem BitsTell : wayfinderlaw01_BitsTell.Pure := by
  intro a b n _ _ _
  refine ⟨100, ?_⟩
  unfold wayfinderlaw01_BitsTell.f
  rw [f_awake, f_Bit, r_Bit _ (by omega), f_Common, r_Common _ (by omega), f_Mask, r_Mask _ (by omega), f_Cut, r_Cut _ (by omega)]
  simp
end Go.Proofs.Ytbecakaajbkofaa.Pure
