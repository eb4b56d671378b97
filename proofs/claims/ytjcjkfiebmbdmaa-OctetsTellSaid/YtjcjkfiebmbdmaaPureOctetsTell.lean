/- Any number in any width, the number that any bytes begin with, and their checksum, are what the document's own functions tell (at most 3000 bytes). -/
import Derived.Test.YtjcjkfiebmbdmaaAllx4
import Derived.Test.YtjcjkfiebmbdmaaMathC
set_option linter.unusedVariables false
set_option linter.unusedSimpArgs false
namespace Go.Proofs.Ytjcjkfiebmbdmaa.Pure
open Go.RowKit Go.Proofs.Ytjcjkfiebmbdmaa.All Go.Proofs.YtjcjkfiebmbdmaaW.PrintWords Go.Proofs.YtjcjkfiebmbdmaaW.PrintLast Go.Proofs.YtjcjkfiebmbdmaaW.PrintMore
open Go.Proofs.Ytjcjkfiebmbdmaa.All.OB

theorem OctetsTell : wayfinderlaw02_OctetsTell.Pure := by
  intro n w b _ _ _ _ hw
  have hb := Bys.of_wf hw
  refine ⟨5001, ?_⟩
  unfold wayfinderlaw02_OctetsTell.f
  rw [f_awake _ (by omega)]
  simp only [Option.bind_some, if_true, wayfinderlaw02_OctetsTell.j0]
  by_cases h : (b.length : Int) > 3000
  · rw [decide_eq_true h, if_pos rfl]
  · rw [decide_eq_false h, if_neg (by decide), f_Put _ (by omega), r_Put _ (by omega), f_Get _ (by omega) _ hb, r_Get _ (by omega) _ hb, f_Sum _ hb (by omega), r_Sum _ _ hb (by omega) (by omega)]
    simp
end Go.Proofs.Ytjcjkfiebmbdmaa.Pure
