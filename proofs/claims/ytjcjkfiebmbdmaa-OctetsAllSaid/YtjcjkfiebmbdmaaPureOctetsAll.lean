/- Any numbers in bytes, one behind the other, and back, are what the document's own functions tell (at most 200 numbers, 3000 bytes). -/
import Derived.Test.YtjcjkfiebmbdmaaAllx6
import Derived.Test.YtjcjkfiebmbdmaaMathC
set_option linter.unusedVariables false
set_option linter.unusedSimpArgs false
namespace Go.Proofs.Ytjcjkfiebmbdmaa.Pure
open Go.RowKit Go.Proofs.Ytjcjkfiebmbdmaa.All Go.Proofs.YtjcjkfiebmbdmaaW.PrintWords Go.Proofs.YtjcjkfiebmbdmaaW.PrintLast Go.Proofs.YtjcjkfiebmbdmaaW.PrintMore
open Go.Proofs.Ytjcjkfiebmbdmaa.All.OB

theorem OctetsAll : wayfinderlaw02_OctetsAll.Pure := by
  intro l ws b _ _ _ _ _ _ _ _ hw
  have hb := Bys.of_wf hw
  refine ⟨5001, ?_⟩
  unfold wayfinderlaw02_OctetsAll.f
  rw [f_awake _ (by omega)]
  simp only [Option.bind_some, if_true, wayfinderlaw02_OctetsAll.j0]
  by_cases h1 : (l.length : Int) > 200
  · rw [if_pos h1]
  rw [if_neg h1]
  by_cases h2 : (ws.length : Int) > 200
  · rw [if_pos h2]
  rw [if_neg h2]
  by_cases h3 : (b.length : Int) > 3000
  · rw [decide_eq_true h3, if_pos rfl]
  have hk : (outGa (gaR b ws)).1.length ≤ 200 := by
    unfold outGa
    cases hr : gaR b ws with
    | err e => simp
    | ok l' k =>
      have := (gaR_k _ _ _ _ hr).2
      simp only
      omega
  rw [decide_eq_false h3, if_neg (by decide), f_PutAll _ _ _ (by omega) (by omega), r_PutAll _ _ _ (by omega) (by omega), f_GetAll _ _ hb (by omega) _ (by omega) (by omega), r_GetAll _ _ hb (by omega) _ (by omega) (by omega)]
  simp only [Option.bind_some]
  rw [r_Ints _ _ _ (by omega) (by omega)]
  simp
end Go.Proofs.Ytjcjkfiebmbdmaa.Pure
