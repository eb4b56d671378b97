/- The message of any bytes, or why there is none, is what the document says (at most 3000 bytes). -/
import Derived.Test.YtdmajldpebooeaaDoorQ5Allx21
import Derived.Test.YtdmajldpebooeaaDoorQ5MathM
import Derived.Test.YtdmajldpebooeaaDoorQ5MathN
import Derived.Test.YtdmajldpebooeaaDoorQ5MathP
set_option linter.unusedVariables false
set_option linter.unusedSimpArgs false
namespace Go.Proofs.YtdmajldpebooeaaDoor.Pure
open Go.RowKit Go.Proofs.YtdmajldpebooeaaDoor.All Go.Proofs.YtdmajldpebooeaaDoorW.PrintWords Go.Proofs.YtdmajldpebooeaaDoorW.PrintLast
open Go.Proofs.YtdmajldpebooeaaDoor.All.BM Go.Proofs.YtdmajldpebooeaaDoor.All.OB
theorem f_awake5 (k : Nat) (hk : 200 ≤ k) : wayfinderlaw05_awake.f k = some true := by
  unfold wayfinderlaw05_awake.f
  rw [f_MPut k (by omega)]
  have hr : isMsg 0 3 0 0 0 0 0 0 0 0 := by decide +kernel
  have hbts : msgBytes 0 3 0 0 0 0 0 0 0 0 = [0, 0, 0, 3, 0, 0, 0, 0, 0] := by decide +kernel
  simp only [mPutR, if_pos hr, Option.bind_some, if_true, hbts, Lib.strOfNums_toList]
  decide
theorem MsgGets : wayfinderlaw05_MsgGets.Pure := by
  intro b _ _ hw
  have hb := Bys.of_wf hw
  refine ⟨5001, ?_⟩
  unfold wayfinderlaw05_MsgGets.f
  rw [f_awake5 _ (by omega)]
  simp only [Option.bind_some, if_true, wayfinderlaw05_MsgGets.j0]
  by_cases h : (b.length : Int) > 3000
  · rw [decide_eq_true h, if_pos rfl]
  · rw [decide_eq_false h, if_neg (by decide), f_MGet _ (by omega) _ hb (by omega), r_MGet _ (by omega) _ hb (by omega)]
    simp
end Go.Proofs.YtdmajldpebooeaaDoor.Pure
