/- Whether any message may be, and its bytes, are what the document says. -/
import Derived.Test.YtdmajldpebooeaaDoorQ1Allx12
import Derived.Test.YtdmajldpebooeaaDoorQ1MathM
import Derived.Test.YtdmajldpebooeaaDoorQ1MathO
set_option linter.unusedVariables false
set_option linter.unusedSimpArgs false
namespace Go.Proofs.YtdmajldpebooeaaDoor.Pure
open Go.RowKit Go.Proofs.YtdmajldpebooeaaDoor.All Go.Proofs.YtdmajldpebooeaaDoorW.PrintWords Go.Proofs.YtdmajldpebooeaaDoorW.PrintLast
open Go.Proofs.YtdmajldpebooeaaDoor.All.BM Go.Proofs.YtdmajldpebooeaaDoor.All.OB
theorem f_awake5 (k : Nat) (hk : 200 ≤ k) : wayfinderlaw05_awake.f k = some true := by
  unfold wayfinderlaw05_awake.f
  rw [f_MPut k (by omega)]
  have hr : isMsg 0 3 0 0 0 0 0 0 0 0 := by decide +kernel
  have hbts : msgBytes 0 3 0 0 0 0 0 0 0 0 = [0, 0, 0, 3, 0, 0, 0, 0, 0] := by decide +kernel
  simp only [mPutR, if_pos hr, Option.bind_some, if_true, hbts, Lib.strOfNums_toList]
  decide
theorem MsgTells : wayfinderlaw05_MsgTells.Pure := by
  intro kd ep sq tg p l i q k o _ _ _ _ _ _ _ _ _ _
  refine ⟨5001, ?_⟩
  unfold wayfinderlaw05_MsgTells.f
  rw [f_awake5 _ (by omega), f_MPut _ (by omega), r_MPut _ (by omega), r_MMay _ (by omega), f_MMay]
  simp
end Go.Proofs.YtdmajldpebooeaaDoor.Pure
