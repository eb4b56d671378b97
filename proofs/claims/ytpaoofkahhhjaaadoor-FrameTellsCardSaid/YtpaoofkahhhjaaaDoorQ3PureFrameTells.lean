/- Any message as a frame, and the message of any bytes, or why there is none, is what the document's own functions tell (at most 3000 bytes). -/
import Derived.Test.YtpaoofkahhhjaaaDoorQ3Allx20
import Derived.Test.YtpaoofkahhhjaaaDoorQ3MathM
import Derived.Test.YtpaoofkahhhjaaaDoorQ3MathN
import Derived.Test.YtpaoofkahhhjaaaDoorQ3MathP
import Derived.Test.YtpaoofkahhhjaaaDoorQ3MathR
import Derived.Test.YtpaoofkahhhjaaaDoorQ3MathS
set_option linter.unusedVariables false
set_option linter.unusedSimpArgs false
namespace Go.Proofs.YtpaoofkahhhjaaaDoor.Pure
open Go.RowKit Go.Proofs.YtpaoofkahhhjaaaDoor.All Go.Proofs.YtpaoofkahhhjaaaDoorW.PrintWords Go.Proofs.YtpaoofkahhhjaaaDoorW.PrintLast
open Go.Proofs.YtpaoofkahhhjaaaDoor.All.BM Go.Proofs.YtpaoofkahhhjaaaDoor.All.OB
theorem f_awake6 (k : Nat) (hk : 200 ≤ k) : wayfinderlaw06_awake.f k = some true := by
  unfold wayfinderlaw06_awake.f
  rw [f_Seal k (by omega)]
  have hr : isMsg 0 3 0 0 0 0 0 0 0 0 := by decide +kernel
  have hbts : frmBytes (msgBytes 0 3 0 0 0 0 0 0 0 0) = [197, 9, 0, 0, 0, 3, 0, 0, 0, 0, 0, 0, 58, 243] := by decide +kernel
  simp only [sealR, if_pos hr, Option.bind_some, if_true, hbts, Lib.strOfNums_toList]
  decide
theorem FrameTells : wayfinderlaw06_FrameTells.Pure := by
  intro kd ep sq tg p l i q k o b _ _ _ _ _ _ _ _ _ _ _ _ hw
  have hb := Bys.of_wf hw
  refine ⟨5001, ?_⟩
  unfold wayfinderlaw06_FrameTells.f
  rw [f_awake6 _ (by omega)]
  simp only [Option.bind_some, if_true, wayfinderlaw06_FrameTells.j0]
  by_cases h : (b.length : Int) > 3000
  · rw [decide_eq_true h, if_pos rfl]
  · rw [decide_eq_false h, if_neg (by decide), f_Seal _ (by omega), r_Seal _ (by omega), f_Open _ (by omega) _ hb (by omega), r_Open _ (by omega) _ hb (by omega)]
    simp
end Go.Proofs.YtpaoofkahhhjaaaDoor.Pure
