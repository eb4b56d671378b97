/- What is sealed is opened; it has the message's bytes, and 4 or 5 more. -/
import Derived.Test.YtpaoofkahhhjaaaDoorQ1Allx21
import Derived.Test.YtpaoofkahhhjaaaDoorQ1MathM
import Derived.Test.YtpaoofkahhhjaaaDoorQ1MathN
import Derived.Test.YtpaoofkahhhjaaaDoorQ1MathQ
import Derived.Test.YtpaoofkahhhjaaaDoorQ1MathR
set_option linter.unusedVariables false
set_option linter.unusedSimpArgs false
namespace Go.Proofs.YtpaoofkahhhjaaaDoor.Pure
open Go.RowKit Go.Proofs.YtpaoofkahhhjaaaDoor.All Go.Proofs.YtpaoofkahhhjaaaDoorW.PrintWords Go.Proofs.YtpaoofkahhhjaaaDoorW.PrintLast
open Go.Proofs.YtpaoofkahhhjaaaDoor.All.BM Go.Proofs.YtpaoofkahhhjaaaDoor.All.OB
theorem f_awake6 (k : Nat) (hk : 200 ≤ k) : wayfinderlaw06_awake.f k = some true := by
  unfold wayfinderlaw06_awake.f
  rw [f_Seal k (by omega)]
  have hr : isMsg 0 3 0 0 0 0 0 0 0 0 := by decide +kernel
  have hbts : frmBytes (msgBytes 0 3 0 0 0 0 0 0 0 0) = [197, 9, 0, 0, 0, 3, 0, 0, 0, 0, 0, 0, 58, 243] := by decide +kernel
  simp only [sealR, if_pos hr, Option.bind_some, if_true, hbts, Lib.strOfNums_toList]
  decide
theorem FrameBack : wayfinderlaw06_FrameBack.Pure := by
  intro kd ep sq tg p l i q k o _ _ _ _ _ _ _ _ _ _
  refine ⟨5001, ?_⟩
  unfold wayfinderlaw06_FrameBack.f
  rw [f_awake6 _ (by omega), f_Seal _ (by omega), f_MPut _ (by omega)]
  simp only [Option.bind_some, if_true]
  unfold sealR mPutR
  by_cases h : isMsg kd ep sq tg p l i q k o
  · rw [if_pos h, if_pos h]
    have hs := msg_small kd ep sq tg p l i q k o
    have hbb := msgBytes_bytes h
    have hlen := frmBytes_length (msgBytes kd ep sq tg p l i q k o)
    have hput := mGet_put h
    have ho := oGet_seal hbb (by omega)
    simp only [if_true]
    rw [f_Open _ (by omega) _ (frmBytes_bytes hbb) (by omega), ho, hput]
    simp only [Option.bind_some, if_true, beq_self_eq_true, Bool.and_self]
    have e : wrap64 (wrap64 (((msgBytes kd ep sq tg p l i q k o).length : Int) + 4) + ((msgBytes kd ep sq tg p l i q k o).length : Int) % 2) = ((frmBytes (msgBytes kd ep sq tg p l i q k o)).length : Int) := by
      unfold wrap64
      omega
    rw [e, beq_self_eq_true]
  · rw [if_neg h, if_neg h]
    rfl
end Go.Proofs.YtpaoofkahhhjaaaDoor.Pure
