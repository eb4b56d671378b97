/- That msg.Put and msg.Get undo each other; bytes cut short, and with one more. -/
import Derived.Test.YtpaoofkahhhjaaaDoorQ3Allx0
import Derived.Test.YtpaoofkahhhjaaaDoorQ3MathA
import Derived.Test.YtpaoofkahhhjaaaDoorQ3MathD
import Derived.Test.YtpaoofkahhhjaaaDoorQ3MathG
import Derived.Test.YtpaoofkahhhjaaaDoorQ3MathJ
import Derived.Test.YtpaoofkahhhjaaaDoorQ3MathM
import Derived.Test.YtpaoofkahhhjaaaDoorQ3MathN
set_option linter.unusedVariables false
set_option linter.unusedSimpArgs false
namespace Go.Proofs.YtpaoofkahhhjaaaDoor.All
open Go.RowKit Go.Proofs.YtpaoofkahhhjaaaDoorW.PrintWords Go.Proofs.YtpaoofkahhhjaaaDoorW.PrintLast Go.Proofs.YtpaoofkahhhjaaaDoorW.PrintMore
open BM OB
theorem msgBytes_bytes {kd ep sq tg p l i q k o : Int} (h : isMsg kd ep sq tg p l i q k o) : Bys (msgBytes kd ep sq tg p l i q k o) := by
  have hh : Bys (msgHead kd ep sq tg) := (be_bytes _ _).append ((be_bytes _ _).append ((be_bytes _ _).append (be_bytes _ _)))
  unfold msgBytes
  by_cases h2 : kd = 2
  · rw [if_pos h2]
    have hr : isRule p l i q k o := by have := h.2.2.1; unfold ruleOf at this; rw [if_pos h2] at this; exact this
    exact hh.append (ruleBytes_bytes hr)
  · rw [if_neg h2]; exact hh
end Go.Proofs.YtpaoofkahhhjaaaDoor.All
