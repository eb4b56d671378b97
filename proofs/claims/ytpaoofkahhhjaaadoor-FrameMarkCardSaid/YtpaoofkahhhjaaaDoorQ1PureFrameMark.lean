/- What does not begin as a frame is none, whatever stands behind (at most 3000 bytes). -/
import Derived.Test.YtpaoofkahhhjaaaDoorQ1Allx24
import Derived.Test.YtpaoofkahhhjaaaDoorQ1MathN
import Derived.Test.YtpaoofkahhhjaaaDoorQ1MathR
set_option linter.unusedVariables false
set_option linter.unusedSimpArgs false
namespace Go.Proofs.YtpaoofkahhhjaaaDoor.Pure
open Go.RowKit Go.Proofs.YtpaoofkahhhjaaaDoor.All Go.Proofs.YtpaoofkahhhjaaaDoorW.PrintWords Go.Proofs.YtpaoofkahhhjaaaDoorW.PrintLast
open Go.Proofs.YtpaoofkahhhjaaaDoor.All.BM Go.Proofs.YtpaoofkahhhjaaaDoor.All.OB
theorem f_awake6 (k : Nat) (hk : 200 ≤ k) : wayfinderlaw06_awake.f k = some true := by
  unfold wayfinderlaw06_awake.f
  rw [f_Seal k (by omega)]
  have hr : isMsg 0 3 0 0 0 0 0 0 0 0 := by decide +kernel
  have hbts : frmBytes (msgBytes 0 3 0 0 0 0 0 0 0 0) = [197, 9, 0, 0, 0, 3, 0, 0, 0, 0, 0, 0, 58, 243] := by decide +kernel
  simp only [sealR, if_pos hr, Option.bind_some, if_true, hbts, Lib.strOfNums_toList]
  decide
theorem FrameMark : wayfinderlaw06_FrameMark.Pure := by
  intro b c _ _ hw hc
  have hb := Bys.of_wf hw
  have hc1 : Bys [c] := Bys.of_wf (by intro x hx; simp only [List.mem_cons, List.not_mem_nil, or_false] at hx; subst hx; exact hc)
  refine ⟨5001, ?_⟩
  unfold wayfinderlaw06_FrameMark.f
  rw [f_awake6 _ (by omega)]
  simp only [Option.bind_some, if_true]
  by_cases h1 : (b.length : Int) > 3000
  · rw [if_pos h1]
  rw [if_neg h1]
  by_cases h2 : c = 197
  · rw [if_pos h2]
  have hlen : ([c] ++ b).length = b.length + 1 := by rw [List.length_append]; simp; omega
  rw [if_neg h2, if_pos (by simp; omega), f_Open _ (by omega) _ (hc1.append hb) (by omega)]
  simp only [Option.bind_some]
  have r0 : rd ([c] ++ b) 0 = c := rfl
  have ho : oGetR ([c] ++ b) = if (b.length : Int) < 3 then (0, 0, 0, 0, 0, 0, 0, 0, 0, 0, 3) else (0, 0, 0, 0, 0, 0, 0, 0, 0, 0, 2) := by
    unfold oGetR
    by_cases h3 : (b.length : Int) < 3
    · rw [if_pos (by omega), if_pos h3]
    · rw [if_neg (by omega), r0, if_neg h2, if_neg h3]
  rw [ho]
  by_cases h3 : (b.length : Int) < 3
  · simp [h3]
  · simp [h3]
end Go.Proofs.YtpaoofkahhhjaaaDoor.Pure
