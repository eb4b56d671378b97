/- Of any number the last 32 bits alone count for what it begins with and for what it has in common, and a length counts as bounded to 0 and 32 (on whole numbers; both of 64 bits). -/
import Derived.Test.YtbecakaajbkofaaAllx4
import Derived.Test.YtbecakaajbkofaaMathC
set_option linter.unusedVariables false
set_option linter.unusedSimpArgs false
namespace Go.Proofs.Ytbecakaajbkofaa.Pure
open Go.RowKit Go.Proofs.Ytbecakaajbkofaa.All Go.Proofs.YtbecakaajbkofaaW.PrintWords Go.Proofs.YtbecakaajbkofaaW.PrintLast Go.Proofs.YtbecakaajbkofaaW.PrintMore
open Go.Proofs.Ytbecakaajbkofaa.All.BM

theorem BitsNine : wayfinderlaw01_BitsNine.Pure := by
  intro a0 a1 _ _
  have e : lo (Go.bits .and .i64 a0 4294967295) = lo a0 := by rw [low_and, lo_nat _ (lo_lt a0)]
  have key : ∀ m : Int, (bd a1 : Int) = m → wayfinderlaw01_BitsNine.j1 41 a0 a1 true m = some true := by
    rintro m rfl
    simp only [wayfinderlaw01_BitsNine.j1]
    rw [if_pos trivial, f_Cut, f_Cut, e, bd_nat _ (bd_le a1), f_Mask, r_Mask _ (by omega), bd_nat _ (bd_le a1), f_Common, e, (com_full _ _ (lo_lt a0) (lo_lt a0)).mpr rfl]
    simp
  refine ⟨42, ?_⟩
  unfold wayfinderlaw01_BitsNine.f
  rw [f_awake]
  simp only [Option.bind_some]
  have hb := bd_cast a1
  unfold mn mx at hb
  by_cases h0 : a1 < 0
  · rw [if_pos h0]
    simp only [wayfinderlaw01_BitsNine.j0]
    rw [if_neg (by decide)]
    exact key 0 (by rw [hb, if_pos h0, if_neg (by decide)])
  · rw [if_neg h0]
    simp only [wayfinderlaw01_BitsNine.j0]
    rw [if_neg h0] at hb
    by_cases h2 : a1 > 32
    · rw [if_pos h2]
      exact key 32 (by rw [hb, if_pos (by omega)])
    · rw [if_neg h2]
      exact key a1 (by rw [hb, if_neg (by omega)])
end Go.Proofs.Ytbecakaajbkofaa.Pure
