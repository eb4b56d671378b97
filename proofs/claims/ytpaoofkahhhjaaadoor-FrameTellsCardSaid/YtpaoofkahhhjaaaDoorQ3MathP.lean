/- The document's Get of layer 5. -/
import Derived.Test.YtpaoofkahhhjaaaDoorQ3Allx0
import Derived.Test.YtpaoofkahhhjaaaDoorQ3Allx18
import Derived.Test.YtpaoofkahhhjaaaDoorQ3MathD
import Derived.Test.YtpaoofkahhhjaaaDoorQ3MathF
import Derived.Test.YtpaoofkahhhjaaaDoorQ3MathJ
import Derived.Test.YtpaoofkahhhjaaaDoorQ3MathK
import Derived.Test.YtpaoofkahhhjaaaDoorQ3MathN
import Derived.Test.YtpaoofkahhhjaaaDoorQ3MathO
set_option linter.unusedVariables false
set_option linter.unusedSimpArgs false
namespace Go.Proofs.YtpaoofkahhhjaaaDoor.All
open Go.RowKit Go.Proofs.YtpaoofkahhhjaaaDoorW.PrintWords Go.Proofs.YtpaoofkahhhjaaaDoorW.PrintLast Go.Proofs.YtpaoofkahhhjaaaDoorW.PrintMore
open BM OB
theorem r_MGet (n : Nat) (hn : 400 ≤ n) (l : List Int) (hb : Bys l) (hl : l.length ≤ 3000) : wayfinderref05_Get.f n l = some (mGetR l) := by
  obtain ⟨n, rfl⟩ : ∃ m, n = m + 1 := ⟨n - 1, by omega⟩
  unfold wayfinderref05_Get.f mGetR
  rw [r_GetAll _ _ hb (by omega) _ (by simp) (by simp; omega), msg_ga]
  by_cases h : l.length < 9
  · rw [if_pos h, if_pos h]
    simp only [Option.bind_some]
    rw [if_neg (by decide)]
  · rw [if_neg h, if_neg h]
    have q0 : rd [rdv l 0 1, rdv l 1 3, rdv l 4 3, rdv l 7 2] 0 = rdv l 0 1 := rfl
    have q1 : rd [rdv l 0 1, rdv l 1 3, rdv l 4 3, rdv l 7 2] 1 = rdv l 1 3 := rfl
    have q2 : rd [rdv l 0 1, rdv l 1 3, rdv l 4 3, rdv l 7 2] 2 = rdv l 4 3 := rfl
    have q3 : rd [rdv l 0 1, rdv l 1 3, rdv l 4 3, rdv l 7 2] 3 = rdv l 7 2 := rfl
    have w18 : wrap64 (9 + 9) = 18 := by unfold wrap64; omega
    simp only [Option.bind_some, List.length_cons, List.length_nil, if_true, q0, q1, q2, q3, w18]
    rw [if_pos (by decide), if_pos (by decide), if_pos (by decide), if_pos (by decide)]
    have d9 : ((9 : Int)).toNat = 9 := rfl
    by_cases h2 : rdv l 0 1 = 2
    · rw [if_pos h2, if_pos h2, if_pos h2]
      simp only [wayfinderref05_Get.j0]
      by_cases h3 : (l.length : Int) < 18
      · rw [if_pos h3, if_pos h3]
      · rw [if_neg h3, if_neg h3]
        by_cases h4 : (l.length : Int) > 18
        · rw [if_pos h4, if_pos h4]
        · rw [if_neg h4, if_neg h4, if_pos h2, if_pos (by decide), if_pos (by omega), d9, r_RGet n (by omega) _ (hb.drop 9) (by rw [List.length_drop]; omega)]
          simp only [Option.bind_some]
          by_cases h5 : (rGetR (l.drop 9)).2.2.2.2.2.2 = 0
          · rw [if_pos h5, if_pos h5, r_MMay n (by omega)]
            simp only [Option.bind_some, decide_eq_true_iff]
            exact (apply_ite some _ _ _).symm
          · rw [if_neg h5, if_neg h5]
    · rw [if_neg h2, if_neg h2, if_neg h2]
      simp only [wayfinderref05_Get.j0]
      by_cases h3 : (l.length : Int) < 9
      · rw [if_pos h3, if_pos h3]
      · rw [if_neg h3, if_neg h3]
        by_cases h4 : (l.length : Int) > 9
        · rw [if_pos h4, if_pos h4]
        · rw [if_neg h4, if_neg h4, if_neg h2, r_MMay n (by omega)]
          simp only [Option.bind_some, decide_eq_true_iff]
          exact (apply_ite some _ _ _).symm
end Go.Proofs.YtpaoofkahhhjaaaDoor.All
