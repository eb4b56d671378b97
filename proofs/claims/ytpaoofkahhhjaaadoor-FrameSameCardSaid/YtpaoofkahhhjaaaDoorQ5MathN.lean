/- What msg.Get comes to. -/
import Derived.Test.YtpaoofkahhhjaaaDoorQ5Allx0
import Derived.Test.YtpaoofkahhhjaaaDoorQ5Allx15
import Derived.Test.YtpaoofkahhhjaaaDoorQ5MathD
import Derived.Test.YtpaoofkahhhjaaaDoorQ5MathE
import Derived.Test.YtpaoofkahhhjaaaDoorQ5MathJ
import Derived.Test.YtpaoofkahhhjaaaDoorQ5MathM
set_option linter.unusedVariables false
set_option linter.unusedSimpArgs false
namespace Go.Proofs.YtpaoofkahhhjaaaDoor.All
open Go.RowKit Go.Proofs.YtpaoofkahhhjaaaDoorW.PrintWords Go.Proofs.YtpaoofkahhhjaaaDoorW.PrintLast Go.Proofs.YtpaoofkahhhjaaaDoorW.PrintMore
open BM OB
def rdv (l : List Int) (a n : Nat) : Int := ((val ((l.drop a).take n) : Nat) : Int)
theorem msg_ga (l : List Int) : outGa (gaR l [1, 3, 3, 2]) = if l.length < 9 then ([], 0, 3) else ([rdv l 0 1, rdv l 1 3, rdv l 4 3, rdv l 7 2], 9, 0) := by
  have hd : ∀ j : Nat, (l.drop j).length = l.length - j := fun j => List.length_drop
  have c1 : (1 : Int) ≤ 1 ∧ (1 : Int) ≤ 4 := by decide
  have c3 : (1 : Int) ≤ 3 ∧ (3 : Int) ≤ 4 := by decide
  have c2 : (1 : Int) ≤ 2 ∧ (2 : Int) ≤ 4 := by decide
  have t1 : (1 : Int).toNat = 1 := rfl
  have t3 : (3 : Int).toNat = 3 := rfl
  have t2 : (2 : Int).toNat = 2 := rfl
  simp only [gaR, if_pos c1, if_pos c2, if_pos c3, t1, t2, t3, List.drop_drop, hd]
  by_cases h : l.length < 9
  · rw [if_pos h]
    by_cases k1 : (l.length : Int) < 1
    · rw [if_pos k1]; rfl
    · rw [if_neg k1]
      by_cases k2 : ((l.length - 1 : Nat) : Int) < 3
      · rw [if_pos k2]; rfl
      · rw [if_neg k2]
        by_cases k3 : ((l.length - (1 + 3) : Nat) : Int) < 3
        · rw [if_pos k3]; rfl
        · rw [if_neg k3, if_pos (by omega)]; rfl
  · rw [if_neg h, if_neg (by omega), if_neg (by omega), if_neg (by omega), if_neg (by omega)]
    rfl
def mGetR (l : List Int) : Int × Int × Int × Int × Int × Int × Int × Int × Int × Int × Int :=
  if l.length < 9 then (0, 0, 0, 0, 0, 0, 0, 0, 0, 0, 3) else
  if (l.length : Int) < (if rdv l 0 1 = 2 then 18 else 9) then (0, 0, 0, 0, 0, 0, 0, 0, 0, 0, 3) else
  if (l.length : Int) > (if rdv l 0 1 = 2 then 18 else 9) then (0, 0, 0, 0, 0, 0, 0, 0, 0, 0, 2) else
  if rdv l 0 1 = 2 then
    (if (rGetR (l.drop 9)).2.2.2.2.2.2 = 0 then
      (if isMsg (rdv l 0 1) (rdv l 1 3) (rdv l 4 3) (rdv l 7 2) (rGetR (l.drop 9)).1 (rGetR (l.drop 9)).2.1 (rGetR (l.drop 9)).2.2.1 (rGetR (l.drop 9)).2.2.2.1 (rGetR (l.drop 9)).2.2.2.2.1 (rGetR (l.drop 9)).2.2.2.2.2.1
        then (rdv l 0 1, rdv l 1 3, rdv l 4 3, rdv l 7 2, (rGetR (l.drop 9)).1, (rGetR (l.drop 9)).2.1, (rGetR (l.drop 9)).2.2.1, (rGetR (l.drop 9)).2.2.2.1, (rGetR (l.drop 9)).2.2.2.2.1, (rGetR (l.drop 9)).2.2.2.2.2.1, 0) else (0, 0, 0, 0, 0, 0, 0, 0, 0, 0, 2))
      else (0, 0, 0, 0, 0, 0, 0, 0, 0, 0, 2))
  else (if isMsg (rdv l 0 1) (rdv l 1 3) (rdv l 4 3) (rdv l 7 2) 0 0 0 0 0 0 then (rdv l 0 1, rdv l 1 3, rdv l 4 3, rdv l 7 2, 0, 0, 0, 0, 0, 0, 0) else (0, 0, 0, 0, 0, 0, 0, 0, 0, 0, 2))
theorem f_MGet (n : Nat) (hn : 100 ≤ n) (l : List Int) (hb : Bys l) (hl : l.length ≤ 1000000) : msg_Get.f n l = some (mGetR l) := by
  obtain ⟨n, rfl⟩ : ∃ m, n = m + 1 := ⟨n - 1, by omega⟩
  unfold msg_Get.f mGetR
  rw [f_GetAll _ l hb hl _ (by simp) (by simp; omega), msg_ga]
  by_cases h : l.length < 9
  · rw [if_pos h, if_pos h]
    simp only [Option.bind_some]
    rw [if_neg (by decide)]
  · rw [if_neg h, if_neg h]
    have q0 : rd [rdv l 0 1, rdv l 1 3, rdv l 4 3, rdv l 7 2] 0 = rdv l 0 1 := rfl
    have q1 : rd [rdv l 0 1, rdv l 1 3, rdv l 4 3, rdv l 7 2] 1 = rdv l 1 3 := rfl
    have q2 : rd [rdv l 0 1, rdv l 1 3, rdv l 4 3, rdv l 7 2] 2 = rdv l 4 3 := rfl
    have q3 : rd [rdv l 0 1, rdv l 1 3, rdv l 4 3, rdv l 7 2] 3 = rdv l 7 2 := rfl
    simp only [Option.bind_some, List.length_cons, List.length_nil, if_true, q0, q1, q2, q3]
    rw [if_pos (by decide), if_pos (by decide), if_pos (by decide), if_pos (by decide)]
    have d9 : ((9 : Int)).toNat = 9 := rfl
    by_cases h2 : rdv l 0 1 = 2
    · rw [if_pos h2, if_pos h2, if_pos h2]
      simp only [msg_Get.j0]
      by_cases h3 : (l.length : Int) < 18
      · rw [if_pos h3, if_pos h3]
      · rw [if_neg h3, if_neg h3]
        by_cases h4 : (l.length : Int) > 18
        · rw [if_pos h4, if_pos h4]
        · rw [if_neg h4, if_neg h4, if_pos trivial, if_pos (by decide), if_pos (by omega), d9, f_RGet n (by omega) _ (hb.drop 9)]
          simp only [Option.bind_some]
          by_cases h5 : (rGetR (l.drop 9)).2.2.2.2.2.2 = 0
          · rw [if_pos h5, if_pos h5, f_MMay]
            simp only [Option.bind_some, decide_eq_true_iff]
            exact (apply_ite some _ _ _).symm
          · rw [if_neg h5, if_neg h5]
    · rw [if_neg h2, if_neg h2, if_neg h2]
      simp only [msg_Get.j0]
      by_cases h3 : (l.length : Int) < 9
      · rw [if_pos h3, if_pos h3]
      · rw [if_neg h3, if_neg h3]
        by_cases h4 : (l.length : Int) > 9
        · rw [if_pos h4, if_pos h4]
        · rw [if_neg h4, if_neg h4, if_neg (by decide), f_MMay]
          simp only [Option.bind_some, decide_eq_true_iff]
          exact (apply_ite some _ _ _).symm
end Go.Proofs.YtpaoofkahhhjaaaDoor.All
