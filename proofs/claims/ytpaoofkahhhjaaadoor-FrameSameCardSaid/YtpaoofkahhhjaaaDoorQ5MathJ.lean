/- What rule.Get comes to, and that Put and Get undo each other. -/
import Derived.Test.YtpaoofkahhhjaaaDoorQ5Allx0
import Derived.Test.YtpaoofkahhhjaaaDoorQ5Allx14
import Derived.Test.YtpaoofkahhhjaaaDoorQ5MathD
import Derived.Test.YtpaoofkahhhjaaaDoorQ5MathE
import Derived.Test.YtpaoofkahhhjaaaDoorQ5MathG
set_option linter.unusedVariables false
set_option linter.unusedSimpArgs false
namespace Go.Proofs.YtpaoofkahhhjaaaDoor.All
open Go.RowKit Go.Proofs.YtpaoofkahhhjaaaDoorW.PrintWords Go.Proofs.YtpaoofkahhhjaaaDoorW.PrintLast Go.Proofs.YtpaoofkahhhjaaaDoorW.PrintMore
open BM OB
def rGetR (l : List Int) : Int × Int × Int × Int × Int × Int × Int :=
  if l.length < 9 then (0, 0, 0, 0, 0, 0, 3) else
    (if isRule ((val (l.take 4) : Nat) : Int) (rd l 4) (rd l 5 - 1) (rd l 6) (rd l 7) (rd l 8) then (((val (l.take 4) : Nat) : Int), rd l 4, rd l 5 - 1, rd l 6, rd l 7, rd l 8, 0) else (0, 0, 0, 0, 0, 0, 2))
theorem wrap_byte (x : Int) (h : 0 ≤ x ∧ x ≤ 255) : wrap64 x = x ∧ wrap64 (x - 1) = x - 1 := by unfold wrap64; omega
theorem f_RGet (n : Nat) (hn : 20 ≤ n) (l : List Int) (hb : Bys l) : rule_Get.f n l = some (rGetR l) := by
  unfold rule_Get.f rGetR
  by_cases h : l.length < 9
  · rw [if_pos (by omega), if_pos h]
  · have g4 := wrap_byte _ (hb.get 4)
    have g5 := wrap_byte _ (hb.get 5)
    have g6 := wrap_byte _ (hb.get 6)
    have g7 := wrap_byte _ (hb.get 7)
    have g8 := wrap_byte _ (hb.get 8)
    rw [g4.1, g5.1, g5.2, g6.1, g7.1, g8.1]
    clear g4 g5 g6 g7 g8
    rw [if_neg (by omega), if_neg h, f_Get n (by omega) l hb]
    have hg : getR l 4 = (((val (l.take 4) : Nat) : Int), 0) := by
      unfold getR
      rw [if_pos (by omega), if_neg (by omega)]
      rfl
    simp only [Option.bind_some, hg]
    rw [if_pos (by omega), if_pos (by omega), if_pos (by omega), if_pos (by omega), if_pos (by omega), if_pos trivial, f_RMay]
    simp only [Option.bind_some, decide_eq_true_iff]
    by_cases hr : isRule ((val (l.take 4) : Nat) : Int) (rd l 4) (rd l 5 - 1) (rd l 6) (rd l 7) (rd l 8)
    · rw [if_pos hr, if_pos hr]
    · rw [if_neg hr, if_neg hr]
theorem rPut_get (l : List Int) (hb : Bys l) (h9 : 9 ≤ l.length) (h : isRule ((val (l.take 4) : Nat) : Int) (rd l 4) (rd l 5 - 1) (rd l 6) (rd l 7) (rd l 8)) :
    ruleBytes ((val (l.take 4) : Nat) : Int) (rd l 4) (rd l 5 - 1) (rd l 6) (rd l 7) (rd l 8) = l.take 9 := by
  have hl : (l.take 4).length = 4 := by rw [List.length_take]; omega
  have hv := be_val _ (hb.take 4)
  rw [hl] at hv
  unfold ruleBytes
  rw [Int.toNat_natCast, hv, show rd l 5 - 1 + 1 = rd l 5 from by omega]
  have e : l.take 9 = l.take 4 ++ (l.drop 4).take 5 := by rw [← List.take_add]
  rw [e]
  congr 1
  have r : ∀ j : Nat, j < l.length → rd l (j : Int) = l.getD j 0 := fun j hj => by simp [rd]
  rw [List.drop_eq_getElem_cons (show 4 < l.length by omega), List.drop_eq_getElem_cons (show 5 < l.length by omega), List.drop_eq_getElem_cons (show 6 < l.length by omega), List.drop_eq_getElem_cons (show 7 < l.length by omega), List.drop_eq_getElem_cons (show 8 < l.length by omega)]
  simp only [List.take_succ_cons, List.take_zero]
  have q : ∀ (j : Nat) (hj : j < l.length), rd l (j : Int) = l[j] := fun j hj => by simp [rd, List.getD, hj]
  rw [← q 4 (by omega), ← q 5 (by omega), ← q 6 (by omega), ← q 7 (by omega), ← q 8 (by omega)]
  rfl
end Go.Proofs.YtpaoofkahhhjaaaDoor.All
