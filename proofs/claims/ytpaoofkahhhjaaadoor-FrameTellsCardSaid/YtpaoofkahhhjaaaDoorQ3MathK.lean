/- The document's Get of layer 4. -/
import Derived.Test.YtpaoofkahhhjaaaDoorQ3Allx0
import Derived.Test.YtpaoofkahhhjaaaDoorQ3Allx17
import Derived.Test.YtpaoofkahhhjaaaDoorQ3MathD
import Derived.Test.YtpaoofkahhhjaaaDoorQ3MathE
import Derived.Test.YtpaoofkahhhjaaaDoorQ3MathF
import Derived.Test.YtpaoofkahhhjaaaDoorQ3MathG
import Derived.Test.YtpaoofkahhhjaaaDoorQ3MathI
import Derived.Test.YtpaoofkahhhjaaaDoorQ3MathJ
set_option linter.unusedVariables false
set_option linter.unusedSimpArgs false
namespace Go.Proofs.YtpaoofkahhhjaaaDoor.All
open Go.RowKit Go.Proofs.YtpaoofkahhhjaaaDoorW.PrintWords Go.Proofs.YtpaoofkahhhjaaaDoorW.PrintLast Go.Proofs.YtpaoofkahhhjaaaDoorW.PrintMore
open BM OB
theorem val_one (l : List Int) (hb : Bys l) (i : Nat) (h : i < l.length) : (((val ((l.drop i).take 1) : Nat) : Int)) = rd l (i : Int) := by
  have hg := hb.get (i : Int)
  have e : rd l (i : Int) = l[i] := by simp [rd, List.getD, h]
  rw [List.drop_eq_getElem_cons h, ← e]
  simp [val]
  omega
theorem r_RGet (n : Nat) (hn : 200 ≤ n) (l : List Int) (hb : Bys l) (hl : l.length ≤ 3000) : wayfinderref04_Get.f n l = some (rGetR l) := by
  unfold wayfinderref04_Get.f rGetR
  rw [r_GetAll _ _ hb (by omega) _ (by simp) (by simp; omega)]
  simp only [Option.bind_some]
  have hd : ∀ j : Nat, (l.drop j).length = l.length - j := fun j => List.length_drop
  by_cases h : l.length < 9
  · rw [if_pos h]
    have hg : outGa (gaR l [4, 1, 1, 1, 1, 1]) = ([], 0, 3) := by
      have c4 : (1 : Int) ≤ 4 ∧ (4 : Int) ≤ 4 := by decide
      have c1 : (1 : Int) ≤ 1 ∧ (1 : Int) ≤ 4 := by decide
      have t4 : (4 : Int).toNat = 4 := rfl
      have t1 : (1 : Int).toNat = 1 := rfl
      simp only [gaR, if_pos c4, if_pos c1, t4, t1, List.drop_drop, hd]
      by_cases k4 : (l.length : Int) < 4
      · rw [if_pos k4]; rfl
      · rw [if_neg k4]
        by_cases k5 : ((l.length - 4 : Nat) : Int) < 1
        · rw [if_pos k5]; rfl
        · rw [if_neg k5]
          by_cases k6 : ((l.length - (4 + 1) : Nat) : Int) < 1
          · rw [if_pos k6]; rfl
          · rw [if_neg k6]
            by_cases k7 : ((l.length - (4 + 1 + 1) : Nat) : Int) < 1
            · rw [if_pos k7]; rfl
            · rw [if_neg k7]
              by_cases k8 : ((l.length - (4 + 1 + 1 + 1) : Nat) : Int) < 1
              · rw [if_pos k8]; rfl
              · rw [if_neg k8, if_pos (by omega)]; rfl
    simp only [hg]
    rw [if_neg (by decide)]
  · rw [if_neg h]
    have hg : outGa (gaR l [4, 1, 1, 1, 1, 1]) = ([((val (l.take 4) : Nat) : Int), rd l 4, rd l 5, rd l 6, rd l 7, rd l 8], 9, 0) := by
      have c4 : (1 : Int) ≤ 4 ∧ (4 : Int) ≤ 4 := by decide
      have c1 : (1 : Int) ≤ 1 ∧ (1 : Int) ≤ 4 := by decide
      have t4 : (4 : Int).toNat = 4 := rfl
      have t1 : (1 : Int).toNat = 1 := rfl
      simp only [gaR, if_pos c4, if_pos c1, t4, t1, List.drop_drop, hd]
      rw [if_neg (by omega), if_neg (by omega), if_neg (by omega), if_neg (by omega), if_neg (by omega), if_neg (by omega)]
      have v4 := val_one l hb 4 (by omega)
      have v5 := val_one l hb 5 (by omega)
      have v6 := val_one l hb 6 (by omega)
      have v7 := val_one l hb 7 (by omega)
      have v8 := val_one l hb 8 (by omega)
      simp only [outGa, v4, v5, v6, v7, v8]
      rfl
    have g5 := wrap_byte _ (hb.get 5)
    simp only [hg]
    have q0 : rd [((val (l.take 4) : Nat) : Int), rd l 4, rd l 5, rd l 6, rd l 7, rd l 8] 0 = ((val (l.take 4) : Nat) : Int) := rfl
    have q1 : rd [((val (l.take 4) : Nat) : Int), rd l 4, rd l 5, rd l 6, rd l 7, rd l 8] 1 = rd l 4 := rfl
    have q2 : rd [((val (l.take 4) : Nat) : Int), rd l 4, rd l 5, rd l 6, rd l 7, rd l 8] 2 = rd l 5 := rfl
    have q3 : rd [((val (l.take 4) : Nat) : Int), rd l 4, rd l 5, rd l 6, rd l 7, rd l 8] 3 = rd l 6 := rfl
    have q4 : rd [((val (l.take 4) : Nat) : Int), rd l 4, rd l 5, rd l 6, rd l 7, rd l 8] 4 = rd l 7 := rfl
    have q5 : rd [((val (l.take 4) : Nat) : Int), rd l 4, rd l 5, rd l 6, rd l 7, rd l 8] 5 = rd l 8 := rfl
    rw [q0, q1, q2, q3, q4, q5, g5.2, r_RMay _ (by omega)]
    simp only [List.length_cons, List.length_nil, Option.bind_some, decide_eq_true_iff]
    by_cases hr : isRule ((val (l.take 4) : Nat) : Int) (rd l 4) (rd l 5 - 1) (rd l 6) (rd l 7) (rd l 8)
    · simp [hr]
    · simp [hr]
end Go.Proofs.YtpaoofkahhhjaaaDoor.All
