/- The document's May and Put of layer 5. -/
import Derived.Test.YtpaoofkahhhjaaaDoorQ3Allx0
import Derived.Test.YtpaoofkahhhjaaaDoorQ3Allx11
import Derived.Test.YtpaoofkahhhjaaaDoorQ3Allx13
import Derived.Test.YtpaoofkahhhjaaaDoorQ3MathF
import Derived.Test.YtpaoofkahhhjaaaDoorQ3MathG
import Derived.Test.YtpaoofkahhhjaaaDoorQ3MathI
import Derived.Test.YtpaoofkahhhjaaaDoorQ3MathM
set_option linter.unusedVariables false
set_option linter.unusedSimpArgs false
namespace Go.Proofs.YtpaoofkahhhjaaaDoor.All
open Go.RowKit Go.Proofs.YtpaoofkahhhjaaaDoorW.PrintWords Go.Proofs.YtpaoofkahhhjaaaDoorW.PrintLast Go.Proofs.YtpaoofkahhhjaaaDoorW.PrintMore
open BM OB
theorem isMsg_0 (ep sq tg p l i q k o : Int) : isMsg 0 ep sq tg p l i q k o ↔ (zeroRule p l i q k o ∧ 1 ≤ ep ∧ ep ≤ 1048576 ∧ 0 ≤ sq ∧ sq ≤ 0 ∧ 0 ≤ tg ∧ tg ≤ 0) := ⟨fun h => ⟨h.2.2.1, h.2.2.2⟩, fun h => ⟨by decide, by decide, h.1, h.2⟩⟩
theorem isMsg_1 (ep sq tg p l i q k o : Int) : isMsg 1 ep sq tg p l i q k o ↔ (zeroRule p l i q k o ∧ 1 ≤ ep ∧ ep ≤ 1048576 ∧ 0 ≤ sq ∧ sq ≤ 1048576 ∧ 0 ≤ tg ∧ tg ≤ 4095) := ⟨fun h => ⟨h.2.2.1, h.2.2.2⟩, fun h => ⟨by decide, by decide, h.1, h.2⟩⟩
theorem isMsg_2 (ep sq tg p l i q k o : Int) : isMsg 2 ep sq tg p l i q k o ↔ (isRule p l i q k o ∧ 1 ≤ ep ∧ ep ≤ 1048576 ∧ 1 ≤ sq ∧ sq ≤ 1048576 ∧ 1 ≤ tg ∧ tg ≤ 4095) := ⟨fun h => ⟨h.2.2.1, h.2.2.2⟩, fun h => ⟨by decide, by decide, h.1, h.2⟩⟩
theorem isMsg_3 (ep sq tg p l i q k o : Int) : isMsg 3 ep sq tg p l i q k o ↔ (zeroRule p l i q k o ∧ 1 ≤ ep ∧ ep ≤ 1048576 ∧ 1 ≤ sq ∧ sq ≤ 1048576 ∧ 1 ≤ tg ∧ tg ≤ 4095) := ⟨fun h => ⟨h.2.2.1, h.2.2.2⟩, fun h => ⟨by decide, by decide, h.1, h.2⟩⟩
theorem isMsg_4 (ep sq tg p l i q k o : Int) : isMsg 4 ep sq tg p l i q k o ↔ (zeroRule p l i q k o ∧ 1 ≤ ep ∧ ep ≤ 1048576 ∧ 1 ≤ sq ∧ sq ≤ 1048576 ∧ 1 ≤ tg ∧ tg ≤ 4095) := ⟨fun h => ⟨h.2.2.1, h.2.2.2⟩, fun h => ⟨by decide, by decide, h.1, h.2⟩⟩
theorem isMsg_5 (ep sq tg p l i q k o : Int) : isMsg 5 ep sq tg p l i q k o ↔ (zeroRule p l i q k o ∧ 1 ≤ ep ∧ ep ≤ 1048576 ∧ 1 ≤ sq ∧ sq ≤ 1048576 ∧ 0 ≤ tg ∧ tg ≤ 0) := ⟨fun h => ⟨h.2.2.1, h.2.2.2⟩, fun h => ⟨by decide, by decide, h.1, h.2⟩⟩
theorem nz_dec (p l i q k o : Int) : ((!(p == 0) || (!(l == 0))) || (!(i == 0) || (!(q == 0) || ((!(k == 0) || (!(o == 0))))))) = !decide (zeroRule p l i q k o) := by
  rw [← zero_dec]
  cases (p == 0) <;> cases (l == 0) <;> cases (i == 0) <;> cases (q == 0) <;> cases (k == 0) <;> cases (o == 0) <;> rfl
theorem r_MMay (n : Nat) (hn : 300 ≤ n) (kd ep sq tg p l i q k o : Int) : wayfinderref05_May.f n kd ep sq tg p l i q k o = some (decide (isMsg kd ep sq tg p l i q k o)) := by
  obtain ⟨n, rfl⟩ : ∃ m, n = m + 2 := ⟨n - 2, by omega⟩
  have no : (¬ (0 ≤ kd ∧ kd ≤ 5 ∧ 1 ≤ ep ∧ ep ≤ 1048576 ∧ 0 ≤ sq ∧ sq ≤ 1048576 ∧ 0 ≤ tg ∧ tg ≤ 4095)) → decide (isMsg kd ep sq tg p l i q k o) = false := fun g => decide_eq_false (fun h => g (isMsg_bounds h))
  have jt : wayfinderref05_May.j0 (n + 2) true kd ep sq tg p l i q k o = some false := by simp only [wayfinderref05_May.j0, if_true]
  unfold wayfinderref05_May.f
  by_cases b1 : kd < 0
  · rw [if_pos b1, jt, no (by omega)]
  by_cases b2 : kd ≥ 6
  · rw [if_neg b1, if_pos b2, jt, no (by omega)]
  by_cases b3 : ep < 1
  · rw [if_neg b1, if_neg b2, if_pos b3, jt, no (by omega)]
  by_cases b4 : ep > 1048576
  · rw [if_neg b1, if_neg b2, if_neg b3, if_pos b4, jt, no (by omega)]
  by_cases b5 : sq < 0
  · rw [if_neg b1, if_neg b2, if_neg b3, if_neg b4, if_pos b5, jt, no (by omega)]
  by_cases b6 : sq > 1048576
  · rw [if_neg b1, if_neg b2, if_neg b3, if_neg b4, if_neg b5, if_pos b6, jt, no (by omega)]
  by_cases b7 : tg < 0
  · rw [if_neg b1, if_neg b2, if_neg b3, if_neg b4, if_neg b5, if_neg b6, if_pos b7, jt, no (by omega)]
  rw [if_neg b1, if_neg b2, if_neg b3, if_neg b4, if_neg b5, if_neg b6, if_neg b7]
  by_cases b8 : tg > 4095
  · rw [decide_eq_true b8, jt, no (by omega)]
  rw [decide_eq_false b8]
  clear no jt
  simp only [wayfinderref05_May.j0, wayfinderref05_May.j1, Bool.false_eq_true, if_false, nz_dec, r_RMay (n + 1) (by omega), Option.bind_some, Bool.not_eq_true', decide_eq_false_iff_not, decide_eq_true_iff, beq_iff_eq]
  have hk : kd = 0 ∨ kd = 1 ∨ kd = 2 ∨ kd = 3 ∨ kd = 4 ∨ kd = 5 := by omega
  rcases hk with rfl | rfl | rfl | rfl | rfl | rfl
  all_goals simp only [isMsg_0, isMsg_1, isMsg_2, isMsg_3, isMsg_4, isMsg_5]
  all_goals by_cases hz : zeroRule p l i q k o <;> by_cases hr : isRule p l i q k o <;> by_cases s3 : 1 ≤ sq <;> by_cases s4 : 1 ≤ tg
  all_goals simp [hz, hr, s3, s4]
  all_goals try omega
  all_goals first
    | (rw [Bool.eq_iff_iff]; simp; omega)
    | (by_cases s1 : sq = 0
       · rw [if_pos s1]; congr 1; rw [Bool.eq_iff_iff]; simp; omega
       · rw [if_neg s1]; congr 1; rw [Bool.eq_iff_iff]; simp; omega)
theorem r_MPut (n : Nat) (hn : 400 ≤ n) (kd ep sq tg p l i q k o : Int) : wayfinderref05_Put.f n kd ep sq tg p l i q k o = some (mPutR kd ep sq tg p l i q k o) := by
  unfold wayfinderref05_Put.f mPutR
  rw [r_MMay n (by omega)]
  simp only [Option.bind_some]
  by_cases h : isMsg kd ep sq tg p l i q k o
  · rw [decide_eq_true h, if_pos rfl, if_pos h, r_PutAll _ _ _ (by simp) (by simp; omega), msg_paR h]
    simp only [Option.bind_some]
    unfold msgBytes
    by_cases h2 : kd = 2
    · have hr : isRule p l i q k o := by have := h.2.2.1; unfold ruleOf at this; rw [if_pos h2] at this; exact this
      rw [if_pos h2, if_pos h2, r_RPut n (by omega)]
      unfold rPutR
      rw [if_pos hr]
      simp only [Option.bind_some]
      rw [if_pos (by rw [msgHead_length, ruleBytes_length]; omega)]
    · rw [if_neg h2, if_neg h2]
  · rw [decide_eq_false h, if_neg (by decide), if_neg h]
end Go.Proofs.YtpaoofkahhhjaaaDoor.All
