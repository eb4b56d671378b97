/- A message of one kind with what only another one tells of may not be. -/
import Derived.Test.YtdmajldpebooeaaDoorQ6Allx13
import Derived.Test.YtdmajldpebooeaaDoorQ6MathM
import Derived.Test.YtdmajldpebooeaaDoorQ6MathO
set_option linter.unusedVariables false
set_option linter.unusedSimpArgs false
namespace Go.Proofs.YtdmajldpebooeaaDoor.Pure
open Go.RowKit Go.Proofs.YtdmajldpebooeaaDoor.All Go.Proofs.YtdmajldpebooeaaDoorW.PrintWords Go.Proofs.YtdmajldpebooeaaDoorW.PrintLast
open Go.Proofs.YtdmajldpebooeaaDoor.All.BM Go.Proofs.YtdmajldpebooeaaDoor.All.OB
theorem f_awake5 (k : Nat) (hk : 200 ≤ k) : wayfinderlaw05_awake.f k = some true := by
  unfold wayfinderlaw05_awake.f
  rw [f_MPut k (by omega)]
  have hr : isMsg 0 3 0 0 0 0 0 0 0 0 := by decide +kernel
  have hbts : msgBytes 0 3 0 0 0 0 0 0 0 0 = [0, 0, 0, 3, 0, 0, 0, 0, 0] := by decide +kernel
  simp only [mPutR, if_pos hr, Option.bind_some, if_true, hbts, Lib.strOfNums_toList]
  decide
theorem kinds_j0 (k : Nat) (kd ep sq tg p l i q kk o p' l' i' q' k' o' : Int) (hm : isMsg kd ep sq tg p l i q kk o) (hz : ¬ zeroRule p' l' i' q' k' o') : wayfinderlaw05_MsgKinds.j0 (k + 1) true false kd ep sq tg p l i q kk o p' l' i' q' k' o' = some true := by
  have hk : kd = 0 ∨ kd = 1 ∨ kd = 2 ∨ kd = 3 ∨ kd = 4 ∨ kd = 5 := by have := hm.1; have := hm.2.1; omega
  simp only [wayfinderlaw05_MsgKinds.j0, f_MMay, Option.bind_some, Bool.false_eq_true, if_false]
  rcases hk with rfl | rfl | rfl | rfl | rfl | rfl
  · rw [isMsg_0] at hm
    rw [decide_eq_false (show ¬ isMsg 0 ep sq tg p' l' i' q' k' o' from fun h => hz ((isMsg_0 ..).1 h).1), decide_eq_false (show ¬ isMsg 0 ep sq 7 p l i q kk o from fun h => by have := ((isMsg_0 ..).1 h).2; omega), decide_eq_true (show isMsg 0 ep 0 tg p l i q kk o from (isMsg_0 ..).2 ⟨hm.1, by omega⟩)]
    rfl
  · rw [isMsg_1] at hm
    rw [decide_eq_false (show ¬ isMsg 1 ep sq tg p' l' i' q' k' o' from fun h => hz ((isMsg_1 ..).1 h).1), decide_eq_true (show isMsg 1 ep 0 tg p l i q kk o from (isMsg_1 ..).2 ⟨hm.1, by omega⟩)]
    rfl
  · rw [decide_eq_false (show ¬ isMsg 2 ep 0 tg p l i q kk o from fun h => by have := ((isMsg_2 ..).1 h).2; omega)]
    rfl
  · rw [decide_eq_false (show ¬ isMsg 3 ep sq tg p' l' i' q' k' o' from fun h => hz ((isMsg_3 ..).1 h).1), decide_eq_false (show ¬ isMsg 3 ep 0 tg p l i q kk o from fun h => by have := ((isMsg_3 ..).1 h).2; omega)]
    rfl
  · rw [decide_eq_false (show ¬ isMsg 4 ep sq tg p' l' i' q' k' o' from fun h => hz ((isMsg_4 ..).1 h).1), decide_eq_false (show ¬ isMsg 4 ep 0 tg p l i q kk o from fun h => by have := ((isMsg_4 ..).1 h).2; omega)]
    rfl
  · rw [decide_eq_false (show ¬ isMsg 5 ep sq tg p' l' i' q' k' o' from fun h => hz ((isMsg_5 ..).1 h).1), decide_eq_false (show ¬ isMsg 5 ep sq 7 p l i q kk o from fun h => by have := ((isMsg_5 ..).1 h).2; omega), decide_eq_false (show ¬ isMsg 5 ep 0 tg p l i q kk o from fun h => by have := ((isMsg_5 ..).1 h).2; omega)]
    rfl
theorem kinds_up (k : Nat) (kd ep sq tg p l i q kk o p' l' i' q' k' o' : Int) : wayfinderlaw05_MsgKinds.j0 (k + 1) true true kd ep sq tg p l i q kk o p' l' i' q' k' o' = some true := by
  simp only [wayfinderlaw05_MsgKinds.j0, if_true]
theorem MsgKinds : wayfinderlaw05_MsgKinds.Pure := by
  intro kd ep sq tg p l i q kk o p' l' i' q' k' o' _ _ _ _ _ _ _ _ _ _ _ _ _ _ _ _
  refine ⟨5001, ?_⟩
  unfold wayfinderlaw05_MsgKinds.f
  rw [f_awake5 _ (by omega), f_MMay, zero_dec]
  simp only [Option.bind_some, if_true]
  by_cases hm : isMsg kd ep sq tg p l i q kk o
  · rw [decide_eq_true hm, if_pos rfl]
    by_cases hz : zeroRule p' l' i' q' k' o'
    · rw [decide_eq_true hz]
      exact kinds_up 5000 ..
    · rw [decide_eq_false hz]
      exact kinds_j0 5000 _ _ _ _ _ _ _ _ _ _ _ _ _ _ _ _ hm hz
  · rw [decide_eq_false hm, if_neg (by decide)]
    exact kinds_up 5000 ..
end Go.Proofs.YtdmajldpebooeaaDoor.Pure
