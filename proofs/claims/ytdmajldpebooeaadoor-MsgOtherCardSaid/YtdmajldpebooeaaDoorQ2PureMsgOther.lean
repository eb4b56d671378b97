/- Two messages that are not the same have other bytes. -/
import Derived.Test.YtdmajldpebooeaaDoorQ2Allx14
import Derived.Test.YtdmajldpebooeaaDoorQ2MathM
import Derived.Test.YtdmajldpebooeaaDoorQ2MathQ
set_option linter.unusedVariables false
set_option linter.unusedSimpArgs false
namespace Go.Proofs.YtdmajldpebooeaaDoor.Pure
open Go.RowKit Go.Proofs.YtdmajldpebooeaaDoor.All Go.Proofs.YtdmajldpebooeaaDoorW.PrintWords Go.Proofs.YtdmajldpebooeaaDoorW.PrintLast
open Go.Proofs.YtdmajldpebooeaaDoor.All.BM Go.Proofs.YtdmajldpebooeaaDoor.All.OB
theorem f_awake5 (k : Nat) (hk : 200 ≤ k) : wayfinderlaw05_awake.f k = some true := by
  unfold wayfinderlaw05_awake.f
  rw [f_MPut k (by omega)]
  have hr : isMsg 0 3 0 0 0 0 0 0 0 0 := by decide +kernel
  have hbts : msgBytes 0 3 0 0 0 0 0 0 0 0 = [0, 0, 0, 3, 0, 0, 0, 0, 0] := by decide +kernel
  simp only [mPutR, if_pos hr, Option.bind_some, if_true, hbts, Lib.strOfNums_toList]
  decide
theorem MsgOther : wayfinderlaw05_MsgOther.Pure := by
  intro kd ep sq tg p l i q k o kd' ep' sq' tg' p' l' i' q' k' o' _ _ _ _ _ _ _ _ _ _ _ _ _ _ _ _ _ _ _ _
  refine ⟨5001, ?_⟩
  unfold wayfinderlaw05_MsgOther.f
  rw [f_awake5 _ (by omega), f_MPut _ (by omega), f_MPut _ (by omega)]
  simp only [Option.bind_some, if_true]
  unfold mPutR
  by_cases h : isMsg kd ep sq tg p l i q k o
  · by_cases h' : isMsg kd' ep' sq' tg' p' l' i' q' k' o'
    · rw [if_pos h, if_pos h']
      simp only [if_true]
      congr 1
      rw [str_beq (msgBytes_bytes h) (msgBytes_bytes h'), beq_iff_eq, Bool.eq_iff_iff, decide_eq_true_iff]
      simp only [Bool.and_eq_true, beq_iff_eq]
      constructor
      · intro e
        obtain ⟨e0, e1, e2, e3, e4, e5, e6, e7, e8, e9⟩ := msgBytes_inj h h' e
        exact ⟨e0, e1, e2, e3, ⟨e4, e5⟩, e6, e7, e8, e9⟩
      · rintro ⟨rfl, rfl, rfl, rfl, ⟨rfl, rfl⟩, rfl, rfl, rfl, rfl⟩
        rfl
    · rw [if_pos h, if_neg h']
      rfl
  · rw [if_neg h]
    rfl
end Go.Proofs.YtdmajldpebooeaaDoor.Pure
